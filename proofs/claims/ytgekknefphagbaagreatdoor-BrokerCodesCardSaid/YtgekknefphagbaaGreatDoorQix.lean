/- The broker: a tick. -/
import Derived.Test.YtgekknefphagbaaGreatDoorIsx
import Derived.KernelRfl
import Derived.Test.YtgekknefphagbaaGreatDoorQg0x
namespace Go.Proofs.YtgekknefphagbaaGreatDoor
open Go.RowKit
set_option linter.unusedSimpArgs false
set_option linter.unusedVariables false
set_option linter.unusedSectionVars false
set_option maxHeartbeats 4000000
set_option maxRecDepth 100000
section
attribute [local irreducible] SN.own ownT ownC ownS ownB zae zbr zak zaQ outM zc9 zbm
attribute [local irreducible] DW SeqD DV DOp DC DVX DVJ idsF usI sortS putM zal onlyM
theorem nilE_o:nilE.outs=[]:=rfl
theorem nilE_p:nilE.pubs=[]:=rfl
theorem nilE_a:nilE.adds=[]:=rfl
theorem nilE_d:nilE.drops=[]:=rfl
section
attribute [local push_cast 2000] Cn.cells za8 zbb zaE zaX zaF zaA zbe za9 za4 za7 zbd zaI zaC zba zaG zaw zaH zav zbc zaB zay zbf zaD zax zau zbq zb1 zbt zaZ zaM zaP Option.getD_some Option.getD_none Option.isSome_some Option.isSome_none
end
end
section
theorem zgb (now:Int) (nm:YS):zb6 now (newA nm)=newA nm:=rfl
theorem zgq (now:Int) (nm:YS):zao now (newA nm)=[]:=rfl
theorem zhC:zaQ []=[]:=List.eq_nil_of_length_eq_zero (Nat.le_zero.1 (zab []))
theorem zgB (kind id:Int) (pr:Bool) (code:Int) (h:kind∈[2,4,5,6,7,11,13] ) (h2:kind=2\/(pr=false/\code=0)) (h3:kind=2\/kind=13->id=0):onlyM (zan kind id pr code)=zan kind id pr code:=by
 simp only [List.mem_cons,List.not_mem_nil,or_false] at h
 rcases h with rfl | rfl | rfl | rfl | rfl | rfl | rfl<;>simp at h2 h3<;>(try obtain ⟨rfl,rfl⟩:=h2)<;>(try subst h3)<;>rfl
theorem zfc {pr:Bool} {code:Int} (h:0<=code/\code<=5) (h2:pr=true->code=0):zal (zan 2 0 pr code)=true:=by
 have e:onlyM (zan 2 0 pr code)=zan 2 0 pr code:=zgB 2 0 pr code (by simp) (.inl rfl) (fun _=>rfl)
 have hc:chkB []=true:=by first | rfl | decide | simp [chkB]
 have hc6:code=0\/code=1\/code=2\/code=3\/code=4\/code=5:=by omega
 unfold zal preM
 rw [e]
 cases pr with
 | false=>rcases hc6 with rfl | rfl | rfl | rfl | rfl | rfl<;>simp [zan,inM,zdZ,hc,zer,numM,zbi]
 | true =>
  have:=h2 rfl
  subst this
  simp [zan,inM,zdZ,hc,zer,numM,zbi]
theorem zql:varM 2=[2]:=by kernel_rfl
theorem varM_0:varM 0=[0]:=by kernel_rfl
theorem byteW_0:zbn 0=0:=by kernel_rfl
theorem byteW_1:zbn 1=1:=by kernel_rfl
theorem zk0:zbn 32=32:=by kernel_rfl
theorem zno:zbn 208=208:=by kernel_rfl
def zc8 (pr:Bool) (code:Int):YS:=[32,2,if pr=true then 1 else 0,zbn code]
theorem zk3 {pr:Bool} {code:Int} (h:0<=code/\code<=5) (h2:pr=true->code=0):putM (zan 2 0 pr code)=zc8 pr code:=by
 unfold putM
 rw [if_pos (zfc h h2)]
 show zbn 32::(varM 2++[zbn (if pr=true then 1 else 0),zbn code])=zc8 pr code
 unfold zc8
 cases pr
 · simp [zql,zk0,byteW_0]
 · simp [zql,zk0,byteW_1]
theorem zhn (n:Int) {pr:Bool} {code:Int} (h:0<=code/\code<=5) (h2:pr=true->code=0):outM n [zan 2 0 pr code]=[⟨n,zc8 pr code,false⟩]:=by rw [znz (zfc h h2),zk3 h h2]
theorem zgK:zal (zan 13 0 false 0)=true:=by
 have e:onlyM (zan 13 0 false 0)=zan 13 0 false 0:=zgB 13 0 false 0 (by simp) (.inr ⟨rfl,rfl⟩) (fun _=>rfl)
 have hc:chkB []=true:=by first | rfl | decide | simp [chkB]
 unfold zal preM
 rw [e]
 simp [zan,inM,zdZ,hc,zer,numM,zbi]
theorem zpw (n:Int):outM n [zan 13 0 false 0]=[⟨n,[208,0],false⟩]:=by
 rw [znz zgK]
 unfold putM
 rw [if_pos zgK]
 show [(⟨n,zbn 208::(varM 0++[]),false⟩:Ou)]=_
 rw [varM_0,zno];rfl
end
section
theorem zgf {b:Br} {nm:YS} (h:b.ses nm=none):zak nm b=([],b):=by unfold zak;rw [h]
theorem zh5 (e:Ef) (o:List Ou) (h:e.drops=[]):andM e ⟨o,[],[],[]⟩=⟨e.outs++o,e.pubs,e.adds,[]⟩:=by
 unfold andM
 rw [h]
 simp only [List.append_nil,zhC]
def zce (lev:Int) (nm:YS) (cl:Bool) (kp:Int) (hw:Bool) (wt wp:YS) (wq:Int) (wr:Bool):Pk:=⟨1,false,false,0,0,[],[],lev,nm,cl,kp,hw,wt,wp,wq,wr,false,false,[],[],false,0,[],[]⟩
theorem zhP {b:Br} {n now:Int} {p:Pk} (hlv:p.level=4) (hn:p.client≠[]) (hw:p.hasWill=true->zbz p.wtopic=true) (hof:ofM p.client b = -1) (hs:b.ses p.client=none) :
  zat n p now b=(⟨[⟨n,zc8 false 0,false⟩],[],[],[]⟩,⟨b.conns.map (fun c=>if c.n=n then zd1 p.client p c else c),b.sess++[newA p.client],b.L⟩):=by
 have hnm:nameM n p=p.client:=by unfold nameM;rw [if_neg hn]
 unfold zat
 rw [if_neg (fun h=>h hlv),if_neg (fun h=>hn h.1),if_neg (fun h=>by rw [hw h.1] at h;exact Bool.noConfusion h.2),hnm,zgW hof]
 have hx:zbs p.clean p.client (nilE,b)=(nilE,b):=by
  unfold zbs
  split
  · rw [zgf hs,zh5 _ _ rfl];rfl
  · rfl
 rw [hx]
 unfold zbu zei zap sesD
 simp only [hs,Option.isSome_none,Option.getD_none,Bool.false_eq_true,if_false,zgq,zgb]
 rw [zhn n ⟨by decide,by decide⟩ (fun h=>Bool.noConfusion h),zh5 _ _ rfl]
 rfl
def zbg (n:Int):Br:=⟨[newC n 0],[],[]⟩
def zbG (n:Int) (nm:YS) (kp:Int) (cl:Bool) (hd:Int) (w:List Mg):Br:=⟨[⟨n,[],0,hd,some nm,kp,cl,w⟩],[newA nm],[]⟩
theorem zhT (n:Int):BSz (zbg n):=⟨Nat.zero_le _,fun _ h=>nomatch h⟩
theorem zmq (n:Int) (nm:YS) (kp:Int) (cl:Bool) (hd:Int) (w:List Mg):BSz (zbG n nm kp cl hd w):=⟨Nat.zero_le _,fun a ha=>by
 rw [List.mem_singleton.1 ha];exact ⟨Nat.zero_le _,fun _ h=>nomatch h⟩⟩
theorem ziQ:zbm 0=0:=by unfold zbm;decide
theorem zdQ (n:Int):(zbg n).conn n=some (newC n 0):=by simp [zbg,Br.conn,newC]
theorem zgO (n:Int) (nm:YS) (kp:Int) (cl:Bool) (hd:Int) (w:List Mg):(zbG n nm kp cl hd w).conn n=some ⟨n,[],0,hd,some nm,kp,cl,w⟩:=by simp [zbG,Br.conn]
theorem zpd (n:Int) (hn:0<=n/\n<16):zlG n 0 newB=zbg n:=by
 unfold zlG newB zbg Br.conn
 rw [if_neg (by simp;omega)];rfl
theorem zfK (n:Int):zcV n 0 (zbg n)=zbg n:=by simp [zcV,zbg,newC,ziQ]
theorem zjq (n now:Int) (nm:YS) (kp:Int) (cl:Bool) (hd:Int) (w:List Mg):zcV n now (zbG n nm kp cl hd w)=zbG n nm kp cl (zbm now) w:=by simp [zcV,zbG]
attribute [local irreducible] SN.own ownT ownC ownS ownB zae zbr zak zaQ zbz outM zat
attribute [local irreducible] DW SeqD DV DOp DC DVX DVJ idsF usI sortS putM zal onlyM
theorem zjY (bb:Nat) (s:BN) (n:Int) (F:Own):(BOK s/\s.pl=newB/\0<=n/\n<16)->DC Tryz.prog 13 [.raw (.pointer (some ⟨bb,0,none⟩)), .int .i64 n, .int .i64 0] ((ownB bb s++[])++F) fun d G=>∃ s':BN,(BOK s'/\s'.pl=zbg n)/\d = .int .i64 0/\G=ownB bb s'++F:=fun ⟨h,hp,hn⟩=>by
 have:=zmP bb s n 0 F ⟨h,hn,by rw [hp];rfl⟩
 rwa [hp,zpd n hn] at this
theorem zmT (bb:Nat) (s:BN) (n:Int) (F:Own):(BOK s/\s.pl=zbg n/\0<=n/\n<16)->DC Tryz.prog 13 [.raw (.pointer (some ⟨bb,0,none⟩)), .int .i64 n, .int .i64 0] ((ownB bb s++[])++F) fun d G=>d = .int .i64 30/\G=(ownB bb s++[])++F:=fun ⟨h,hp,hn⟩ =>
 znP bb s n 0 F ⟨hn.1,hn.2,by rw [hp,zdQ];rfl⟩
theorem zo4 (bb:Nat) (m:Int) (T5:TypeId) (fr5:Nat×Nat) (s:BN) (n:Int) (nm:YS) (cl:Bool) (kp:Int) (F:Own):(BOK s/\s.pl=zbg n/\(0<=n/\n<16)/\nm≠[]/\nm.length<=1000/\0<=kp/\kp<=1000)->DC Tryz.prog 14 [.raw (.pointer (some ⟨bb,0,none⟩)), .int .i64 n, .agg [.int .i64 1, .bool false, .bool false, .int .i64 0, .int .i64 0, .str [], .gs (.slice none 0 0) [], .int .i64 4, .str nm, .bool cl, .int .i64 kp, .bool false, .str [], .gs (.slice none 0 0) [], .int .i64 0, .bool false, .bool false, .bool false, .str [], .gs (.slice none 0 0) [], .bool false, .int .i64 0, .gs (.slice none 0 0) [], .gs (.slice none 0 0) []], .int .i64 0, .agg [.gs (.slice none 0 0) [], .gs (.slice none 0 0) [], .gs (.slice none 0 0) [], .gs (.slice none 0 0) []]] ((knP T5 fr5::loose::knF::knA::knM m::(ownB bb s++[]))++F) fun d G=>∃ s':BN,(BOK s'/\s'.pl=zbG n nm kp cl 0 [])/\d = .tup [zcM ⟨[⟨n,zc8 false 0,false⟩],[],[],[]⟩, .int .i64 0]/\G=knP T5 fr5::loose::knF::knA::knM m::(ownB bb s'++F):=fun ⟨h,hp,hn,hnm,hnl,hk0,hk1⟩=>by
 have h1:=zfE bb m T5 fr5 s n 0 (zce 4 nm cl kp false [] [] 0 false) [] [] [] [] F ⟨h,by rw [hp];exact zhT n,⟨_,by rw [hp];exact zdQ n,rfl⟩,⟨hn,by unfold nameM;rw [if_neg (show ¬ (zce 4 nm cl kp false [] [] 0 false).client=[] from hnm)];show nm.length<=100000;omega,Nat.zero_le _,Nat.zero_le _,by show -1000000000<=kp;omega,by show kp<=1000000000;omega⟩,rfl⟩
 rw [hp,zfK,zhP (p:=zce 4 nm cl kp false [] [] 0 false) rfl hnm (fun h=>Bool.noConfusion h) (by simp [ofM,zbg,newC]) (by simp [Br.ses,zbg])] at h1
 have h2:(⟨(zbg n).conns.map (fun c=>if c.n=n then zd1 nm (zce 4 nm cl kp false [] [] 0 false) c else c),(zbg n).sess++[newA nm],(zbg n).L⟩:Br)=zbG n nm kp cl 0 []:=by simp [zbg,newC,zbG,zd1,zce,ziQ]
 simp only [zce] at h1 h2
 rw [h2] at h1
 exact DC.args (Les.cons le.rfl_ (Les.cons le.rfl_ (Les.cons (le.agg (Les.cons le.rfl_ (Les.cons le.rfl_ (Les.cons le.rfl_ (Les.cons le.rfl_ (Les.cons le.rfl_ (Les.cons le.rfl_ (Les.cons (le.gs rfl) (Les.cons le.rfl_ (Les.cons le.rfl_ (Les.cons le.rfl_ (Les.cons le.rfl_ (Les.cons le.rfl_ (Les.cons le.rfl_ (Les.cons (le.gs rfl) (Les.cons le.rfl_ (Les.cons le.rfl_ (Les.cons le.rfl_ (Les.cons le.rfl_ (Les.cons le.rfl_ (Les.cons (le.gs rfl) (Les.cons le.rfl_ (Les.cons le.rfl_ (Les.cons (le.gs rfl) (Les.cons (le.gs rfl) (Les.nil)))))))))))))))))))))))))) (Les.cons le.rfl_ (Les.cons (le.agg (Les.cons (le.gs rfl) (Les.cons (le.gs rfl) (Les.cons (le.gs rfl) (Les.cons (le.gs rfl) Les.nil))))) Les.nil))))) h1
theorem zpf (bb:Nat) (m:Int) (s:BN) (n:Int) (nm:YS) (cl:Bool) (kp hd now:Int) (w:List Mg) (F:Own):(BOK s/\s.pl=zbG n nm kp cl hd w)->DC Tryz.prog 14 [.raw (.pointer (some ⟨bb,0,none⟩)), .int .i64 n, .agg [.int .i64 12, .bool false, .bool false, .int .i64 0, .int .i64 0, .str [], .gs (.slice none 0 0) [], .int .i64 0, .str [], .bool false, .int .i64 0, .bool false, .str [], .gs (.slice none 0 0) [], .int .i64 0, .bool false, .bool false, .bool false, .str [], .gs (.slice none 0 0) [], .bool false, .int .i64 0, .gs (.slice none 0 0) [], .gs (.slice none 0 0) []], .int .i64 now, .agg [.gs (.slice none 0 0) [], .gs (.slice none 0 0) [], .gs (.slice none 0 0) [], .gs (.slice none 0 0) []]] ((loose::knF::knA::knM m::(ownB bb s++[]))++F) fun d G=>∃ s':BN,(BOK s'/\s'.pl=zbG n nm kp cl (zbm now) w)/\d = .tup [zcM ⟨[⟨n,[208,0],false⟩],[],[],[]⟩, .int .i64 0]/\G=loose::knF::knA::knM m::(ownB bb s'++F):=fun ⟨h,hp⟩=>by
 have h1:=ziB bb m s n now (zan 12 0 false 0) [] [] [] [] F ⟨h,by rw [hp];exact zmq ..,⟨_,by rw [hp];exact zgO ..,rfl⟩,rfl⟩
 rw [hp,zjq,zpw] at h1
 simp only [zan] at h1
 exact DC.args (Les.cons le.rfl_ (Les.cons le.rfl_ (Les.cons (le.agg (Les.cons le.rfl_ (Les.cons le.rfl_ (Les.cons le.rfl_ (Les.cons le.rfl_ (Les.cons le.rfl_ (Les.cons le.rfl_ (Les.cons (le.gs rfl) (Les.cons le.rfl_ (Les.cons le.rfl_ (Les.cons le.rfl_ (Les.cons le.rfl_ (Les.cons le.rfl_ (Les.cons le.rfl_ (Les.cons (le.gs rfl) (Les.cons le.rfl_ (Les.cons le.rfl_ (Les.cons le.rfl_ (Les.cons le.rfl_ (Les.cons le.rfl_ (Les.cons (le.gs rfl) (Les.cons le.rfl_ (Les.cons le.rfl_ (Les.cons (le.gs rfl) (Les.cons (le.gs rfl) (Les.nil)))))))))))))))))))))))))) (Les.cons le.rfl_ (Les.cons (le.agg (Les.cons (le.gs rfl) (Les.cons (le.gs rfl) (Les.cons (le.gs rfl) (Les.cons (le.gs rfl) Les.nil))))) Les.nil))))) h1
theorem zm0 (bb:Nat) (s:BN) (n:Int) (nm:YS) (cl:Bool) (kp hd:Int) (w:List Mg) (F:Own):(BOK s/\s.pl=zbG n nm kp cl hd w)->DC Tryz.prog 17 [.raw (.pointer (some ⟨bb,0,none⟩)), .int .i64 n] ((ownB bb s++[])++F) fun d G=>d = .str nm/\G=(ownB bb s++[])++F:=fun ⟨h,hp⟩=>by
 have h1:=zn4 bb s n F h
 have h2:zdI n (zbG n nm kp cl hd w)=nm:=by unfold zdI;rw [zgO];rfl
 rwa [hp,h2] at h1
end
section
theorem connB_0:zc8 false 0=[32,2,0,0]:=by kernel_rfl
attribute [local irreducible] SN.own ownT ownC ownS ownB zae zbr zak zaQ zbz outM zat zc8 newB zbg zbG
attribute [local irreducible] DW SeqD DV DOp DC DVX DVJ idsF usI sortS putM zal onlyM
theorem zb9 {p:Prop} (h:p:=by first | exact sv | exact rfl | exact ⟨hs0,hp0,by decide,by decide⟩ | exact ⟨hs1,hp1,by decide,by decide⟩ | exact ⟨hs1,hp1,⟨by decide,by decide⟩,by decide,by decide,by decide,by decide⟩ | exact ⟨hs2,hp2⟩ | exact ⟨hs3,hp3⟩ | fail):p:=h
section
attribute [local push_cast 2000] connB_0 zcM encOu List.map_cons List.map_nil
theorem zln (m:Int) (T5:TypeId) (fr5:Nat×Nat) (F:Own):(True)->DC Tryz.prog 11 [] ([loose,knP T5 fr5,knF,knA,knM m]++F) fun d G=>d = .bool true/\G=[loose,knP T5 fr5,knF,knA,knM m]++F:=by
 intro hA
 refine DC.bodyS (n_:=74) (show Tryz.prog.funcs[11]? = some Tryz.f11 by kernel_rfl) rfl rfl (by rfl) ?_
 simp only [env0,List.append_assoc,List.cons_append,List.nil_append]
 have kw:=ksIs [0,1,2,3,4,5,18]
 have ow:=zaf []
 repeat' (first
  | refine g_ ?_
  | ((with_reducible refine And.intro ?_ ?_);(exact zb9))
  | (refine DW.cond (by rfl) ?_ ?_<;>(first | exact i0_ | (refine ic_ ?_;intro hb)))
  | ((with_reducible refine zaa ?_ ?_)<;>(intro hb;rw [hb];revert hb;(first | exact i0_ | (refine i_ ?_;intro hb))))
  | refine r_ ?_
  | refine k_ ?_
  | (refine p_ (znB _) ?_ (ha:=by exact zb9);rintro d H1 ⟨bb,s0,⟨hs0,hp0⟩,rfl,rfl⟩<;>refine s_ ?_)
  | (refine p_ (zjY _ _ _ _) ?_ (ha:=by exact zb9);rintro d H1 ⟨s1,⟨hs1,hp1⟩,rfl,rfl⟩<;>refine s_ ?_)
  | (refine q_ (zmT _ _ _ _) ?_ (ha:=by exact zb9))
  | (refine p_ (zo4 _ _ _ _ _ _ _ _ _ _) ?_ (ha:=by exact zb9);rintro d H1 ⟨s2,⟨hs2,hp2⟩,rfl,rfl⟩<;>refine s_ ?_)
  | (refine p_ (zpf (nm:=[107]) (cl:=true) (kp:=0) (hd:=0) (w:=[]) _ _ _ _ _ _) ?_ (ha:=by exact zb9);rintro d H1 ⟨s3,⟨hs3,hp3⟩,rfl,rfl⟩<;>refine s_ ?_)
  | (refine q_ (zm0 (nm:=[107]) (cl:=true) (kp:=0) (hd:=zbm 0) (w:=[]) _ _ _ _) ?_ (ha:=by exact zb9))
  | refine o_ ?_
  | refine f_ ?_
  | ((fail_if_success (have zz:=eb));with_reducible intro eb)
  | ((fail_if_success (have zz:=gb));with_reducible intro gb)
  | with_reducible intro b)
 all_goals first
 | ((exact absurd rfl hb))
 | ((first | exact fin_ | refine finq_ ?_);done)
 | (trace_state;fail)
end
end
section
attribute [local irreducible] DW SeqD DV DOp DC DVX DVJ idsF usI sortS putM zal onlyM
theorem zen (rv:V) (F:Own):((rv = .sl []\/∃ v,rv = .gs v []))->DC Tryz.prog 32 [rv] (([]:Own)++F) fun d G=>d = .tup [.agg [.int .i64 0, .bool false, .bool false, .int .i64 0, .int .i64 0, .str [], .gs (.slice none 0 0) [], .int .i64 0, .str [], .bool false, .int .i64 0, .bool false, .str [], .gs (.slice none 0 0) [], .int .i64 0, .bool false, .bool false, .bool false, .str [], .gs (.slice none 0 0) [], .bool false, .int .i64 0, .gs (.slice none 0 0) [], .gs (.slice none 0 0) []], .int .i64 0, .int .i64 20]/\G=[]++F:=by
 intro hA
 have hrv:=hA
 refine DC.bodyS (n_:=88) (show Tryz.prog.funcs[32]? = some Tryz.f32 by kernel_rfl) rfl rfl (by rfl) ?_
 simp only [env0,List.cons_append,List.nil_append]
 have kw:=ksIs [0,2,3,4,5,6,7,8,9,10,11,14,20,29,34,38,83]
 have ow:=zaf []
 have rw_:=rsIs [.cell 2 29, .tmp 3, .tmp 4]
 rcases hrv with rfl | ⟨v,rfl⟩
 repeat' (first
  | refine g_ ?_
  | ((with_reducible refine And.intro ?_ ?_);(exact sv))
  | (refine DW.cond (by rfl) ?_ ?_<;>(first | exact i0_ | (refine ic_ ?_;intro hb)))
  | ((with_reducible refine zaa ?_ ?_)<;>(intro hb;rw [hb];revert hb;(first | exact i0_ | (refine i_ ?_;intro hb))))
  | refine r_ ?_
  | refine k_ ?_
  | refine o_ ?_
  | refine f_ ?_
  | ((fail_if_success (have zz:=pb));with_reducible intro pb)
  | with_reducible intro b)
 all_goals first
 | ((first | exact fin_ | refine finq_ ?_);done)
 | (trace_state;fail)
theorem zdK {p:Prop} (h:p:=by first | exact sv | exact .inl rfl | exact .inr ⟨_,rfl⟩ | fail):p:=h
theorem zgl (sb:Nat) (rv:V) (F:Own):((rv = .sl []\/∃ v,rv = .gs v []))->DC Tryz.prog 46 [.raw (.pointer (some ⟨sb,0,none⟩)), .sl []] (.blk sb [rv, .int .i64 0]::([]:Own)++F) fun d G=>∃ rv',(rv' = .sl []\/∃ v,rv' = .gs v [])/\d = .tup [.gs (.slice none 0 0) [], .int .i64 0]/\G = .blk sb [rv', .int .i64 0]::F:=by
 intro hA
 have hrv:=hA
 refine DC.bodyS (n_:=65) (show Tryz.prog.funcs[46]? = some Tryz.f46 by kernel_rfl) rfl rfl (by rfl) ?_
 simp only [env0,List.cons_append,List.nil_append]
 have kw:=ksIs [0,1,4,5,6,7,8,9,14,39,42]
 have ow:=zaf []
 have dw2:=drIs 2 [] [3]
 rcases hrv with rfl | ⟨v,rfl⟩
 repeat' (first
  | ((with_reducible refine DW.loopB 0 (X:=Nat) (fun x=>x=0) (fun x=>[(0, .raw (.pointer (some ⟨sb,0,none⟩))),(4, .gs (.slice none 0 0) []),(5, .int .i64 0),(6, .gs (.slice none 0 0) [])]) (fun x=>.blk sb [.gs pb [], .int .i64 0]::([]:Own)) (fun x=>x) (0) ?_ ?_ ?_);exact (rfl);(simp [Sub,get,zaW]<;>fail);(try simp only [List.cons_append,List.nil_append]);refine pl_ ?_;intro k hk;(try simp only [List.cons_append,List.nil_append]);(try simp only at hk))
  | refine g_ ?_
  | ((with_reducible refine And.intro ?_ ?_);(exact zdK))
  | (refine DW.cond (by rfl) ?_ ?_<;>(first | exact i0_ | (refine ic_ ?_;intro hb)))
  | ((with_reducible first | refine zaa ?_ ?_ | refine zai ?_ ?_)<;>(intro hb;rw [hb];revert hb;(first | exact i0_ | (refine i_ ?_;intro hb))))
  | refine r_ ?_
  | refine d_ ?_
  | refine k_ ?_
  | ((refine dm_ ?_);(first | (refine v_ (zen _ _) ?_ (ha:=by exact zdK))))
  | refine vo_ ?_
  | (refine q_ (zen _ _) ?_ (ha:=by exact zdK))
  | refine o_ ?_
  | refine f_ ?_
  | refine vm_ ?_
  | ((fail_if_success (have zz:=v9));with_reducible intro v9)
  | ((fail_if_success (have zz:=pb));with_reducible intro pb)
  | with_reducible intro b)
 all_goals first
 | (((refine ⟨_,_,le.rfl_,⟨_, .inr ⟨pb,rfl⟩,rfl,rfl⟩,?_⟩);(exact sub_);done))
 | (trace_state;fail)
theorem any_s {α:Type} [Inhabited α] {l:List α} {k:Nat} (hk:k<l.length) {p:α->Bool}:(l.take (k+1)).any p=((l.take k).any p||p (l.getD k default)):=by
 rw [takeB_s hk,List.any_append];simp
theorem zeb {p:Prop} (h:p:=by first | exact sv | exact hrv | fail):p:=h
theorem zn8 {P Q:Prop} (q:Q) (h:Hid Q->P:=by (intro q;simp (maxSteps:=1000000) (disch:=omega) only [push_cast,↓reduceIte,reduceCtorEq,Nat.reduceAdd,Nat.reduceMul,Nat.reduceLT,Nat.reduceLeDiff,Nat.reduceEqDiff,Nat.reduceSub,Int.reduceToNat,Int.reduceLT,Int.reduceLE,Int.reduceAdd,Int.reduceSub,Int.reduceMul,Int.reduceNeg,Nat.reduceBEq,Int.reduceBEq,Int.reduceBNe,Nat.reduceBNe,Int.reduceEq,hby];exact q.1)):P:=h ⟨q⟩
section
attribute [local push_cast 2000] encOu
theorem zju (l:List Ou) (n:Int) (F:Own):(l.length<=100/\∀ o∈l,o.conn=n->o.bytes=[])->DC Tryz.prog 15 [.sl (l.map encOu), .int .i64 n] (([]:Own)++F) fun d G=>∃ v,d = .tup [.ar v 0, .bool (l.any (fun o=>decide (o.conn=n)&&o.close))]/\G = .arr 24 v []::F:=by
 intro hA
 obtain ⟨hll,hby0⟩:=hA
 refine DC.bodyS (n_:=47) (show Tryz.prog.funcs[15]? = some Tryz.f15 by kernel_rfl) rfl rfl (by rfl) ?_
 simp only [env0,List.append_assoc,List.cons_append,List.nil_append]
 have kw:=ksIs [0,1,4,5,6,7,8,9,10,15,24]
 have ow:=zaf []
 have hby:True:=trivial
 repeat' (first
  | ((fail_if_success (have zz:=hop));(with_reducible show DW _ _ (Code.region 8 _ _) _ _ _);(have hop:True:=trivial);(have hkl:k<l.length:=by omega);(have hcn9:=hb);(have hby:=hby0 _ (zjD hkl) hb))
  | ((refine DW.own0 24 7 (by rfl) ?_);(simp only [zcf,zcK,Nat.reduceEqDiff,↓reduceIte,if_true,if_false,reduceCtorEq]);((with_reducible refine DW.loopB 0 (X:=Nat×V×Value) (fun x=>x.1<=l.length/\(x.2.1 = .sl []\/∃ v,x.2.1 = .gs v [])) (fun x=>[(0, .sl (l.map encOu)),(1, .int .i64 n),(6, .raw (.pointer (some ⟨sb,0,none⟩))),(7, .ar x.2.2 0),(8, .bool ((l.take x.1).any (fun o=>decide (o.conn=n)&&o.close))),(9, .int .i64 x.1)]) (fun x=>.arr 24 x.2.2 [] :: .blk sb [x.2.1, .int .i64 0]::([]:Own)) (fun x=>l.length - x.1) ((0, .gs (.slice none 0 0) [], .slice none 0 0)) ?_ ?_ ?_);exact (⟨Nat.zero_le _, .inr ⟨_,rfl⟩⟩);(simp [Sub,get,zaW,List.take_zero,List.any_nil]<;>fail);(try simp only [List.append_assoc,List.cons_append,List.nil_append]);refine pl_ ?_;intro ⟨k,rv,v⟩ ⟨hk,hrv⟩;(try simp only [List.append_assoc,List.cons_append,List.nil_append]);(try simp only at hk hrv)))
  | refine g_ ?_
  | ((with_reducible refine And.intro ?_ ?_);(exact zeb))
  | (refine DW.cond (by rfl) ?_ ?_<;>(first | exact i0_ | (intro hb;(try simp only [↓reduceCtorEq,not_true_eq_false,not_false_eq_true,hbs,Int.reduceBEq,Int.reduceBNe,Int.reduceEq] at hb);(try refine zn8 ?_))))
  | ((with_reducible refine zaa ?_ ?_)<;>(intro hb;rw [hb];revert hb;(first | exact i0_ | (intro hb;(try simp only [↓reduceCtorEq,not_true_eq_false,not_false_eq_true,hbs,Int.reduceBEq,Int.reduceBNe,Int.reduceEq] at hb);(try refine zn8 ?_)))))
  | ((first | refine rn_ ?_ | refine kn_ ?_)<;>(refine zn8 ?_))
  | (refine p_ (zgl _ _ _) ?_ (ha:=by exact zeb);rintro d H1 ⟨rv2,hrv2,rfl,rfl⟩<;>refine zn8 ?_)
  | ((refine on_ ?_);refine zn8 ?_)
  | refine f_ ?_
  | ((fail_if_success (have zz:=sb));with_reducible intro sb)
  | ((fail_if_success (have zz:=v8));with_reducible intro v8)
  | with_reducible intro b)
 all_goals first
 | (((have hkl9:k<l.length:=by omega);(have e9:=any_s (p:=fun o:Ou=>decide (o.conn=n)&&o.close) hkl9);(rw [hb,Bool.true_or] at e9);(refine ⟨(k+1,rv2,v8),⟨by (try simp only);omega,by (try simp only);assumption⟩,by (try simp only);omega,?_,?_⟩);(focus ((try dsimp only);rw [e9];simp [Sub,get]));((try dsimp only);exact sub_)))
 | (((have hkl9:k<l.length:=by omega);(have e9:=any_s (p:=fun o:Ou=>decide (o.conn=n)&&o.close) hkl9);(rw [hb,Bool.false_or] at e9;simp only [hcn9,decide_true,Bool.true_and] at e9);(refine ⟨(k+1,rv2,v8),⟨by (try simp only);omega,by (try simp only);assumption⟩,by (try simp only);omega,?_,?_⟩);(focus ((try dsimp only);rw [e9];simp [Sub,get]));((try dsimp only);exact sub_)))
 | (((have hkl9:k<l.length:=by omega);(have e9:=any_s (p:=fun o:Ou=>decide (o.conn=n)&&o.close) hkl9);(simp only [decide_eq_false hb,Bool.false_and,Bool.or_false] at e9);(refine ⟨(k+1,rv,v),⟨by (try simp only);omega,by (try simp only);assumption⟩,by (try simp only);omega,?_,?_⟩);(focus ((try dsimp only);rw [e9];simp [Sub,get]));((try dsimp only);exact sub_)))
 | (((have hk9:k=l.length:=by omega);(subst hk9);(rw [List.take_length]);(refine ⟨_,_,le.rfl_,⟨v,rfl,rfl⟩,?_⟩);exact sub_))
 | (trace_state;fail)
end
end
section
attribute [local irreducible] SN.own ownT ownC ownS ownB zae zbr zak zaQ zbz outM zat zc8 newB zbg zbG
attribute [local irreducible] DW SeqD DV DOp DC DVX DVJ idsF usI sortS putM zal onlyM
theorem pkY_dc (n:Int) (F:Own):True->DC Tryz.prog 15 [.sl [.agg [.int .i64 0, .int .i64 n, .sl [], .bool true]], .int .i64 n] (([]:Own)++F) fun d G=>∃ v,d = .tup [.ar v 0, .bool true]/\G = .arr 24 v []::F:=fun _=>by
 have h1:=zju [⟨n,[],true⟩] n F ⟨by simp,fun o ho _=>by rw [List.mem_singleton.1 ho]⟩
 simp only [List.any_cons,List.any_nil,decide_true,Bool.true_and,Bool.or_false] at h1
 exact h1
section
attribute [local push_cast 2000] zcM encOu List.map_cons List.map_nil nilE_o nilE_p nilE_a nilE_d
end
end
end Go.Proofs.YtgekknefphagbaaGreatDoor
