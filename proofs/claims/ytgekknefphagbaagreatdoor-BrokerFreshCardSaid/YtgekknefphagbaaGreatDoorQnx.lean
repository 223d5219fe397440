/- The broker: first greetings, plain. -/
import Derived.Test.YtgekknefphagbaaGreatDoorQlx
import Derived.Test.YtgekknefphagbaaGreatDoorQhx
import Derived.KernelRfl
namespace Go.Proofs.YtgekknefphagbaaGreatDoor
open Go.RowKit
set_option linter.unusedSimpArgs false
set_option linter.unusedVariables false
set_option linter.unusedSectionVars false
set_option maxHeartbeats 4000000
set_option maxRecDepth 100000
section
theorem zfZ (now:Int) (nm:YS):zb6 now (newA nm)=newA nm:=rfl
theorem zgD (now:Int) (nm:YS):zap now (newA nm)=[]:=rfl
theorem zec:zaC []=[]:=List.eq_nil_of_length_eq_zero (Nat.le_zero.1 (zab []))
theorem zhb (kind id:Int) (pr:Bool) (code:Int) (h:kind∈[2,4,5,6,7,11,13] ) (h2:kind=2\/(pr=false/\code=0)) (h3:kind=2\/kind=13->id=0):onlyM (zan kind id pr code)=zan kind id pr code:=by
 simp only [List.mem_cons,List.not_mem_nil,or_false] at h
 rcases h with rfl | rfl | rfl | rfl | rfl | rfl | rfl<;>simp at h2 h3<;>(try obtain ⟨rfl,rfl⟩:=h2)<;>(try subst h3)<;>rfl
theorem zhu {pr:Bool} {code:Int} (h:0<=code/\code<=5) (h2:pr=true->code=0):zax (zan 2 0 pr code)=true:=by
 have e:onlyM (zan 2 0 pr code)=zan 2 0 pr code:=zhb 2 0 pr code (by simp) (.inl rfl) (fun _=>rfl)
 have hc:chkB []=true:=by first | rfl | decide | simp [chkB]
 have hc6:code=0\/code=1\/code=2\/code=3\/code=4\/code=5:=by omega
 unfold zax preM
 rw [e]
 cases pr with
 | false=>rcases hc6 with rfl | rfl | rfl | rfl | rfl | rfl<;>simp [zan,inM,zeE,hc,zjH,numM,zcl]
 | true =>
  have:=h2 rfl
  subst this
  simp [zan,inM,zeE,hc,zjH,numM,zcl]
theorem zq2:varM 2=[2]:=by kernel_rfl
theorem varM_0:varM 0=[0]:=by kernel_rfl
theorem byteW_0:zbw 0=0:=by kernel_rfl
theorem byteW_1:zbw 1=1:=by kernel_rfl
theorem zkI:zbw 32=32:=by kernel_rfl
theorem zme:zbw 208=208:=by kernel_rfl
def zeG (pr:Bool) (code:Int):YS:=[32,2,if pr=true then 1 else 0,zbw code]
theorem zpS {pr:Bool} {code:Int} (h:0<=code/\code<=5) (h2:pr=true->code=0):putM (zan 2 0 pr code)=zeG pr code:=by
 unfold putM
 rw [if_pos (zhu h h2)]
 show zbw 32::(varM 2++[zbw (if pr=true then 1 else 0),zbw code])=zeG pr code
 unfold zeG
 cases pr
 · simp [zq2,zkI,byteW_0]
 · simp [zq2,zkI,byteW_1]
theorem zkR (n:Int) {pr:Bool} {code:Int} (h:0<=code/\code<=5) (h2:pr=true->code=0):outM n [zan 2 0 pr code]=[⟨n,zeG pr code,false⟩]:=by rw [znx (zhu h h2),zpS h h2]
theorem zhf:zax (zan 13 0 false 0)=true:=by
 have e:onlyM (zan 13 0 false 0)=zan 13 0 false 0:=zhb 13 0 false 0 (by simp) (.inr ⟨rfl,rfl⟩) (fun _=>rfl)
 have hc:chkB []=true:=by first | rfl | decide | simp [chkB]
 unfold zax preM
 rw [e]
 simp [zan,inM,zeE,hc,zjH,numM,zcl]
theorem zoP (n:Int):outM n [zan 13 0 false 0]=[⟨n,[208,0],false⟩]:=by
 rw [znx zhf]
 unfold putM
 rw [if_pos zhf]
 show [(⟨n,zbw 208::(varM 0++[]),false⟩:Ou)]=_
 rw [varM_0,zme];rfl
end
section
theorem zgb {b:Br} {nm:YS} (h:b.ses nm=none):zah nm b=([],b):=by unfold zah;rw [h]
theorem zgh (e:Ef) (o:List Ou) (h:e.drops=[]):andM e ⟨o,[],[],[]⟩=⟨e.outs++o,e.pubs,e.adds,[]⟩:=by
 unfold andM
 rw [h]
 simp only [List.append_nil,zec]
def zc9 (lev:Int) (nm:YS) (cl:Bool) (kp:Int) (hw:Bool) (wt wp:YS) (wq:Int) (wr:Bool):Pk:=⟨1,false,false,0,0,[],[],lev,nm,cl,kp,hw,wt,wp,wq,wr,false,false,[],[],false,0,[],[]⟩
theorem zf0 {b:Br} {n now:Int} {p:Pk} (hlv:p.level=4) (hn:p.client≠[]) (hw:p.hasWill=true->zbF p.wtopic=true) (hof:ofM p.client b = -1) (hs:b.ses p.client=none) :
  zaG n p now b=(⟨[⟨n,zeG false 0,false⟩],[],[],[]⟩,⟨b.conns.map (fun c=>if c.n=n then zdo p.client p c else c),b.sess++[newA p.client],b.L⟩):=by
 have hnm:nameM n p=p.client:=by unfold nameM;rw [if_neg hn]
 unfold zaG
 rw [if_neg (fun h=>h hlv),if_neg (fun h=>hn h.1),if_neg (fun h=>by rw [hw h.1] at h;exact Bool.noConfusion h.2),hnm,zlh hof]
 have hx:zbi p.clean p.client (nilE,b)=(nilE,b):=by
  unfold zbi
  split
  · rw [zgb hs,zgh _ _ rfl];rfl
  · rfl
 rw [hx]
 unfold zbe zet zat sesD
 simp only [hs,Option.isSome_none,Option.getD_none,Bool.false_eq_true,if_false,zgD,zfZ]
 rw [zkR n ⟨by decide,by decide⟩ (fun h=>Bool.noConfusion h),zgh _ _ rfl]
 rfl
def zb3 (n:Int):Br:=⟨[newC n 0],[],[]⟩
def zbW (n:Int) (nm:YS) (kp:Int) (cl:Bool) (hd:Int) (w:List Mg):Br:=⟨[⟨n,[],0,hd,some nm,kp,cl,w⟩],[newA nm],[]⟩
theorem zi9 (n:Int):BSz (zb3 n):=⟨Nat.zero_le _,fun _ h=>nomatch h⟩
theorem ziR (n:Int) (nm:YS) (kp:Int) (cl:Bool) (hd:Int) (w:List Mg):BSz (zbW n nm kp cl hd w):=⟨Nat.zero_le _,fun a ha=>by
 rw [List.mem_singleton.1 ha];exact ⟨Nat.zero_le _,fun _ h=>nomatch h⟩⟩
theorem ze2:zal 0=0:=by unfold zal;decide
theorem zpw {z:Int} (h : -1099511627776<=z/\z<=1099511627776):zal z=z:=by unfold zal;omega
theorem zei (n:Int):(zb3 n).conn n=some (newC n 0):=by simp [zb3,Br.conn,newC]
theorem zdX (n:Int) (nm:YS) (kp:Int) (cl:Bool) (hd:Int) (w:List Mg):(zbW n nm kp cl hd w).conn n=some ⟨n,[],0,hd,some nm,kp,cl,w⟩:=by simp [zbW,Br.conn]
theorem zp8 (n:Int) (hn:0<=n/\n<16):zjy n 0 newB=zb3 n:=by
 unfold zjy newB zb3 Br.conn
 rw [if_neg (by simp;omega)];rfl
theorem zgp (n:Int):zbv n 0 (zb3 n)=zb3 n:=by simp [zbv,zb3,newC,ze2]
theorem zgz (n now:Int) (nm:YS) (kp:Int) (cl:Bool) (hd:Int) (w:List Mg):zbv n now (zbW n nm kp cl hd w)=zbW n nm kp cl (zal now) w:=by simp [zbv,zbW]
attribute [local irreducible] SN.own ownT ownC ownS ownB zae za1 zah zaC zbF outM zaG
attribute [local irreducible] DW SeqD DV DOp DC DVX DVJ idsF usI sortS putM zax onlyM
theorem zhy (bb:Nat) (s:BN) (n:Int) (F:Own):(BOK s/\s.pl=newB/\0<=n/\n<16)->DC Tryz.prog 13 [.raw (.pointer (some ⟨bb,0,none⟩)), .int .i64 n, .int .i64 0] ((ownB bb s++[])++F) fun d G=>∃ s':BN,(BOK s'/\s'.pl=zb3 n)/\d = .int .i64 0/\G=ownB bb s'++F:=fun ⟨h,hp,hn⟩=>by
 have:=ziL bb s n 0 F ⟨h,hn,by rw [hp];rfl⟩
 rwa [hp,zp8 n hn] at this
theorem zm6 (bb:Nat) (s:BN) (n:Int) (F:Own):(BOK s/\s.pl=zb3 n/\0<=n/\n<16)->DC Tryz.prog 13 [.raw (.pointer (some ⟨bb,0,none⟩)), .int .i64 n, .int .i64 0] ((ownB bb s++[])++F) fun d G=>d = .int .i64 30/\G=(ownB bb s++[])++F:=fun ⟨h,hp,hn⟩ =>
 zoa bb s n 0 F ⟨hn.1,hn.2,by rw [hp,zei];rfl⟩
theorem zkY (bb:Nat) (m:Int) (T5:TypeId) (fr5:Nat×Nat) (s:BN) (n:Int) (nm:YS) (cl:Bool) (kp:Int) (F:Own):(BOK s/\s.pl=zb3 n/\(0<=n/\n<16)/\nm≠[]/\nm.length<=1000/\0<=kp/\kp<=1000)->DC Tryz.prog 14 [.raw (.pointer (some ⟨bb,0,none⟩)), .int .i64 n, .agg [.int .i64 1, .bool false, .bool false, .int .i64 0, .int .i64 0, .str [], .gs (.slice none 0 0) [], .int .i64 4, .str nm, .bool cl, .int .i64 kp, .bool false, .str [], .gs (.slice none 0 0) [], .int .i64 0, .bool false, .bool false, .bool false, .str [], .gs (.slice none 0 0) [], .bool false, .int .i64 0, .gs (.slice none 0 0) [], .gs (.slice none 0 0) []], .int .i64 0, .agg [.gs (.slice none 0 0) [], .gs (.slice none 0 0) [], .gs (.slice none 0 0) [], .gs (.slice none 0 0) []]] ((knP T5 fr5::loose::knF::knA::knM m::(ownB bb s++[]))++F) fun d G=>∃ s':BN,(BOK s'/\s'.pl=zbW n nm kp cl 0 [])/\d = .tup [zb7 ⟨[⟨n,zeG false 0,false⟩],[],[],[]⟩, .int .i64 0]/\G=knP T5 fr5::loose::knF::knA::knM m::(ownB bb s'++F):=fun ⟨h,hp,hn,hnm,hnl,hk0,hk1⟩=>by
 have h1:=zey bb m T5 fr5 s n 0 (zc9 4 nm cl kp false [] [] 0 false) [] [] [] [] F ⟨h,by rw [hp];exact zi9 n,⟨_,by rw [hp];exact zei n,rfl⟩,⟨hn,by unfold nameM;rw [if_neg (show ¬ (zc9 4 nm cl kp false [] [] 0 false).client=[] from hnm)];show nm.length<=100000;omega,Nat.zero_le _,Nat.zero_le _,by show -1000000000<=kp;omega,by show kp<=1000000000;omega⟩,rfl⟩
 rw [hp,zgp,zf0 (p:=zc9 4 nm cl kp false [] [] 0 false) rfl hnm (fun h=>Bool.noConfusion h) (by simp [ofM,zb3,newC]) (by simp [Br.ses,zb3])] at h1
 have h2:(⟨(zb3 n).conns.map (fun c=>if c.n=n then zdo nm (zc9 4 nm cl kp false [] [] 0 false) c else c),(zb3 n).sess++[newA nm],(zb3 n).L⟩:Br)=zbW n nm kp cl 0 []:=by simp [zb3,newC,zbW,zdo,zc9,ze2]
 simp only [zc9] at h1 h2
 rw [h2] at h1
 exact DC.args (Les.cons le.rfl_ (Les.cons le.rfl_ (Les.cons (le.agg (Les.cons le.rfl_ (Les.cons le.rfl_ (Les.cons le.rfl_ (Les.cons le.rfl_ (Les.cons le.rfl_ (Les.cons le.rfl_ (Les.cons (le.gs rfl) (Les.cons le.rfl_ (Les.cons le.rfl_ (Les.cons le.rfl_ (Les.cons le.rfl_ (Les.cons le.rfl_ (Les.cons le.rfl_ (Les.cons (le.gs rfl) (Les.cons le.rfl_ (Les.cons le.rfl_ (Les.cons le.rfl_ (Les.cons le.rfl_ (Les.cons le.rfl_ (Les.cons (le.gs rfl) (Les.cons le.rfl_ (Les.cons le.rfl_ (Les.cons (le.gs rfl) (Les.cons (le.gs rfl) (Les.nil)))))))))))))))))))))))))) (Les.cons le.rfl_ (Les.cons (le.agg (Les.cons (le.gs rfl) (Les.cons (le.gs rfl) (Les.cons (le.gs rfl) (Les.cons (le.gs rfl) Les.nil))))) Les.nil))))) h1
theorem zqc (bb:Nat) (m:Int) (s:BN) (n:Int) (nm:YS) (cl:Bool) (kp hd now:Int) (w:List Mg) (F:Own):(BOK s/\s.pl=zbW n nm kp cl hd w)->DC Tryz.prog 14 [.raw (.pointer (some ⟨bb,0,none⟩)), .int .i64 n, .agg [.int .i64 12, .bool false, .bool false, .int .i64 0, .int .i64 0, .str [], .gs (.slice none 0 0) [], .int .i64 0, .str [], .bool false, .int .i64 0, .bool false, .str [], .gs (.slice none 0 0) [], .int .i64 0, .bool false, .bool false, .bool false, .str [], .gs (.slice none 0 0) [], .bool false, .int .i64 0, .gs (.slice none 0 0) [], .gs (.slice none 0 0) []], .int .i64 now, .agg [.gs (.slice none 0 0) [], .gs (.slice none 0 0) [], .gs (.slice none 0 0) [], .gs (.slice none 0 0) []]] ((loose::knF::knA::knM m::(ownB bb s++[]))++F) fun d G=>∃ s':BN,(BOK s'/\s'.pl=zbW n nm kp cl (zal now) w)/\d = .tup [zb7 ⟨[⟨n,[208,0],false⟩],[],[],[]⟩, .int .i64 0]/\G=loose::knF::knA::knM m::(ownB bb s'++F):=fun ⟨h,hp⟩=>by
 have h1:=ziW bb m s n now (zan 12 0 false 0) [] [] [] [] F ⟨h,by rw [hp];exact ziR ..,⟨_,by rw [hp];exact zdX ..,rfl⟩,rfl⟩
 rw [hp,zgz,zoP] at h1
 simp only [zan] at h1
 exact DC.args (Les.cons le.rfl_ (Les.cons le.rfl_ (Les.cons (le.agg (Les.cons le.rfl_ (Les.cons le.rfl_ (Les.cons le.rfl_ (Les.cons le.rfl_ (Les.cons le.rfl_ (Les.cons le.rfl_ (Les.cons (le.gs rfl) (Les.cons le.rfl_ (Les.cons le.rfl_ (Les.cons le.rfl_ (Les.cons le.rfl_ (Les.cons le.rfl_ (Les.cons le.rfl_ (Les.cons (le.gs rfl) (Les.cons le.rfl_ (Les.cons le.rfl_ (Les.cons le.rfl_ (Les.cons le.rfl_ (Les.cons le.rfl_ (Les.cons (le.gs rfl) (Les.cons le.rfl_ (Les.cons le.rfl_ (Les.cons (le.gs rfl) (Les.cons (le.gs rfl) (Les.nil)))))))))))))))))))))))))) (Les.cons le.rfl_ (Les.cons (le.agg (Les.cons (le.gs rfl) (Les.cons (le.gs rfl) (Les.cons (le.gs rfl) (Les.cons (le.gs rfl) Les.nil))))) Les.nil))))) h1
theorem kCli_dc (bb:Nat) (s:BN) (n:Int) (nm:YS) (cl:Bool) (kp hd:Int) (w:List Mg) (F:Own):(BOK s/\s.pl=zbW n nm kp cl hd w)->DC Tryz.prog 17 [.raw (.pointer (some ⟨bb,0,none⟩)), .int .i64 n] ((ownB bb s++[])++F) fun d G=>d = .str nm/\G=(ownB bb s++[])++F:=fun ⟨h,hp⟩=>by
 have h1:=zh4 bb s n F h
 have h2:zc6 n (zbW n nm kp cl hd w)=nm:=by unfold zc6;rw [zdX];rfl
 rwa [hp,h2] at h1
end
section
theorem connB_0:zeG false 0=[32,2,0,0]:=by kernel_rfl
attribute [local irreducible] SN.own ownT ownC ownS ownB zae za1 zah zaC zbF outM zaG zeG newB zb3 zbW
attribute [local irreducible] DW SeqD DV DOp DC DVX DVJ idsF usI sortS putM zax onlyM
theorem zbC {p:Prop} (h:p:=by first | exact sv | exact rfl | exact ⟨hs0,hp0,by decide,by decide⟩ | exact ⟨hs1,hp1,by decide,by decide⟩ | exact ⟨hs1,hp1,⟨by decide,by decide⟩,by decide,by decide,by decide,by decide⟩ | exact ⟨hs2,hp2⟩ | exact ⟨hs3,hp3⟩ | fail):p:=h
section
attribute [local push_cast 2000] connB_0 zb7 encOu List.map_cons List.map_nil
theorem zgV (m:Int) (T5:TypeId) (fr5:Nat×Nat) (F:Own):(True)->DC Tryz.prog 11 [] ([loose,knP T5 fr5,knF,knA,knM m]++F) fun d G=>d = .bool true/\G=[loose,knP T5 fr5,knF,knA,knM m]++F:=by
 intro hA
 refine DC.bodyS (n_:=74) (show Tryz.prog.funcs[11]? = some Tryz.f11 by kernel_rfl) rfl rfl (by rfl) ?_
 simp only [env0,List.append_assoc,List.cons_append,List.nil_append]
 have kw:=ksIs [0,1,2,3,4,5,18]
 have ow:=zai []
 repeat' (first
  | refine g_ ?_
  | ((with_reducible refine And.intro ?_ ?_);(exact zbC))
  | (refine DW.cond (by rfl) ?_ ?_<;>(first | exact i0_ | (refine ic_ ?_;intro hb)))
  | ((with_reducible refine zaa ?_ ?_)<;>(intro hb;rw [hb];revert hb;(first | exact i0_ | (refine i_ ?_;intro hb))))
  | refine r_ ?_
  | refine k_ ?_
  | (refine p_ (zjW _) ?_ (ha:=by exact zbC);rintro d H1 ⟨bb,s0,⟨hs0,hp0⟩,rfl,rfl⟩<;>refine s_ ?_)
  | (refine p_ (zhy _ _ _ _) ?_ (ha:=by exact zbC);rintro d H1 ⟨s1,⟨hs1,hp1⟩,rfl,rfl⟩<;>refine s_ ?_)
  | (refine q_ (zm6 _ _ _ _) ?_ (ha:=by exact zbC))
  | (refine p_ (zkY _ _ _ _ _ _ _ _ _ _) ?_ (ha:=by exact zbC);rintro d H1 ⟨s2,⟨hs2,hp2⟩,rfl,rfl⟩<;>refine s_ ?_)
  | (refine p_ (zqc (nm:=[107]) (cl:=true) (kp:=0) (hd:=0) (w:=[]) _ _ _ _ _ _) ?_ (ha:=by exact zbC);rintro d H1 ⟨s3,⟨hs3,hp3⟩,rfl,rfl⟩<;>refine s_ ?_)
  | (refine q_ (kCli_dc (nm:=[107]) (cl:=true) (kp:=0) (hd:=zal 0) (w:=[]) _ _ _ _) ?_ (ha:=by exact zbC))
  | refine o_ ?_
  | refine f_ ?_
  | ((fail_if_success (have zz:=eb));with_reducible intro eb)
  | ((fail_if_success (have zz:=gb));with_reducible intro gb)
  | with_reducible intro b)
 all_goals first
 | ((exact absurd rfl hb))
 | ((first | exact fin_ | refine finq_ ?_);done)
 | (trace_state;fail)
end
end
section
attribute [local irreducible] DW SeqD DV DOp DC DVX DVJ idsF usI sortS putM zax onlyM
theorem zi4 (rv:V) (F:Own):((rv = .sl []\/∃ v,rv = .gs v []))->DC Tryz.prog 32 [rv] (([]:Own)++F) fun d G=>d = .tup [.agg [.int .i64 0, .bool false, .bool false, .int .i64 0, .int .i64 0, .str [], .gs (.slice none 0 0) [], .int .i64 0, .str [], .bool false, .int .i64 0, .bool false, .str [], .gs (.slice none 0 0) [], .int .i64 0, .bool false, .bool false, .bool false, .str [], .gs (.slice none 0 0) [], .bool false, .int .i64 0, .gs (.slice none 0 0) [], .gs (.slice none 0 0) []], .int .i64 0, .int .i64 20]/\G=[]++F:=by
 intro hA
 have hrv:=hA
 refine DC.bodyS (n_:=88) (show Tryz.prog.funcs[32]? = some Tryz.f32 by kernel_rfl) rfl rfl (by rfl) ?_
 simp only [env0,List.cons_append,List.nil_append]
 have kw:=ksIs [0,2,3,4,5,6,7,8,9,10,11,14,20,29,34,38,83]
 have ow:=zai []
 have rw_:=rsIs [.cell 2 29, .tmp 3, .tmp 4]
 rcases hrv with rfl | ⟨v,rfl⟩
 repeat' (first
  | refine g_ ?_
  | ((with_reducible refine And.intro ?_ ?_);(exact sv))
  | (refine DW.cond (by rfl) ?_ ?_<;>(first | exact i0_ | (refine ic_ ?_;intro hb)))
  | ((with_reducible refine zaa ?_ ?_)<;>(intro hb;rw [hb];revert hb;(first | exact i0_ | (refine i_ ?_;intro hb))))
  | refine r_ ?_
  | refine k_ ?_
  | refine o_ ?_
  | refine f_ ?_
  | ((fail_if_success (have zz:=pb));with_reducible intro pb)
  | with_reducible intro b)
 all_goals first
 | ((first | exact fin_ | refine finq_ ?_);done)
 | (trace_state;fail)
theorem zdP {p:Prop} (h:p:=by first | exact sv | exact .inl rfl | exact .inr ⟨_,rfl⟩ | fail):p:=h
theorem znE (sb:Nat) (rv:V) (F:Own):((rv = .sl []\/∃ v,rv = .gs v []))->DC Tryz.prog 46 [.raw (.pointer (some ⟨sb,0,none⟩)), .sl []] (.blk sb [rv, .int .i64 0]::([]:Own)++F) fun d G=>∃ rv',(rv' = .sl []\/∃ v,rv' = .gs v [])/\d = .tup [.gs (.slice none 0 0) [], .int .i64 0]/\G = .blk sb [rv', .int .i64 0]::F:=by
 intro hA
 have hrv:=hA
 refine DC.bodyS (n_:=65) (show Tryz.prog.funcs[46]? = some Tryz.f46 by kernel_rfl) rfl rfl (by rfl) ?_
 simp only [env0,List.cons_append,List.nil_append]
 have kw:=ksIs [0,1,4,5,6,7,8,9,14,39,42]
 have ow:=zai []
 have dw2:=drIs 2 [] [3]
 rcases hrv with rfl | ⟨v,rfl⟩
 repeat' (first
  | ((with_reducible refine DW.loopB 0 (X:=Nat) (fun x=>x=0) (fun x=>[(0, .raw (.pointer (some ⟨sb,0,none⟩))),(4, .gs (.slice none 0 0) []),(5, .int .i64 0),(6, .gs (.slice none 0 0) [])]) (fun x=>.blk sb [.gs pb [], .int .i64 0]::([]:Own)) (fun x=>x) (0) ?_ ?_ ?_);exact (rfl);(simp [Sub,get,zbn]<;>fail);(try simp only [List.cons_append,List.nil_append]);refine pl_ ?_;intro k hk;(try simp only [List.cons_append,List.nil_append]);(try simp only at hk))
  | refine g_ ?_
  | ((with_reducible refine And.intro ?_ ?_);(exact zdP))
  | (refine DW.cond (by rfl) ?_ ?_<;>(first | exact i0_ | (refine ic_ ?_;intro hb)))
  | ((with_reducible first | refine zaa ?_ ?_ | refine zak ?_ ?_)<;>(intro hb;rw [hb];revert hb;(first | exact i0_ | (refine i_ ?_;intro hb))))
  | refine r_ ?_
  | refine d_ ?_
  | refine k_ ?_
  | ((refine dm_ ?_);(first | (refine v_ (zi4 _ _) ?_ (ha:=by exact zdP))))
  | refine vo_ ?_
  | (refine q_ (zi4 _ _) ?_ (ha:=by exact zdP))
  | refine o_ ?_
  | refine f_ ?_
  | refine vm_ ?_
  | ((fail_if_success (have zz:=v9));with_reducible intro v9)
  | ((fail_if_success (have zz:=pb));with_reducible intro pb)
  | with_reducible intro b)
 all_goals first
 | (((refine ⟨_,_,le.rfl_,⟨_, .inr ⟨pb,rfl⟩,rfl,rfl⟩,?_⟩);(exact sub_);done))
 | (trace_state;fail)
theorem any_s {α:Type} [Inhabited α] {l:List α} {k:Nat} (hk:k<l.length) {p:α->Bool}:(l.take (k+1)).any p=((l.take k).any p||p (l.getD k default)):=by
 rw [zjx hk,List.any_append];simp
theorem zeo {p:Prop} (h:p:=by first | exact sv | exact hrv | fail):p:=h
theorem zon {P Q:Prop} (q:Q) (h:Hid Q->P:=by (intro q;simp (maxSteps:=1000000) (disch:=omega) only [push_cast,↓reduceIte,reduceCtorEq,Nat.reduceAdd,Nat.reduceMul,Nat.reduceLT,Nat.reduceLeDiff,Nat.reduceEqDiff,Nat.reduceSub,Int.reduceToNat,Int.reduceLT,Int.reduceLE,Int.reduceAdd,Int.reduceSub,Int.reduceMul,Int.reduceNeg,Nat.reduceBEq,Int.reduceBEq,Int.reduceBNe,Nat.reduceBNe,Int.reduceEq,hby];exact q.1)):P:=h ⟨q⟩
section
attribute [local push_cast 2000] encOu
theorem zju (l:List Ou) (n:Int) (F:Own):(l.length<=100/\∀ o∈l,o.conn=n->o.bytes=[])->DC Tryz.prog 15 [.sl (l.map encOu), .int .i64 n] (([]:Own)++F) fun d G=>∃ v,d = .tup [.ar v 0, .bool (l.any (fun o=>decide (o.conn=n)&&o.close))]/\G = .arr 24 v []::F:=by
 intro hA
 obtain ⟨hll,hby0⟩:=hA
 refine DC.bodyS (n_:=47) (show Tryz.prog.funcs[15]? = some Tryz.f15 by kernel_rfl) rfl rfl (by rfl) ?_
 simp only [env0,List.append_assoc,List.cons_append,List.nil_append]
 have kw:=ksIs [0,1,4,5,6,7,8,9,10,15,24]
 have ow:=zai []
 have hby:True:=trivial
 repeat' (first
  | ((fail_if_success (have zz:=hop));(with_reducible show DW _ _ (Code.region 8 _ _) _ _ _);(have hop:True:=trivial);(have hkl:k<l.length:=by omega);(have hcn9:=hb);(have hby:=hby0 _ (zhI hkl) hb))
  | ((refine DW.own0 24 7 (by rfl) ?_);(simp only [zdu,zez,Nat.reduceEqDiff,↓reduceIte,if_true,if_false,reduceCtorEq]);((with_reducible refine DW.loopB 0 (X:=Nat×V×Value) (fun x=>x.1<=l.length/\(x.2.1 = .sl []\/∃ v,x.2.1 = .gs v [])) (fun x=>[(0, .sl (l.map encOu)),(1, .int .i64 n),(6, .raw (.pointer (some ⟨sb,0,none⟩))),(7, .ar x.2.2 0),(8, .bool ((l.take x.1).any (fun o=>decide (o.conn=n)&&o.close))),(9, .int .i64 x.1)]) (fun x=>.arr 24 x.2.2 [] :: .blk sb [x.2.1, .int .i64 0]::([]:Own)) (fun x=>l.length - x.1) ((0, .gs (.slice none 0 0) [], .slice none 0 0)) ?_ ?_ ?_);exact (⟨Nat.zero_le _, .inr ⟨_,rfl⟩⟩);(simp [Sub,get,zbn,List.take_zero,List.any_nil]<;>fail);(try simp only [List.append_assoc,List.cons_append,List.nil_append]);refine pl_ ?_;intro ⟨k,rv,v⟩ ⟨hk,hrv⟩;(try simp only [List.append_assoc,List.cons_append,List.nil_append]);(try simp only at hk hrv)))
  | refine g_ ?_
  | ((with_reducible refine And.intro ?_ ?_);(exact zeo))
  | (refine DW.cond (by rfl) ?_ ?_<;>(first | exact i0_ | (intro hb;(try simp only [↓reduceCtorEq,not_true_eq_false,not_false_eq_true,hbs,Int.reduceBEq,Int.reduceBNe,Int.reduceEq] at hb);(try refine zon ?_))))
  | ((with_reducible refine zaa ?_ ?_)<;>(intro hb;rw [hb];revert hb;(first | exact i0_ | (intro hb;(try simp only [↓reduceCtorEq,not_true_eq_false,not_false_eq_true,hbs,Int.reduceBEq,Int.reduceBNe,Int.reduceEq] at hb);(try refine zon ?_)))))
  | ((first | refine rn_ ?_ | refine kn_ ?_)<;>(refine zon ?_))
  | (refine p_ (znE _ _ _) ?_ (ha:=by exact zeo);rintro d H1 ⟨rv2,hrv2,rfl,rfl⟩<;>refine zon ?_)
  | ((refine on_ ?_);refine zon ?_)
  | refine f_ ?_
  | ((fail_if_success (have zz:=sb));with_reducible intro sb)
  | ((fail_if_success (have zz:=v8));with_reducible intro v8)
  | with_reducible intro b)
 all_goals first
 | (((have hkl9:k<l.length:=by omega);(have e9:=any_s (p:=fun o:Ou=>decide (o.conn=n)&&o.close) hkl9);(rw [hb,Bool.true_or] at e9);(refine ⟨(k+1,rv2,v8),⟨by (try simp only);omega,by (try simp only);assumption⟩,by (try simp only);omega,?_,?_⟩);(focus ((try dsimp only);rw [e9];simp [Sub,get]));((try dsimp only);exact sub_)))
 | (((have hkl9:k<l.length:=by omega);(have e9:=any_s (p:=fun o:Ou=>decide (o.conn=n)&&o.close) hkl9);(rw [hb,Bool.false_or] at e9;simp only [hcn9,decide_true,Bool.true_and] at e9);(refine ⟨(k+1,rv2,v8),⟨by (try simp only);omega,by (try simp only);assumption⟩,by (try simp only);omega,?_,?_⟩);(focus ((try dsimp only);rw [e9];simp [Sub,get]));((try dsimp only);exact sub_)))
 | (((have hkl9:k<l.length:=by omega);(have e9:=any_s (p:=fun o:Ou=>decide (o.conn=n)&&o.close) hkl9);(simp only [decide_eq_false hb,Bool.false_and,Bool.or_false] at e9);(refine ⟨(k+1,rv,v),⟨by (try simp only);omega,by (try simp only);assumption⟩,by (try simp only);omega,?_,?_⟩);(focus ((try dsimp only);rw [e9];simp [Sub,get]));((try dsimp only);exact sub_)))
 | (((have hk9:k=l.length:=by omega);(subst hk9);(rw [List.take_length]);(refine ⟨_,_,le.rfl_,⟨v,rfl,rfl⟩,?_⟩);exact sub_))
 | (trace_state;fail)
end
end
end Go.Proofs.YtgekknefphagbaaGreatDoor
