/- Layer 20: topics of numbers; messages that are the same. -/
import Derived.Test.YtgekknefphagbaaGreatDoorRcx
import Derived.Test.YtgekknefphagbaaGreatDoorQjx
import Derived.KernelRfl
import Derived.Test.YtgekknefphagbaaGreatDoorBdx
import Derived.Test.YtgekknefphagbaaGreatDoorLkx
import Derived.Test.YtgekknefphagbaaGreatDoorCards
import Derived.Test.YtgekknefphagbaaGreatDoorTie
import Derived.Lay
import Derived.PinnedBridge
import Derived.Shelf.Vars
import Derived.SevenTiedAt
import Derived.LaidMore
import Derived.OpenShut
import Derived.ChangeMaps5
namespace Go.Proofs.YtgekknefphagbaaGreatDoor
open Go.RowKit
set_option linter.unusedSimpArgs false
set_option linter.unusedVariables false
set_option linter.unusedSectionVars false
set_option maxHeartbeats 4000000
set_option maxRecDepth 100000
section
attribute [local irreducible] DW SeqD DV DOp DC DVX DVJ idsF usI sortS putM zay onlyM
theorem topY_ok (k:Int) (h:0<=k):zbD (topY k)=true/\(topY k).length<=100:=by
 have q0:=Int.tmod_nonneg 7 h;have q1:=Int.tmod_lt_of_pos k (show (0:Int)<7 by decide)
 rcases (show k.tmod 7=0\/k.tmod 7=1\/k.tmod 7=2\/k.tmod 7=3\/k.tmod 7=4\/k.tmod 7=5\/k.tmod 7=6 by omega) with hkm | hkm | hkm | hkm | hkm | hkm | hkm<;>(unfold topY;rw [hkm];exact ⟨by decide,by decide⟩)
section
attribute [local push_cast 2000] zby zbk
theorem zqC (m:Mg) (F:Own):(m.pay.length<=100000)->DC Tryz.prog 55 [.agg [.str m.topic, .sl (m.pay.map u8), .int .i64 m.qos, .bool m.retain], .agg [.str m.topic, .sl (m.pay.map u8), .int .i64 m.qos, .bool m.retain]] (([]:Own)++F) fun d G=>d = .bool true/\G=[]++F:=by
 intro hA
 have hml:=hA
 refine DC.bodyS (n_:=33) (show Tryz.prog.funcs[55]? = some Tryz.f55 by kernel_rfl) rfl rfl (by rfl) ?_
 simp only [env0,List.cons_append,List.nil_append]
 have kw:=ksIs [0,1,2,3,4]
 have ow:=zai []
 repeat' (first
  | refine g_ ?_
  | ((with_reducible refine And.intro ?_ ?_);(exact sv_msg_dc))
  | (refine DW.cond (by rfl) ?_ ?_<;>(first | exact i0_ | (refine ic_ ?_;intro hb)))
  | ((with_reducible refine zaa ?_ ?_)<;>(intro hb;rw [hb];revert hb;(first | exact i0_ | (refine i_ ?_;intro hb))))
  | refine r_ ?_
  | refine k_ ?_
  | refine o_ ?_
  | refine f_ ?_
  | with_reducible intro b)
 all_goals first
 | ((exact absurd rfl hb))
 | ((first | exact fin_ | refine finq_ ?_);done)
 | (trace_state;fail)
end
theorem zff {p:Prop} (h:p:=by first | exact sv | exact hmk _ (zib (by omega)) | fail):p:=h
section
attribute [local push_cast 2000] encM
theorem msgs_dc (l:List Mg) (F:Own):(l.length<=1000/\∀ m∈l,m.pay.length<=100000)->DC Tryz.prog 24 [.sl (l.map encM), .sl (l.map encM)] (([]:Own)++F) fun d G=>d = .bool true/\G=[]++F:=by
 intro hA
 obtain ⟨hll,hmk⟩:=hA
 refine DC.bodyS (n_:=27) (show Tryz.prog.funcs[24]? = some Tryz.f24 by kernel_rfl) rfl rfl (by rfl) ?_
 simp only [env0,List.cons_append,List.nil_append]
 have kw:=ksIs [0,1,4,5,10,14,26]
 have ow:=zai []
 have dw6:=drIs 6 [] [3,7,8]
 repeat' (first
  | ((with_reducible refine DW.loopB 0 (X:=Nat) (fun x=>x<=l.length) (fun x=>[(0, .sl (l.map encM)),(1, .sl (l.map encM)),(5, .int .i64 x)]) (fun x=>([]:Own)) (fun x=>l.length - x) (0) ?_ ?_ ?_);exact (Nat.zero_le _);(simp [Sub,get,zbu]<;>fail);(try simp only [List.cons_append,List.nil_append]);refine pl_ ?_;intro k hk;(try simp only [List.cons_append,List.nil_append]);(try simp only at hk))
  | refine g_ ?_
  | ((with_reducible refine And.intro ?_ ?_);(exact zff))
  | (refine DW.cond (by rfl) ?_ ?_<;>(first | exact i0_ | (refine ic_ ?_;intro hb)))
  | ((with_reducible first | refine zaa ?_ ?_ | refine zak ?_ ?_)<;>(intro hb;rw [hb];revert hb;(first | exact i0_ | (refine i_ ?_;intro hb))))
  | refine r_ ?_
  | refine d_ ?_
  | refine k_ ?_
  | ((refine dm_ ?_);(first | (refine v_ (zqC (m:=l.getD k default) _) ?_ (ha:=by exact zff))))
  | refine vo_ ?_
  | (refine q_ (zqC (m:=l.getD k default) _) ?_ (ha:=by exact zff))
  | refine o_ ?_
  | refine f_ ?_
  | refine vm_ ?_
  | with_reducible intro b)
 all_goals first
 | (((refine ⟨k+1,by (try simp only);omega,by (try simp only);omega,?_,?_⟩);(focus (simp [Sub,get]));exact sub_))
 | ((first | exact fin_ | refine finq_ ?_);done)
 | (trace_state;fail)
end
end
section
def twoF:Br:=⟨[newC 0 0,newC 1 0],[],[]⟩
def wB (cl:Bool) (w:List Mg):Br:=⟨[⟨0,[],0,0,some [107],4,cl,w⟩,newC 1 0],[newA [107]],[]⟩
def wG (cl:Bool):Br:=⟨[newC 1 0],if cl=true then [] else [newA [107]],[]⟩
def wO:Br:=⟨[⟨1,[],0,0,some [107],0,true,[]⟩],[newA [107]],[]⟩
theorem twoF_sz:BSz twoF:=⟨Nat.zero_le _,fun _ h=>nomatch h⟩
theorem zlJ (cl:Bool) (w:List Mg):BSz (wB cl w):=⟨Nat.zero_le _,fun a ha=>by
 rw [List.mem_singleton.1 ha];exact ⟨Nat.zero_le _,fun _ h=>nomatch h⟩⟩
theorem zmv:twoF.conn 0=some (newC 0 0):=by simp [twoF,Br.conn,newC]
theorem zek (cl:Bool) (w:List Mg):(wB cl w).conn 0=some ⟨0,[],0,0,some [107],4,cl,w⟩:=by simp [wB,Br.conn]
theorem zo9 (cl:Bool) (w:List Mg):(wB cl w).conn 1=some (newC 1 0):=by simp [wB,Br.conn,newC]
theorem wB_off (cl:Bool) (w:List Mg):(wB cl w).off 0=⟨[newC 1 0],[newA [107]],[]⟩:=by simp [Br.off,wB,newC]
theorem zk7 (cl:Bool) (w:List Mg):za8 0 (wB cl w)=(⟨[],w,[],[]⟩,wG cl):=by
 unfold za8
 rw [zek,wB_off]
 cases cl with
 | false=>rfl
 | true =>
  have h1:(⟨[newC 1 0],[newA [107]],[]⟩:Br).ses [107]=some (newA [107]):=by simp [Br.ses,newA]
  have h2:zar ([]:List (YS×Int))=[]:=List.eq_nil_of_length_eq_zero (by rw [zc6];rfl)
  simp only [if_true]
  unfold zah
  rw [h1]
  have h3:(newA [107]).subs=[]:=rfl
  simp only [h3,h2]
  unfold zag wG
  simp [newA]
theorem zgf (cl:Bool) (w:List Mg):zae 0 (wB cl w)=(⟨[⟨0,[],true⟩],w,[],[]⟩,wG cl):=by
 unfold zae
 rw [zk7]
 unfold andM
 simp only [List.append_nil,List.nil_append,zeh]
theorem zoz:zjZ 1 0 (zb5 0)=twoF:=by
 unfold zjZ zb5 twoF Br.conn
 rw [if_neg (by simp [newC])];rfl
theorem znc:zbw 0 0 twoF=twoF:=by simp [zbw,twoF,newC,ze2]
theorem zkC (cl:Bool) (w:List Mg):zbw 0 0 (wB cl w)=wB cl w:=by simp [zbw,wB,newC,ze2]
theorem zqp (cl:Bool) (w:List Mg):zbw 1 0 (wB cl w)=wB cl w:=by simp [zbw,wB,newC,ze2]
theorem zqo (cl:Bool) (w:List Mg):zdW 0 (wB cl w)=wB cl []:=by simp [zdW,wB,newC]
theorem zlR:sortedI [0,1]=[0,1]:=List.mergeSort_of_pairwise (by simp)
theorem tick_wB (cl:Bool) (w:List Mg):zem 7 (wB cl w)=(⟨[⟨0,[],true⟩],w,[],[]⟩,wG cl):=by
 have h7:zal 7=7:=zqg (by decide)
 have h1:zfF (zal 7) (sortedI ((wB cl w).conns.map (·.n))) (wB cl w)=(⟨[⟨0,[],true⟩],w,[],[]⟩,wG cl):=by
  show zfF (zal 7) (sortedI [0,1]) _=_
  rw [zlR,h7]
  show zeD 7 (zeD 7 (nilE,_) 0) 1=_
  have e1:zeD 7 (nilE,wB cl w) 0=(⟨[⟨0,[],true⟩],w,[],[]⟩,wG cl):=by
   unfold zeD
   simp only [zek]
   rw [if_pos (by simp [zgK]),zgf]
   unfold andM nilE
   simp only [List.append_nil,List.nil_append,zeh]
  rw [e1]
  unfold zeD
  have h2:(wG cl).conn 1=some (newC 1 0):=by simp [wG,Br.conn,newC]
  simp only [h2]
  rw [if_neg (by simp [zgK,newC])]
 unfold zem
 rw [h1]
 show zgJ _ (sortedI [1]) _=_
 rw [zly,h7]
 show zgg 7 (_,wG cl) 1=_
 unfold zgg
 have h2:(wG cl).conn 1=some (newC 1 0):=by simp [wG,Br.conn,newC]
 simp only [h2]
 rfl
theorem over_wB (cl:Bool) (w:List Mg):zaT 1 (zc9 4 [107] true 0 false [] [] 0 false) 0 (wB cl w)=(⟨[⟨0,[],true⟩,⟨1,zeQ false 0,false⟩],w,[],[]⟩,wO):=by
 have hof:ofM [107] (wB cl w)=0:=by simp [ofM,wB]
 have hto:zaw [107] (wB cl w)=(⟨[⟨0,[],true⟩],w,[],[]⟩,wG cl):=by
  unfold zaw
  rw [hof,if_pos (by decide),zgf]
  unfold andM nilE
  simp only [List.append_nil,List.nil_append,zeh]
 have hcl:zbs true [107] (⟨[⟨0,[],true⟩],w,[],[]⟩,wG cl)=(⟨[⟨0,[],true⟩],w,[],[]⟩,⟨[newC 1 0],[],[]⟩):=by
  unfold zbs
  rw [if_pos rfl]
  cases cl with
  | true =>
   have h1:(wG true).ses [107]=none:=by simp [wG,Br.ses]
   rw [zgl h1,zgA _ _ rfl];simp [wG]
  | false =>
   have h1:(wG false).ses [107]=some (newA [107]):=by simp [wG,Br.ses,newA]
   have h2:zar ([]:List (YS×Int))=[]:=List.eq_nil_of_length_eq_zero (by rw [zc6];rfl)
   have h3:(newA [107]).subs=[]:=rfl
   have h4:zah [107] (wG false)=([],⟨[newC 1 0],[],[]⟩):=by
    unfold zah
    rw [h1]
    simp only [h3,h2]
    unfold zag wG
    simp [newA]
   rw [h4,zgA _ _ rfl];simp
 unfold zaT
 rw [if_neg (by simp [zc9]),if_neg (by simp [zc9]),if_neg (by simp [zc9])]
 have hnm:nameM 1 (zc9 4 [107] true 0 false [] [] 0 false)=[107]:=by simp [nameM,zc9]
 rw [hnm,hto]
 show zbp 1 [107] _ 0 (zbs true [107] _)=_
 rw [hcl]
 unfold zbp zez zat sesD
 have h5:(⟨[newC 1 0],[],[]⟩:Br).ses [107]=none:=by simp [Br.ses]
 simp only [h5,Option.isSome_none,Option.getD_none,Bool.false_eq_true,if_false,zgz,zg9]
 rw [zkv 1 ⟨by decide,by decide⟩ (fun h=>Bool.noConfusion h),zgA _ _ rfl]
 simp [newC,zdm,zc9,wO,ze2]
attribute [local irreducible] SN.own ownT ownC ownS ownB zae za8 zah zaR zbD outM zaT zeQ newB zb5 zbW ziW zem twoF wB wG wO topY
attribute [local irreducible] DW SeqD DV DOp DC DVX DVJ idsF usI sortS putM zay onlyM
theorem zqc (bb:Nat) (s:BN) (F:Own):(BOK s/\s.pl=zb5 0)->DC Tryz.prog 13 [.raw (.pointer (some ⟨bb,0,none⟩)), .int .i64 1, .int .i64 0] ((ownB bb s++[])++F) fun d G=>∃ s':BN,(BOK s'/\s'.pl=twoF)/\d = .int .i64 0/\G=ownB bb s'++F:=fun ⟨h,hp⟩=>by
 have:=ziq bb s 1 0 F ⟨h,by decide,by rw [hp];simp [zb5,Br.conn,newC]⟩
 rwa [hp,zoz] at this
theorem zqN {s:BN} (h:BOK s) {n:Int} {cp:CP} (hc:s.pl.conn n=some cp):∃ c,c∈s.cs/\c.n=n:=by
 obtain ⟨c,h1,_,h2⟩:=ze4 hc
 exact ⟨c,h1,h2⟩
theorem zoB (bb:Nat) (m:Int) (s:BN) (cl:Bool) (w:List Mg) (F:Own):(BOK s/\s.pl=wB cl w)->DC Tryz.prog 22 [.raw (.pointer (some ⟨bb,0,none⟩)), .int .i64 0] ((loose::knF::knA::knM m::(ownB bb s++[]))++F) fun d G=>∃ s':BN,(BOK s'/\s'.pl=wG cl)/\d = .tup [zb8 ⟨[],w,[],[]⟩, .int .i64 0]/\G=loose::knF::knA::knM m::(ownB bb s'++F):=fun ⟨h,hp⟩=>by
 obtain ⟨c,hc,hn⟩:=zqN h (n:=0) (by rw [hp];exact zek cl w)
 have h1:=zqd bb m s c 0 F ⟨h,⟨hc,hn⟩,by rw [hp];exact zlJ ..⟩
 rwa [hp,zk7] at h1
theorem zoR (bb:Nat) (m:Int) (s:BN) (cl:Bool) (w:List Mg) (F:Own):(BOK s/\s.pl=wB cl w)->DC Tryz.prog 23 [.raw (.pointer (some ⟨bb,0,none⟩)), .int .i64 0] ((loose::knF::knA::knM m::(ownB bb s++[]))++F) fun d G=>∃ s':BN,(BOK s'/\s'.pl=wG cl)/\d = .tup [zb8 ⟨[⟨0,[],true⟩],w,[],[]⟩, .int .i64 0]/\G=loose::knF::knA::knM m::(ownB bb s'++F):=fun ⟨h,hp⟩=>by
 obtain ⟨c,hc,hn⟩:=zqN h (n:=0) (by rw [hp];exact zek cl w)
 have h1:=zp7 bb m s c 0 F ⟨h,⟨hc,hn⟩,by rw [hp];exact zlJ ..⟩
 rwa [hp,zgf] at h1
theorem zqa (bb:Nat) (m:Int) (s:BN) (cl:Bool) (w:List Mg) (F:Own):(BOK s/\s.pl=wB cl w)->DC Tryz.prog 20 [.raw (.pointer (some ⟨bb,0,none⟩)), .int .i64 7] ((loose::knF::knA::knM m::(ownB bb s++[]))++F) fun d G=>∃ s':BN,(BOK s'/\s'.pl=wG cl)/\d=zb8 ⟨[⟨0,[],true⟩],w,[],[]⟩/\G=loose::knF::knA::knM m::(ownB bb s'++F):=fun ⟨h,hp⟩=>by
 have h1:=zo0 bb m s 7 F ⟨h,by rw [hp];exact zlJ ..⟩
 rwa [hp,tick_wB] at h1
theorem wCli_dc (bb:Nat) (s:BN) (cl:Bool) (F:Own):(BOK s/\s.pl=wG cl)->DC Tryz.prog 17 [.raw (.pointer (some ⟨bb,0,none⟩)), .int .i64 0] ((ownB bb s++[])++F) fun d G=>d = .str []/\G=(ownB bb s++[])++F:=fun ⟨h,hp⟩=>by
 have h1:=zhT bb s 0 F h
 have h2:zc8 0 (wG cl)=[]:=by simp [zc8,wG,Br.conn,newC]
 rwa [hp,h2] at h1
theorem zqk (bb:Nat) (s:BN) (F:Own):(BOK s/\s.pl=wO)->DC Tryz.prog 17 [.raw (.pointer (some ⟨bb,0,none⟩)), .int .i64 0] ((ownB bb s++[])++F) fun d G=>d = .str []/\G=(ownB bb s++[])++F:=fun ⟨h,hp⟩=>by
 have h1:=zhT bb s 0 F h
 have h2:zc8 0 wO=[]:=by simp [zc8,wO,Br.conn]
 rwa [hp,h2] at h1
theorem zpg (bb:Nat) (m:Int) (T5:TypeId) (fr5:Nat×Nat) (s:BN) (cl:Bool) (wt wp:YS) (wq:Int) (wr:Bool) (F:Own):(BOK s/\s.pl=twoF/\zbD wt=true/\wt.length<=1000/\wp.length<=1000)->DC Tryz.prog 14 [.raw (.pointer (some ⟨bb,0,none⟩)), .int .i64 0, .agg [.int .i64 1, .bool false, .bool false, .int .i64 0, .int .i64 0, .str [], .gs (.slice none 0 0) [], .int .i64 4, .str [107], .bool cl, .int .i64 4, .bool true, .str wt, .sl (wp.map u8), .int .i64 wq, .bool wr, .bool false, .bool false, .str [], .gs (.slice none 0 0) [], .bool false, .int .i64 0, .gs (.slice none 0 0) [], .gs (.slice none 0 0) []], .int .i64 0, .agg [.gs (.slice none 0 0) [], .gs (.slice none 0 0) [], .gs (.slice none 0 0) [], .gs (.slice none 0 0) []]] ((knP T5 fr5::loose::knF::knA::knM m::(ownB bb s++[]))++F) fun d G=>∃ s':BN,(BOK s'/\s'.pl=wB cl [⟨wt,wp,wq,wr⟩])/\d = .tup [zb8 ⟨[⟨0,zeQ false 0,false⟩],[],[],[]⟩, .int .i64 0]/\G=knP T5 fr5::loose::knF::knA::knM m::(ownB bb s'++F):=fun ⟨h,hp,hwt,hl1,hl2⟩=>by
 have h1:=ze6 bb m T5 fr5 s 0 0 (zc9 4 [107] cl 4 true wt wp wq wr) [] [] [] [] F ⟨h,by rw [hp];exact twoF_sz,⟨_,by rw [hp];exact zmv,rfl⟩,⟨by decide,by unfold nameM;rw [if_neg (by simp [zc9])];simp [zc9],by show wt.length<=100000;omega,by show wp.length<=100000;omega,by show -1000000000<=(4:Int);decide,by show (4:Int)<=1000000000;decide⟩,rfl⟩
 rw [hp,znc,zf5 (p:=zc9 4 [107] cl 4 true wt wp wq wr) rfl (by simp [zc9]) (fun _=>hwt) (by simp [ofM,twoF,newC]) (by simp [Br.ses,twoF])] at h1
 have h2:(⟨twoF.conns.map (fun c=>if c.n=0 then zdm [107] (zc9 4 [107] cl 4 true wt wp wq wr) c else c),twoF.sess++[newA [107]],twoF.L⟩:Br)=wB cl [⟨wt,wp,wq,wr⟩]:=by simp [twoF,newC,wB,zdm,zc9,ze2]
 simp only [zc9] at h1 h2
 rw [h2] at h1
 exact DC.args (Les.cons le.rfl_ (Les.cons le.rfl_ (Les.cons (le.agg (Les.cons le.rfl_ (Les.cons le.rfl_ (Les.cons le.rfl_ (Les.cons le.rfl_ (Les.cons le.rfl_ (Les.cons le.rfl_ (Les.cons (le.gs rfl) (Les.cons le.rfl_ (Les.cons le.rfl_ (Les.cons le.rfl_ (Les.cons le.rfl_ (Les.cons le.rfl_ (Les.cons le.rfl_ (Les.cons le.rfl_ (Les.cons le.rfl_ (Les.cons le.rfl_ (Les.cons le.rfl_ (Les.cons le.rfl_ (Les.cons le.rfl_ (Les.cons (le.gs rfl) (Les.cons le.rfl_ (Les.cons le.rfl_ (Les.cons (le.gs rfl) (Les.cons (le.gs rfl) (Les.nil)))))))))))))))))))))))))) (Les.cons le.rfl_ (Les.cons (le.agg (Les.cons (le.gs rfl) (Les.cons (le.gs rfl) (Les.cons (le.gs rfl) (Les.cons (le.gs rfl) Les.nil))))) Les.nil))))) h1
theorem zox (bb:Nat) (m:Int) (T5:TypeId) (fr5:Nat×Nat) (s:BN) (cl:Bool) (w:List Mg) (F:Own):(BOK s/\s.pl=wB cl w)->DC Tryz.prog 14 [.raw (.pointer (some ⟨bb,0,none⟩)), .int .i64 1, .agg [.int .i64 1, .bool false, .bool false, .int .i64 0, .int .i64 0, .str [], .gs (.slice none 0 0) [], .int .i64 4, .str [107], .bool true, .int .i64 0, .bool false, .str [], .gs (.slice none 0 0) [], .int .i64 0, .bool false, .bool false, .bool false, .str [], .gs (.slice none 0 0) [], .bool false, .int .i64 0, .gs (.slice none 0 0) [], .gs (.slice none 0 0) []], .int .i64 0, .agg [.gs (.slice none 0 0) [], .gs (.slice none 0 0) [], .gs (.slice none 0 0) [], .gs (.slice none 0 0) []]] ((knP T5 fr5::loose::knF::knA::knM m::(ownB bb s++[]))++F) fun d G=>∃ s':BN,(BOK s'/\s'.pl=wO)/\d = .tup [zb8 ⟨[⟨0,[],true⟩,⟨1,zeQ false 0,false⟩],w,[],[]⟩, .int .i64 0]/\G=knP T5 fr5::loose::knF::knA::knM m::(ownB bb s'++F):=fun ⟨h,hp⟩=>by
 have h1:=ze6 bb m T5 fr5 s 1 0 (zc9 4 [107] true 0 false [] [] 0 false) [] [] [] [] F ⟨h,by rw [hp];exact zlJ ..,⟨_,by rw [hp];exact zo9 ..,rfl⟩,⟨by decide,by unfold nameM;rw [if_neg (by simp [zc9])];simp [zc9],Nat.zero_le _,Nat.zero_le _,by show -1000000000<=(0:Int);decide,by show (0:Int)<=1000000000;decide⟩,rfl⟩
 rw [hp,zqp,over_wB] at h1
 simp only [zc9] at h1
 exact DC.args (Les.cons le.rfl_ (Les.cons le.rfl_ (Les.cons (le.agg (Les.cons le.rfl_ (Les.cons le.rfl_ (Les.cons le.rfl_ (Les.cons le.rfl_ (Les.cons le.rfl_ (Les.cons le.rfl_ (Les.cons (le.gs rfl) (Les.cons le.rfl_ (Les.cons le.rfl_ (Les.cons le.rfl_ (Les.cons le.rfl_ (Les.cons le.rfl_ (Les.cons le.rfl_ (Les.cons (le.gs rfl) (Les.cons le.rfl_ (Les.cons le.rfl_ (Les.cons le.rfl_ (Les.cons le.rfl_ (Les.cons le.rfl_ (Les.cons (le.gs rfl) (Les.cons le.rfl_ (Les.cons le.rfl_ (Les.cons (le.gs rfl) (Les.cons (le.gs rfl) (Les.nil)))))))))))))))))))))))))) (Les.cons le.rfl_ (Les.cons (le.agg (Les.cons (le.gs rfl) (Les.cons (le.gs rfl) (Les.cons (le.gs rfl) (Les.cons (le.gs rfl) Les.nil))))) Les.nil))))) h1
theorem wOdd_dc (bb:Nat) (m:Int) (s:BN) (cl:Bool) (w:List Mg) (F:Own):(BOK s/\s.pl=wB cl w)->DC Tryz.prog 14 [.raw (.pointer (some ⟨bb,0,none⟩)), .int .i64 0, .agg [.int .i64 2, .bool false, .bool false, .int .i64 0, .int .i64 0, .str [], .gs (.slice none 0 0) [], .int .i64 0, .str [], .bool false, .int .i64 0, .bool false, .str [], .gs (.slice none 0 0) [], .int .i64 0, .bool false, .bool false, .bool false, .str [], .gs (.slice none 0 0) [], .bool false, .int .i64 0, .gs (.slice none 0 0) [], .gs (.slice none 0 0) []], .int .i64 0, .agg [.gs (.slice none 0 0) [], .gs (.slice none 0 0) [], .gs (.slice none 0 0) [], .gs (.slice none 0 0) []]] ((loose::knF::knA::knM m::(ownB bb s++[]))++F) fun d G=>∃ s':BN,(BOK s'/\s'.pl=wG cl)/\d = .tup [zb8 ⟨[⟨0,[],true⟩],w,[],[]⟩, .int .i64 0]/\G=loose::knF::knA::knM m::(ownB bb s'++F):=fun ⟨h,hp⟩=>by
 have h1:=zjr bb m s 0 0 (zan 2 0 false 0) [] [] [] [] F ⟨h,by rw [hp];exact zlJ ..,⟨_,by rw [hp];exact zek ..,rfl⟩,rfl⟩
 rw [hp,zkC,zgf] at h1
 simp only [zan] at h1
 exact DC.args (Les.cons le.rfl_ (Les.cons le.rfl_ (Les.cons (le.agg (Les.cons le.rfl_ (Les.cons le.rfl_ (Les.cons le.rfl_ (Les.cons le.rfl_ (Les.cons le.rfl_ (Les.cons le.rfl_ (Les.cons (le.gs rfl) (Les.cons le.rfl_ (Les.cons le.rfl_ (Les.cons le.rfl_ (Les.cons le.rfl_ (Les.cons le.rfl_ (Les.cons le.rfl_ (Les.cons (le.gs rfl) (Les.cons le.rfl_ (Les.cons le.rfl_ (Les.cons le.rfl_ (Les.cons le.rfl_ (Les.cons le.rfl_ (Les.cons (le.gs rfl) (Les.cons le.rfl_ (Les.cons le.rfl_ (Les.cons (le.gs rfl) (Les.cons (le.gs rfl) (Les.nil)))))))))))))))))))))))))) (Les.cons le.rfl_ (Les.cons (le.agg (Les.cons (le.gs rfl) (Les.cons (le.gs rfl) (Les.cons (le.gs rfl) (Les.cons (le.gs rfl) Les.nil))))) Les.nil))))) h1
theorem zoJ (bb:Nat) (m:Int) (s:BN) (cl:Bool) (w:List Mg) (F:Own):(BOK s/\s.pl=wB cl w)->DC Tryz.prog 14 [.raw (.pointer (some ⟨bb,0,none⟩)), .int .i64 0, .agg [.int .i64 14, .bool false, .bool false, .int .i64 0, .int .i64 0, .str [], .gs (.slice none 0 0) [], .int .i64 0, .str [], .bool false, .int .i64 0, .bool false, .str [], .gs (.slice none 0 0) [], .int .i64 0, .bool false, .bool false, .bool false, .str [], .gs (.slice none 0 0) [], .bool false, .int .i64 0, .gs (.slice none 0 0) [], .gs (.slice none 0 0) []], .int .i64 0, .agg [.gs (.slice none 0 0) [], .gs (.slice none 0 0) [], .gs (.slice none 0 0) [], .gs (.slice none 0 0) []]] ((loose::knF::knA::knM m::(ownB bb s++[]))++F) fun d G=>∃ s':BN,(BOK s'/\s'.pl=wG cl)/\d = .tup [zb8 ⟨[⟨0,[],true⟩],[],[],[]⟩, .int .i64 0]/\G=loose::knF::knA::knM m::(ownB bb s'++F):=fun ⟨h,hp⟩=>by
 have h1:=ziR bb m s 0 0 (zan 14 0 false 0) [] [] [] [] F ⟨h,by rw [hp];exact zlJ ..,⟨_,by rw [hp];exact zek ..,rfl⟩,rfl⟩
 rw [hp,zkC,zqo,zgf] at h1
 simp only [zan] at h1
 exact DC.args (Les.cons le.rfl_ (Les.cons le.rfl_ (Les.cons (le.agg (Les.cons le.rfl_ (Les.cons le.rfl_ (Les.cons le.rfl_ (Les.cons le.rfl_ (Les.cons le.rfl_ (Les.cons le.rfl_ (Les.cons (le.gs rfl) (Les.cons le.rfl_ (Les.cons le.rfl_ (Les.cons le.rfl_ (Les.cons le.rfl_ (Les.cons le.rfl_ (Les.cons le.rfl_ (Les.cons (le.gs rfl) (Les.cons le.rfl_ (Les.cons le.rfl_ (Les.cons le.rfl_ (Les.cons le.rfl_ (Les.cons le.rfl_ (Les.cons (le.gs rfl) (Les.cons le.rfl_ (Les.cons le.rfl_ (Les.cons (le.gs rfl) (Les.cons (le.gs rfl) (Les.nil)))))))))))))))))))))))))) (Les.cons le.rfl_ (Les.cons (le.agg (Les.cons (le.gs rfl) (Les.cons (le.gs rfl) (Les.cons (le.gs rfl) (Les.cons (le.gs rfl) Les.nil))))) Les.nil))))) h1
theorem msg1_dc (t p:YS) (q:Int) (r:Bool) (F:Own):(p.length<=100000)->DC Tryz.prog 24 [.sl [.agg [.str t, .sl (p.map u8), .int .i64 q, .bool r]], .sl [.agg [.str t, .sl (p.map u8), .int .i64 q, .bool r]]] (([]:Own)++F) fun d G=>d = .bool true/\G=[]++F:=fun h =>
 msgs_dc [⟨t,p,q,r⟩] F ⟨by simp,fun m hm=>by rw [List.mem_singleton.1 hm];exact h⟩
theorem zam {p:Prop} (h:p:=by first | exact sv | exact ⟨hs0,hp0,by decide,by decide⟩ | exact ⟨hs1,hp1⟩ | exact ⟨hs2,hp2,hT1,by omega,by omega⟩ | exact ⟨hs3,hp3⟩ | exact ⟨hs4,hp4⟩ | (show x.length<=100000;omega) | fail):p:=h
theorem zen {P Q:Prop} (q:Q) (h:Hid Q->P:=by (intro q;simp (maxSteps:=1000000) (disch:=omega) only [push_cast,↓reduceIte,reduceCtorEq,Nat.reduceAdd,Nat.reduceMul,Nat.reduceLT,Nat.reduceLeDiff,Nat.reduceEqDiff,Nat.reduceSub,Int.reduceToNat,Int.reduceLT,Int.reduceLE,Int.reduceAdd,Int.reduceSub,Int.reduceMul,Int.reduceNeg,Nat.reduceBEq,Int.reduceBEq,Int.reduceBNe,Nat.reduceBNe,Int.reduceEq,hh];exact q.1)):P:=h ⟨q⟩
section
attribute [local push_cast 2000] zb8 encOu encM List.map_cons List.map_nil zf7 zfA zf6 zfy
theorem zgP (how k q:Int) (x:YS) (rt:Bool) (T5:TypeId) (fr5:Nat×Nat) (m:Int) (F:Own):((0<=how/\how<=255)/\(0<=k/\k<=255)/\(0<=q/\q<=255))->DC Tryz.prog 6 [.int .u8 how, .int .u8 k, .int .u8 q, .sl (x.map u8), .bool rt] ([loose,knP T5 fr5,knF,knA,knM m]++F) fun d G=>d = .bool true/\G=[loose,knP T5 fr5,knF,knA,knM m]++F:=by
 intro hA
 obtain ⟨hhow,hk,hq⟩:=hA
 refine DC.bodyS (n_:=142) (show Tryz.prog.funcs[6]? = some Tryz.f6 by kernel_rfl) rfl rfl (by rfl) ?_
 simp only [env0,List.append_assoc,List.cons_append,List.nil_append]
 have kw:=ksIs [0,1,2,3,4,10,11,12,13,14,16,19,42,50,57,64,73,77,123,126]
 have ow:=zai []
 have r1:=Int.tmod_nonneg 6 hhow.1;have r2:=Int.tmod_lt_of_pos how (show (0:Int)<6 by decide)
 have r3:=Int.tmod_nonneg 3 hq.1;have r4:=Int.tmod_lt_of_pos q (show (0:Int)<3 by decide)
 obtain ⟨hT1,hT2⟩:=topY_ok k hk.1
 rcases (show how.tmod 6=0\/how.tmod 6=1\/how.tmod 6=2\/how.tmod 6=3\/how.tmod 6=4\/how.tmod 6=5 by omega) with hh | hh | hh | hh | hh | hh
 repeat' (first
  | refine g_ ?_
  | ((with_reducible refine And.intro ?_ ?_);(exact zam))
  | (refine DW.cond (by rfl) ?_ ?_<;>(first | exact i0_ | (intro hb;(try simp only [↓reduceCtorEq,not_true_eq_false,not_false_eq_true,hbs,Int.reduceBEq,Int.reduceBNe,Int.reduceEq] at hb);(try refine zen ?_))))
  | ((with_reducible refine zaa ?_ ?_)<;>(intro hb;rw [hb];revert hb;(first | exact i0_ | (intro hb;(try simp only [↓reduceCtorEq,not_true_eq_false,not_false_eq_true,hbs,Int.reduceBEq,Int.reduceBNe,Int.reduceEq] at hb);(try refine zen ?_)))))
  | ((first | refine rn_ ?_ | refine kn_ ?_)<;>(refine zen ?_))
  | ((first | refine q_ (zhq _ _ _ _) ?_ (ha:=by exact zam) (hk:=fun q=>q.1) | refine q_ (zgo _ _) ?_ (ha:=by exact zam) (hk:=fun q=>q.1) | refine q_ (zqk _ _ _) ?_ (ha:=by exact zam) (hk:=fun q=>q.1) | refine q_ (msg1_dc _ _ _ _ _) ?_ (ha:=by exact zam) (hk:=fun q=>q.1));refine zen ?_)
  | (refine p_ (zjs _) ?_ (ha:=by exact zam);rintro d H1 ⟨bb,s0,⟨hs0,hp0⟩,rfl,rfl⟩<;>refine zen ?_)
  | (refine p_ (zhU _ _ _ _) ?_ (ha:=by exact zam);rintro d H1 ⟨s1,⟨hs1,hp1⟩,rfl,rfl⟩<;>refine zen ?_)
  | (refine p_ (zqc _ _ _) ?_ (ha:=by exact zam);rintro d H1 ⟨s2,⟨hs2,hp2⟩,rfl,rfl⟩<;>refine zen ?_)
  | (refine p_ (zpg _ _ _ _ _ _ _ _ _ _ _) ?_ (ha:=by exact zam);rintro d H1 ⟨s3,⟨hs3,hp3⟩,rfl,rfl⟩<;>refine zen ?_)
  | (refine p_ (zoB (w:=[⟨topY k,x,q.tmod 3,rt⟩]) (cl:=q.tmod 2==0) _ _ _ _) ?_ (ha:=by exact zam);rintro d H1 ⟨s4,⟨hs4,hp4⟩,rfl,rfl⟩<;>refine zen ?_)
  | (refine p_ (zoR (w:=[⟨topY k,x,q.tmod 3,rt⟩]) (cl:=q.tmod 2==0) _ _ _ _) ?_ (ha:=by exact zam);rintro d H1 ⟨s4,⟨hs4,hp4⟩,rfl,rfl⟩<;>refine zen ?_)
  | (refine p_ (zqa (w:=[⟨topY k,x,q.tmod 3,rt⟩]) (cl:=q.tmod 2==0) _ _ _ _) ?_ (ha:=by exact zam);rintro d H1 ⟨s4,⟨hs4,hp4⟩,rfl,rfl⟩<;>refine zen ?_)
  | (refine p_ (wOdd_dc (w:=[⟨topY k,x,q.tmod 3,rt⟩]) (cl:=q.tmod 2==0) _ _ _ _) ?_ (ha:=by exact zam);rintro d H1 ⟨s4,⟨hs4,hp4⟩,rfl,rfl⟩<;>refine zen ?_)
  | (refine p_ (zoJ (w:=[⟨topY k,x,q.tmod 3,rt⟩]) (cl:=q.tmod 2==0) _ _ _ _) ?_ (ha:=by exact zam);rintro d H1 ⟨s4,⟨hs4,hp4⟩,rfl,rfl⟩<;>refine zen ?_)
  | (refine p_ (zox (w:=[⟨topY k,x,q.tmod 3,rt⟩]) (cl:=q.tmod 2==0) _ _ _ _ _ _) ?_ (ha:=by exact zam);rintro d H1 ⟨s4,⟨hs4,hp4⟩,rfl,rfl⟩<;>refine zen ?_)
  | (refine q_ (wCli_dc (cl:=q.tmod 2==0) _ _ _) ?_ (ha:=by exact zam) (hk:=fun q=>q.1);refine zen ?_)
  | ((refine on_ ?_);refine zen ?_)
  | refine f_ ?_
  | ((fail_if_success (have zz:=wb));with_reducible intro wb)
  | ((fail_if_success (have zz:=eb));with_reducible intro eb)
  | with_reducible intro b)
 all_goals first
 | ((exact absurd rfl hb))
 | ((first | exact fin_ | refine finq_ ?_);done)
 | (trace_state;fail)
end
end
section
open Go.RowKit Go.ChangeMaps Go.ChangeShapes Go.WideShapes Go.ChangeAt Go.Joins Go.Deep
theorem zgL {x:Int} (h:(Lit.int .u8 x).wf=true):0<=x/\x<=255:=by simpa [Lit.wf,IntKind.min,IntKind.max,IntKind.bits,IntKind.signed] using h
theorem zkf:U8Extra Tryz.prog laySplit_ren:=⟨by kernel_rfl,by kernel_rfl,by kernel_rfl,by kernel_rfl,by kernel_rfl,by kernel_rfl,by kernel_rfl⟩
theorem zgE {w:World} (h:w.ShapedOpen Tryz.prog):∃ m,w.cell? ⟨3,0,none⟩=some (.int .i64 m):=cell_of_shapedOpen_int (P:=Tryz.prog) (g:=3) (t:=3) (zero:=#[.int .i64 0]) h (of_decide_eq_true (by kernel_rfl)) (by kernel_rfl) rfl (by kernel_rfl) (by kernel_rfl) Tryz.underlying3
theorem zjy {w:World} (h:laidMetH Tryz.prog Rows.brokerWillsRow.laid w):Go.Lib.Utf8Tabs 1 2 w:=by
 rw [MakeChecks.laidMetH_plain _ _ _ (by kernel_rfl)] at h
 have h1:=Go.Lib.laidMet.reads h (n := "unicode/utf8.first") (d:=Rows.laid_unicode_utf8_first) (by unfold Rows.brokerWillsRow;simp)
 have h2:=Go.Lib.laidMet.reads h (n := "unicode/utf8.acceptRanges") (d:=Rows.laid_unicode_utf8_acceptRanges) (by unfold Rows.brokerWillsRow;simp)
 rw [show Rows.laid_unicode_utf8_first=Go.Lib.firstData from Pinned.utf8First_eq] at h1
 rw [show (Rows.laid_unicode_utf8_acceptRanges:DataW Unit)=Go.Lib.acceptData from by kernel_rfl] at h2
 exact utf8Tabs_of_reads { zik with } zkf h1 h2
theorem zgs {w:World} (h:laidMetH Tryz.prog Rows.brokerWillsRow.laid w):Go.Lib.VarReads Tryz.prog w "internal/strconv.uint64pow10" (Go.Lib.tabData .u64 Go.Lib.pow10Tab):=by
 rw [MakeChecks.laidMetH_plain _ _ _ (by kernel_rfl)] at h
 have h1:=Go.Lib.laidMet.reads h (n := "internal/strconv.uint64pow10") (d:=Rows.laid_internal_strconv_uint64pow10) (by unfold Rows.brokerWillsRow;simp)
 rw [show (Rows.laid_internal_strconv_uint64pow10:DataW Unit)=Go.Lib.tabData .u64 Go.Lib.pow10Tab from by kernel_rfl] at h1
 exact h1
section
variable {H:Type} {enc:TypeId×Value->H} {W:World}
theorem zfs {x:Int} (h:0<=x/\x<=255):(((UInt8.ofNat x.toNat).toNat:Nat):Int)=x:=by simp;omega
theorem zfa:Opens Tryz.prog enc W 5 1 u8 (fun _=>True):=fun cs n y hl ht=>by
 obtain ⟨a,e,_,wf⟩:=DataW.trod_int Tryz.underlying5 ht
 subst e
 refine ⟨UInt8.ofNat a.toNat,trivial,fun o ho=>?_⟩
 have:o=0:=by omega
 subst this
 show R (stable W []) W (.int .u8 a) (.int .u8 (((UInt8.ofNat a.toNat).toNat:Nat):Int))
 rw [zfs (zgL wf)]
 exact .int _ _
end
theorem brokerWills.walk {H:Type} {enc:TypeId×Value->H} (W:World) (base:Nat) {v0 v1 v2 v3 v4:Value} {d0 d1 d2 d3 d4:DataW H} {p0 p1 p2 p3 p4:List MemPlace}
  (o0:Value.okWide Tryz.prog W .any base 5 v0) (h0:DataW.Trod enc Tryz.prog W 0 (fun _=>true) true 5 v0 d0 p0)
  (o1:Value.okWide Tryz.prog W .any base 5 v1) (h1:DataW.Trod enc Tryz.prog W 0 (fun _=>true) true 5 v1 d1 p1)
  (o2:Value.okWide Tryz.prog W .any base 5 v2) (h2:DataW.Trod enc Tryz.prog W 0 (fun _=>true) true 5 v2 d2 p2)
  (o3:Value.okWide Tryz.prog W .any base 23 v3) (h3:DataW.Trod enc Tryz.prog W 0 (fun _=>true) true 23 v3 d3 p3)
  (o4:Value.okWide Tryz.prog W .any base 4 v4) (h4:DataW.Trod enc Tryz.prog W 0 (fun _=>true) true 4 v4 d4 p4)
  (hL:laidMetH Tryz.prog Rows.brokerWillsRow.laid W) (hsh:W.ShapedOpen Tryz.prog) :
  Calls Tryz.prog 6 #[v0,v1,v2,v3,v4] W fun e w'=>e = .returned (.bool true)/\Below W.heap.size W w':=by
 obtain ⟨x0,rfl,_,_,w0⟩:=open_int Tryz.underlying5 o0 h0
 obtain ⟨x1,rfl,_,_,w1⟩:=open_int Tryz.underlying5 o1 h1
 obtain ⟨x2,rfl,_,_,w2⟩:=open_int Tryz.underlying5 o2 h2
 obtain ⟨A3,len3,cap3,rfl,hE3⟩:=zkR (C:=1) Tryz.underlying23 (by kernel_rfl) (by decide) o3 h3
 obtain ⟨x3,hl3,_,hr3⟩:=zhv (C:=1) (by decide) (fun a=>rfl) zfa hE3
 obtain ⟨x4,rfl,_,_⟩:=open_bool Tryz.underlying4 o4 h4
 obtain ⟨m,hm⟩:=zgE hsh
 obtain ⟨T5,fr,hp⟩:=zoi (zgs hL)
 have hw:=zgP x0 x1 x2 x3 x4 T5 fr m [] ⟨zgL w0,zgL w1,zgL w2⟩
 refine DC.lawR (args:=[.int .u8 x0, .int .u8 x1, .int .u8 x2, .sl (x3.map u8), .bool x4]) hw (zi9 (zjy hL) hm).1 zhg hp rfl fun k hk=>?_
 match k,hk with
 | 0,_=>exact .int _ _
 | 1,_=>exact .int _ _
 | 2,_=>exact .int _ _
 | 3,_=>exact hr3
 | 4,_=>exact .bool _
theorem zcp {H:Type} {enc:TypeId×Value->H} {a:Assume} {C:Checked} {os:Os} {f:FuncId} {fn:Func} {s:ChangeSpec} {conds:List PathCond} {apart fresh handsOn again:Bool} {X:World->Array Value->Prop}
  (hX:∀ (w w':World) (args:Array Value),w.heap=w'.heap->X w args->X w' args)
  (own:ownKnob C.prog.godebug=none) (started:os.Started) (noInit:C.prog.inits.idxOf? f=none) (hfn:C.prog.funcs[f]? = some fn)
  (witness:∃ (w:World) (tape:Tape) (i:Input),w.os=os/\(w.forCall tape i).Shaped C.prog/\i.vars=[]/\Input.okWide C.prog (w.forCall tape i) .any w.heap.size f i /\
    ((s.pre enc C.prog fn conds apart (w.forCall tape i).memory i.args/\X (w.forCall tape i).memory i.args)/\sizedMet enc C.prog fn (OpenSpec.ofChange s) apart (w.forCall tape i).memory i.args)/\a.holds C.prog (lone (Frame.enter C.prog f i.args .normal) [] (w.forCall tape i)))
  (contract:∀ (W:World) (base:Nat) (args:Array Value) (ds gs:List (DataW H)) (before:List MemPlace),
    (∀ (j:Nat) t v,fn.params[j]? = some t->args[j]? = some v->Value.okWide C.prog W .any base t v)->DataW.Whole enc C.prog fn.params.toList s.vars apart W args.toList ds gs before->X W args->W.ShapedOpen C.prog ->
    Calls C.prog f args W fun e W'=>∃ v,e = .returned v/\s.post enc C.prog fn apart fresh handsOn again W args v W') :
  ReturnsInHanded a C os f .any (fun w args=>(s.pre enc C.prog fn conds apart w args/\X w args)/\sizedMet enc C.prog fn (OpenSpec.ofChange s) apart w args) (s.post enc C.prog fn apart fresh handsOn again):=by
 refine returnsInHanded_of_calls own started noInit witness ?_
 intro w tape i _ hsh _ hok hpre _
 obtain ⟨_,_,_,fn',hfn',_,_,_,_,hval⟩:=hok
 obtain rfl:fn'=fn:=Option.some.inj (hfn'.symm.trans hfn)
 obtain ⟨⟨⟨ds,gs,before,hw,_⟩,hx⟩,_⟩:=hpre
 refine (contract (w.forCall tape i) w.heap.size i.args ds gs before hval (DataW.Whole.of_heap (w':=w.forCall tape i) (by rfl) hw) (hX _ _ _ (by rfl) hx) hsh).mono fun e W' ⟨v,he,hp⟩=>?_
 subst he
 exact ChangeSpec.post_blind hp
theorem brokerWills.own:ownKnob Tryz.prog.godebug=none:=by kernel_rfl
theorem brokerWills.laidOut:laidOutB Tryz.prog=true:=by kernel_rfl
set_option maxRecDepth 100000 in
theorem brokerWills.lifted (os:Os) (started:os.Started) (H:Type) (enc:TypeId×Value->H) :
  ReturnsInHanded {} Tryz.checked os 6 .any (fun w args=>(Rows.brokerWillsSpec.pre enc Tryz.prog Tryz.f6 [] false w args/\laidMetH Tryz.prog Rows.brokerWillsRow.laid w)/\sizedMet enc Tryz.prog Tryz.f6 (OpenSpec.ofChange Rows.brokerWillsSpec) false w args)
   (Rows.brokerWillsSpec.post enc Tryz.prog Tryz.f6 false true false false):=by
 refine zcp (C:=Tryz.checked) (X:=fun w _=>laidMetH Tryz.prog Rows.brokerWillsRow.laid w) (fun _ _ _ hh h=>h.of_heap hh) brokerWills.own started (by kernel_rfl) Tryz.func6
  (ChangeSpec.witness_shaped (enc:=enc) (C:=Tryz.checked) (os:=os) (X:=fun w _=>laidMetH Tryz.prog Rows.brokerWillsRow.laid w) false (World.laidAll Tryz.prog os Rows.brokerWillsRow.laid) #[.int .u8 0, .int .u8 0, .int .u8 0, .slice none 0 0, .bool false] 8 (World.laidAll_os _ _ _)
    (World.shaped_of_ZipB (by kernel_rfl) (by kernel_rfl)) (by kernel_rfl) (by kernel_rfl) (by kernel_rfl)
    (by rw [MakeChecks.laidMetH_plain _ _ _ (by kernel_rfl)];exact laidMet_laidAll _ (by kernel_rfl) (by kernel_rfl))) ?_
 intro W base args ds gs before hval0 hW hL hsh
 have hval:∀ (j:Nat) t v,Tryz.f6.params[j]? = some t->args[j]? = some v->Value.okWide Tryz.prog W .any base t v:=hval0
 have hW':=hW
 obtain ⟨p,q,hA0,hV,rfl,hfz,hnd⟩:=hW
 have hA:DataW.TrodAll enc Tryz.prog W 0 (fun _=>true) true Tryz.f6.params.toList args.toList ds p:=hA0
 rw [Tryz.params6] at hA hval
 obtain ⟨v0,vs0,d0,ds0,p0,q0,hargs,rfl,rfl,h0,r0⟩:=trodAll_cons hA
 obtain ⟨v1,vs1,d1,ds1,p1,q1,rfl,rfl,rfl,h1,r1⟩:=trodAll_cons r0
 obtain ⟨v2,vs2,d2,ds2,p2,q2,rfl,rfl,rfl,h2,r2⟩:=trodAll_cons r1
 obtain ⟨v3,vs3,d3,ds3,p3,q3,rfl,rfl,rfl,h3,r3⟩:=trodAll_cons r2
 obtain ⟨v4,vs4,d4,ds4,p4,q4,rfl,rfl,rfl,h4,r4⟩:=trodAll_cons r3
 obtain ⟨rfl,rfl,rfl⟩:=trodAll_nil r4
 obtain rfl:args = #[v0,v1,v2,v3,v4]:=by cases args;simp_all
 obtain ⟨rfl,rfl⟩:=trodVars_none hV
 have k0:=h0
 have lt0:∀ x∈p0,x.block<W.heap.size:=by obtain ⟨m,hm⟩:=k0;exact DataW.trod_lt m _ _ _ hm
 have k1:=h1
 have lt1:∀ x∈p1,x.block<W.heap.size:=by obtain ⟨m,hm⟩:=k1;exact DataW.trod_lt m _ _ _ hm
 have k2:=h2
 have lt2:∀ x∈p2,x.block<W.heap.size:=by obtain ⟨m,hm⟩:=k2;exact DataW.trod_lt m _ _ _ hm
 have k3:=h3
 have lt3:∀ x∈p3,x.block<W.heap.size:=by obtain ⟨m,hm⟩:=k3;exact DataW.trod_lt m _ _ _ hm
 have k4:=h4
 have lt4:∀ x∈p4,x.block<W.heap.size:=by obtain ⟨m,hm⟩:=k4;exact DataW.trod_lt m _ _ _ hm
 clear hA0 hval0
 refine (brokerWills.walk W base (hval 0 5 v0 rfl rfl) h0 (hval 1 5 v1 rfl rfl) h1 (hval 2 5 v2 rfl rfl) h2 (hval 3 23 v3 rfl rfl) h3 (hval 4 4 v4 rfl rfl) h4 hL hsh).mono fun e W' ⟨he,bel⟩=>?_
 subst he
 exact ⟨_,rfl,_,_,_,[],_,[],hW',trodAll_mk1 (shut_bool Tryz.underlying4 _),(trodAll_cons_mk (Below.trod brokerWills.laidOut (by kernel_rfl) (of_decide_eq_true (by kernel_rfl)) k0 bel lt0) (trodAll_cons_mk (Below.trod brokerWills.laidOut (by kernel_rfl) (of_decide_eq_true (by kernel_rfl)) k1 bel lt1) (trodAll_cons_mk (Below.trod brokerWills.laidOut (by kernel_rfl) (of_decide_eq_true (by kernel_rfl)) k2 bel lt2) (trodAll_cons_mk (Below.trod brokerWills.laidOut (by kernel_rfl) (of_decide_eq_true (by kernel_rfl)) k3 bel lt3) (trodAll_cons_mk (Below.trod brokerWills.laidOut (by kernel_rfl) (of_decide_eq_true (by kernel_rfl)) k4 bel lt4) trodAll_mk0))))),rfl,bel.frame _,fun h=>by cases h⟩
theorem and_t {a b:Bool} (h1:a=true) (h2:b=true):(a&&b)=true:=by rw [h1,h2];rfl
set_option maxHeartbeats 40000000 in
theorem brokerWills.closed:joinedFacts Tryz.prog 6 Tryz.f6 Rows.brokerWillsSpec Rows.brokerWillsRow=true:=by
 unfold joinedFacts
 repeat' (with_reducible apply and_t)
 all_goals (as_aux_lemma=>kernel_rfl)
theorem brokerWills.over:Rows.brokerWillsRow.holds Tryz.pinned (OpenSpec.ofChange Rows.brokerWillsSpec) :=
 OpenClaim.holds_of_wide 6 Tryz.f6 rfl rfl rfl rfl rfl rfl rfl ⟨rfl,rfl,rfl,rfl,rfl⟩ rfl rfl rfl rfl rfl (by kernel_rfl) Tryz.func6 brokerWills.closed
  (of_decide_eq_true (by kernel_rfl)) (by unfold Func.isWrapper;first | (rw [if_pos (by decide +kernel)];kernel_rfl) | (rw [if_neg (by decide +kernel)];exact ⟨rfl,rfl⟩))
  (fun os started H enc _=>brokerWills.lifted os started H enc)
theorem brokerWills.plain (f:FuncId) (fn:Func) (hf:Tryz.pinned.checked.prog.funcNamed "hubbub/hubbublaw20.BrokerWills" = some f) (hfn:Tryz.pinned.checked.prog.funcs[f]? = some fn) :
  false=Tryz.pinned.checked.prog.looks []/\∀ (j:Nat) t,fn.params[j]? = some t->Tryz.pinned.checked.prog.wantsStandIn t=false:=by
 obtain rfl:f=6:=Option.some.inj ((show Tryz.prog.funcNamed "hubbub/hubbublaw20.BrokerWills" = some 6 by kernel_rfl).symm.trans hf) |>.symm
 obtain rfl:fn=Tryz.f6:=(Option.some.inj (Tryz.func6.symm.trans hfn)).symm
 refine ⟨by kernel_rfl,fun j t ht=>?_⟩
 rw [Tryz.params6] at ht
 have hm:t∈[5,5,5,23,4]:=by simpa using Array.mem_of_getElem? ht
 have hall:([5,5,5,23,4].all fun u=>!Tryz.prog.wantsStandIn u)=true:=by kernel_rfl
 exact (show Tryz.prog.wantsStandIn t=false by simpa using List.all_eq_true.1 hall t hm)
theorem brokerWills.proved:Rows.BrokerWillsCardSaid :=
 Claim7.holds_tied_plain_at .later [] _ _ _ _ brokerWills.over (fun _ h=>by cases h) (by as_aux_lemma=>kernel_rfl) (fun _ h=>by cases h) brokerWills_row_tie rfl ⟨rfl,rfl⟩ (by as_aux_lemma=>kernel_rfl) rfl brokerWills.plain (by as_aux_lemma=>kernel_rfl)
#print axioms brokerWills.proved
end
end Go.Proofs.YtgekknefphagbaaGreatDoor
