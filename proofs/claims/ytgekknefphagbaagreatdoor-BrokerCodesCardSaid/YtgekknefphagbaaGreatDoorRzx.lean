/- Layer 20: how a greeting is answered. -/
import Derived.Test.YtgekknefphagbaaGreatDoorRrx
import Derived.Test.YtgekknefphagbaaGreatDoorQix
import Derived.Test.YtgekknefphagbaaGreatDoorLpx
import Derived.KernelRfl
import Derived.Test.YtgekknefphagbaaGreatDoorLkx
import Derived.Test.YtgekknefphagbaaGreatDoorCzx
import Derived.Test.YtgekknefphagbaaGreatDoorCards
import Derived.Test.YtgekknefphagbaaGreatDoorTie
import Derived.Lay
import Derived.PinnedBridge
import Derived.Shelf.Vars
import Derived.SevenTiedAt
import Derived.LaidMore
import Derived.OpenShut
import Derived.ChangeMaps5
namespace Go.Proofs.YtgekknefphagbaaGreatDoor
open Go.RowKit
set_option linter.unusedSimpArgs false
set_option linter.unusedVariables false
set_option linter.unusedSectionVars false
set_option maxHeartbeats 4000000
set_option maxRecDepth 100000
section
theorem zhY {b:Br} {n now:Int} {p:Pk} (hlv:p.level=4) (hn:p.client=[]->p.clean=true) (hw:p.hasWill=true->zbz p.wtopic=true) (hof:ofM (nameM n p) b = -1) (hs:b.ses (nameM n p)=none) :
  zat n p now b=(⟨[⟨n,zc8 false 0,false⟩],[],[],[]⟩,⟨b.conns.map (fun c=>if c.n=n then zd1 (nameM n p) p c else c),b.sess++[newA (nameM n p)],b.L⟩):=by
 unfold zat
 rw [if_neg (fun h=>h hlv),if_neg (fun h=>by have:=hn h.1;rw [h.2] at this;exact Bool.noConfusion this),if_neg (fun h=>by rw [hw h.1] at h;exact Bool.noConfusion h.2),zgW hof]
 have hx:zbs p.clean (nameM n p) (nilE,b)=(nilE,b):=by
  unfold zbs
  split
  · rw [zgf hs,zh5 _ _ rfl];rfl
  · rfl
 rw [hx]
 unfold zbu zei zap sesD
 simp only [hs,Option.isSome_none,Option.getD_none,Bool.false_eq_true,if_false,zgq,zgb]
 rw [zhn n ⟨by decide,by decide⟩ (fun h=>Bool.noConfusion h),zh5 _ _ rfl]
 rfl
theorem zgo (n:Int):zae n (zbg n)=(⟨[⟨n,[],true⟩],[],[],[]⟩,newB):=by
 unfold zae zbr
 rw [zdQ]
 simp only [newC]
 unfold andM Br.off zbg newC newB
 simp [zhC]
theorem zfs (n:Int) {code:Int} (h:0<=code/\code<=5):zaY n code (zbg n)=(⟨[⟨n,zc8 false code,false⟩,⟨n,[],true⟩],[],[],[]⟩,newB):=by
 unfold zaY
 rw [zgo,zhn n h (fun h=>Bool.noConfusion h)]
 unfold andM
 simp [zhC]
theorem itoa_5:Go.Lib.itoa 5=[53]:=by kernel_rfl
def zll (hw:Bool) (wt:YS):List Mg:=if hw=true then [⟨wt,[],0,false⟩] else []
theorem zix (lev:Int) (nm:YS) (cl hw:Bool) (wt:YS) (hlv:lev=4) (hn:nm=[]->cl=true) (hwn:hw=true->zbz wt=true):zat 5 (zce lev nm cl 0 hw wt [] 0 false) 0 (zbg 5)=(⟨[⟨5,zc8 false 0,false⟩],[],[],[]⟩,zbG 5 (nameM 5 (zce lev nm cl 0 hw wt [] 0 false)) 0 cl 0 (zll hw wt)):=by
 rw [zhY (p:=zce lev nm cl 0 hw wt [] 0 false) hlv hn hwn (by simp [ofM,zbg,newC]) (by simp [Br.ses,zbg])]
 cases hw<;>simp [zbg,newC,zbG,zd1,zce,ziQ,zll]
theorem znb (lev:Int) (cl hw:Bool) (wt:YS):nameM 5 (zce lev [] cl 0 hw wt [] 0 false)=[35,53]:=by unfold nameM;rw [if_pos (show (zce lev [] cl 0 hw wt [] 0 false).client=[] from rfl),itoa_5]
theorem zmw (lev:Int) (nm:YS) (h:nm≠[]) (cl hw:Bool) (wt:YS):nameM 5 (zce lev nm cl 0 hw wt [] 0 false)=nm:=by unfold nameM;rw [if_neg (show ¬ (zce lev nm cl 0 hw wt [] 0 false).client=[] from h)];rfl
theorem conN5 (lev:Int) (nm:YS) (cl hw:Bool) (wt:YS) (h1:nm.length<=1000) (h2:wt.length<=1000):ConN 5 (zce lev nm cl 0 hw wt [] 0 false):=by
 refine ⟨by decide,?_,by show wt.length<=100000;omega,Nat.zero_le _,by show -1000000000<=(0:Int);decide,by show (0:Int)<=1000000000;decide⟩
 by_cases h:nm=[]
 · subst h;rw [znb];decide
 · rw [zmw _ _ h];omega
theorem connK_0:(zc8 false 0).map u8=[.int .u8 32, .int .u8 2, .int .u8 0, .int .u8 0]:=by rfl
theorem connK_1:(zc8 false 1).map u8=[.int .u8 32, .int .u8 2, .int .u8 0, .int .u8 1]:=by rfl
theorem connK_2:(zc8 false 2).map u8=[.int .u8 32, .int .u8 2, .int .u8 0, .int .u8 2]:=by rfl
theorem zo5 (n:Int):zdI n newB=[]:=rfl
attribute [local irreducible] SN.own ownT ownC ownS ownB zae zbr zak zaQ zbz outM zat zc8 newB zbg zbG zaY nameM
attribute [local irreducible] DW SeqD DV DOp DC DVX DVJ idsF usI sortS putM zal onlyM
theorem zgk (bb:Nat) (m:Int) (T5:TypeId) (fr5:Nat×Nat) (s:BN) (lev:Int) (nm:YS) (cl hw:Bool) (wt:YS) (F:Own):(BOK s/\s.pl=zbg 5/\nm.length<=1000/\wt.length<=1000)->DC Tryz.prog 14 [.raw (.pointer (some ⟨bb,0,none⟩)), .int .i64 5, .agg [.int .i64 1, .bool false, .bool false, .int .i64 0, .int .i64 0, .str [], .gs (.slice none 0 0) [], .int .i64 lev, .str nm, .bool cl, .int .i64 0, .bool hw, .str wt, .gs (.slice none 0 0) [], .int .i64 0, .bool false, .bool false, .bool false, .str [], .gs (.slice none 0 0) [], .bool false, .int .i64 0, .gs (.slice none 0 0) [], .gs (.slice none 0 0) []], .int .i64 0, .agg [.gs (.slice none 0 0) [], .gs (.slice none 0 0) [], .gs (.slice none 0 0) [], .gs (.slice none 0 0) []]] ((knP T5 fr5::loose::knF::knA::knM m::(ownB bb s++[]))++F) fun d G=>∃ s':BN,(BOK s'/\s'.pl=(zat 5 (zce lev nm cl 0 hw wt [] 0 false) 0 (zbg 5)).2)/\d = .tup [zcM (zat 5 (zce lev nm cl 0 hw wt [] 0 false) 0 (zbg 5)).1, .int .i64 0]/\G=knP T5 fr5::loose::knF::knA::knM m::(ownB bb s'++F):=fun ⟨h,hp,hl1,hl2⟩=>by
 have h1:=zfE bb m T5 fr5 s 5 0 (zce lev nm cl 0 hw wt [] 0 false) [] [] [] [] F ⟨h,by rw [hp];exact zhT 5,⟨_,by rw [hp];exact zdQ 5,rfl⟩,conN5 lev nm cl hw wt hl1 hl2,rfl⟩
 rw [hp,zfK] at h1
 exact DC.args (Les.cons le.rfl_ (Les.cons le.rfl_ (Les.cons (le.agg (Les.cons le.rfl_ (Les.cons le.rfl_ (Les.cons le.rfl_ (Les.cons le.rfl_ (Les.cons le.rfl_ (Les.cons le.rfl_ (Les.cons (le.gs rfl) (Les.cons le.rfl_ (Les.cons le.rfl_ (Les.cons le.rfl_ (Les.cons le.rfl_ (Les.cons le.rfl_ (Les.cons le.rfl_ (Les.cons (le.gs rfl) (Les.cons le.rfl_ (Les.cons le.rfl_ (Les.cons le.rfl_ (Les.cons le.rfl_ (Les.cons le.rfl_ (Les.cons (le.gs rfl) (Les.cons le.rfl_ (Les.cons le.rfl_ (Les.cons (le.gs rfl) (Les.cons (le.gs rfl) (Les.nil)))))))))))))))))))))))))) (Les.cons le.rfl_ (Les.cons (le.agg (Les.cons (le.gs rfl) (Les.cons (le.gs rfl) (Les.cons (le.gs rfl) (Les.cons (le.gs rfl) Les.nil))))) Les.nil))))) h1
theorem cA_dc (bb:Nat) (m:Int) (T5:TypeId) (fr5:Nat×Nat) (s:BN) (lev:Int) (nm:YS) (cl hw:Bool) (wt:YS) (F:Own):(BOK s/\s.pl=zbg 5/\nm.length<=1000/\wt.length<=1000/\lev≠4)->DC Tryz.prog 14 [.raw (.pointer (some ⟨bb,0,none⟩)), .int .i64 5, .agg [.int .i64 1, .bool false, .bool false, .int .i64 0, .int .i64 0, .str [], .gs (.slice none 0 0) [], .int .i64 lev, .str nm, .bool cl, .int .i64 0, .bool hw, .str wt, .gs (.slice none 0 0) [], .int .i64 0, .bool false, .bool false, .bool false, .str [], .gs (.slice none 0 0) [], .bool false, .int .i64 0, .gs (.slice none 0 0) [], .gs (.slice none 0 0) []], .int .i64 0, .agg [.gs (.slice none 0 0) [], .gs (.slice none 0 0) [], .gs (.slice none 0 0) [], .gs (.slice none 0 0) []]] ((knP T5 fr5::loose::knF::knA::knM m::(ownB bb s++[]))++F) fun d G=>∃ s':BN,(BOK s'/\s'.pl=newB)/\d = .tup [zcM ⟨[⟨5,zc8 false 1,false⟩,⟨5,[],true⟩],[],[],[]⟩, .int .i64 0]/\G=knP T5 fr5::loose::knF::knA::knM m::(ownB bb s'++F):=fun ⟨h,hp,hl1,hl2,h4⟩=>by
 have h1:=zgk bb m T5 fr5 s lev nm cl hw wt F ⟨h,hp,hl1,hl2⟩
 have e1:zat 5 (zce lev nm cl 0 hw wt [] 0 false) 0 (zbg 5)=(⟨[⟨5,zc8 false 1,false⟩,⟨5,[],true⟩],[],[],[]⟩,newB):=by unfold zat;rw [if_pos (show (zce lev nm cl 0 hw wt [] 0 false).level≠4 from h4),zfs 5 (by decide)]
 rwa [e1] at h1
theorem cB_dc (bb:Nat) (m:Int) (T5:TypeId) (fr5:Nat×Nat) (s:BN) (lev:Int) (nm:YS) (cl hw:Bool) (wt:YS) (F:Own):(BOK s/\s.pl=zbg 5/\nm.length<=1000/\wt.length<=1000/\lev=4/\nm=[]/\cl=false)->DC Tryz.prog 14 [.raw (.pointer (some ⟨bb,0,none⟩)), .int .i64 5, .agg [.int .i64 1, .bool false, .bool false, .int .i64 0, .int .i64 0, .str [], .gs (.slice none 0 0) [], .int .i64 lev, .str nm, .bool cl, .int .i64 0, .bool hw, .str wt, .gs (.slice none 0 0) [], .int .i64 0, .bool false, .bool false, .bool false, .str [], .gs (.slice none 0 0) [], .bool false, .int .i64 0, .gs (.slice none 0 0) [], .gs (.slice none 0 0) []], .int .i64 0, .agg [.gs (.slice none 0 0) [], .gs (.slice none 0 0) [], .gs (.slice none 0 0) [], .gs (.slice none 0 0) []]] ((knP T5 fr5::loose::knF::knA::knM m::(ownB bb s++[]))++F) fun d G=>∃ s':BN,(BOK s'/\s'.pl=newB)/\d = .tup [zcM ⟨[⟨5,zc8 false 2,false⟩,⟨5,[],true⟩],[],[],[]⟩, .int .i64 0]/\G=knP T5 fr5::loose::knF::knA::knM m::(ownB bb s'++F):=fun ⟨h,hp,hl1,hl2,h4,hn,hc⟩=>by
 have h1:=zgk bb m T5 fr5 s lev nm cl hw wt F ⟨h,hp,hl1,hl2⟩
 have e1:zat 5 (zce lev nm cl 0 hw wt [] 0 false) 0 (zbg 5)=(⟨[⟨5,zc8 false 2,false⟩,⟨5,[],true⟩],[],[],[]⟩,newB):=by unfold zat;rw [if_neg (fun h=>h h4),if_pos (show (zce lev nm cl 0 hw wt [] 0 false).client=[]/\(zce lev nm cl 0 hw wt [] 0 false).clean=false from ⟨hn,hc⟩),zfs 5 (by decide)]
 rwa [e1] at h1
theorem cC_dc (bb:Nat) (m:Int) (T5:TypeId) (fr5:Nat×Nat) (s:BN) (lev:Int) (nm:YS) (cl hw:Bool) (wt:YS) (F:Own):(BOK s/\s.pl=zbg 5/\nm.length<=1000/\wt.length<=1000/\lev=4/\¬(nm=[]/\cl=false)/\hw=true/\zbz wt=false)->DC Tryz.prog 14 [.raw (.pointer (some ⟨bb,0,none⟩)), .int .i64 5, .agg [.int .i64 1, .bool false, .bool false, .int .i64 0, .int .i64 0, .str [], .gs (.slice none 0 0) [], .int .i64 lev, .str nm, .bool cl, .int .i64 0, .bool hw, .str wt, .gs (.slice none 0 0) [], .int .i64 0, .bool false, .bool false, .bool false, .str [], .gs (.slice none 0 0) [], .bool false, .int .i64 0, .gs (.slice none 0 0) [], .gs (.slice none 0 0) []], .int .i64 0, .agg [.gs (.slice none 0 0) [], .gs (.slice none 0 0) [], .gs (.slice none 0 0) [], .gs (.slice none 0 0) []]] ((knP T5 fr5::loose::knF::knA::knM m::(ownB bb s++[]))++F) fun d G=>∃ s':BN,(BOK s'/\s'.pl=newB)/\d = .tup [zcM ⟨[⟨5,[],true⟩],[],[],[]⟩, .int .i64 0]/\G=knP T5 fr5::loose::knF::knA::knM m::(ownB bb s'++F):=fun ⟨h,hp,hl1,hl2,h4,hn,hw1,hw2⟩=>by
 have h1:=zgk bb m T5 fr5 s lev nm cl hw wt F ⟨h,hp,hl1,hl2⟩
 have e1:zat 5 (zce lev nm cl 0 hw wt [] 0 false) 0 (zbg 5)=(⟨[⟨5,[],true⟩],[],[],[]⟩,newB):=by unfold zat;rw [if_neg (fun h=>h h4),if_neg (show ¬((zce lev nm cl 0 hw wt [] 0 false).client=[]/\(zce lev nm cl 0 hw wt [] 0 false).clean=false) from hn),if_pos (show (zce lev nm cl 0 hw wt [] 0 false).hasWill=true/\zbz (zce lev nm cl 0 hw wt [] 0 false).wtopic=false from ⟨hw1,hw2⟩),zgo]
 rwa [e1] at h1
theorem cD_dc (bb:Nat) (m:Int) (T5:TypeId) (fr5:Nat×Nat) (s:BN) (lev:Int) (nm:YS) (cl hw:Bool) (wt:YS) (F:Own):(BOK s/\s.pl=zbg 5/\nm.length<=1000/\wt.length<=1000/\lev=4/\(nm=[]/\cl=true)/\(hw=true->zbz wt=true))->DC Tryz.prog 14 [.raw (.pointer (some ⟨bb,0,none⟩)), .int .i64 5, .agg [.int .i64 1, .bool false, .bool false, .int .i64 0, .int .i64 0, .str [], .gs (.slice none 0 0) [], .int .i64 lev, .str nm, .bool cl, .int .i64 0, .bool hw, .str wt, .gs (.slice none 0 0) [], .int .i64 0, .bool false, .bool false, .bool false, .str [], .gs (.slice none 0 0) [], .bool false, .int .i64 0, .gs (.slice none 0 0) [], .gs (.slice none 0 0) []], .int .i64 0, .agg [.gs (.slice none 0 0) [], .gs (.slice none 0 0) [], .gs (.slice none 0 0) [], .gs (.slice none 0 0) []]] ((knP T5 fr5::loose::knF::knA::knM m::(ownB bb s++[]))++F) fun d G=>∃ s':BN,(BOK s'/\s'.pl=zbG 5 [35,53] 0 cl 0 (zll hw wt))/\d = .tup [zcM ⟨[⟨5,zc8 false 0,false⟩],[],[],[]⟩, .int .i64 0]/\G=knP T5 fr5::loose::knF::knA::knM m::(ownB bb s'++F):=fun ⟨h,hp,hl1,hl2,h4,hn,hw1⟩=>by
 have h1:=zgk bb m T5 fr5 s lev nm cl hw wt F ⟨h,hp,hl1,hl2⟩
 have e1:zat 5 (zce lev nm cl 0 hw wt [] 0 false) 0 (zbg 5)=(⟨[⟨5,zc8 false 0,false⟩],[],[],[]⟩,zbG 5 [35,53] 0 cl 0 (zll hw wt)):=by (obtain ⟨rfl,rfl⟩:=hn);rw [zix lev [] true hw wt h4 (fun _=>rfl) hw1,znb]
 rwa [e1] at h1
theorem cE_dc (bb:Nat) (m:Int) (T5:TypeId) (fr5:Nat×Nat) (s:BN) (lev:Int) (nm:YS) (cl hw:Bool) (wt:YS) (F:Own):(BOK s/\s.pl=zbg 5/\nm.length<=1000/\wt.length<=1000/\lev=4/\nm≠[]/\(hw=true->zbz wt=true))->DC Tryz.prog 14 [.raw (.pointer (some ⟨bb,0,none⟩)), .int .i64 5, .agg [.int .i64 1, .bool false, .bool false, .int .i64 0, .int .i64 0, .str [], .gs (.slice none 0 0) [], .int .i64 lev, .str nm, .bool cl, .int .i64 0, .bool hw, .str wt, .gs (.slice none 0 0) [], .int .i64 0, .bool false, .bool false, .bool false, .str [], .gs (.slice none 0 0) [], .bool false, .int .i64 0, .gs (.slice none 0 0) [], .gs (.slice none 0 0) []], .int .i64 0, .agg [.gs (.slice none 0 0) [], .gs (.slice none 0 0) [], .gs (.slice none 0 0) [], .gs (.slice none 0 0) []]] ((knP T5 fr5::loose::knF::knA::knM m::(ownB bb s++[]))++F) fun d G=>∃ s':BN,(BOK s'/\s'.pl=zbG 5 nm 0 cl 0 (zll hw wt))/\d = .tup [zcM ⟨[⟨5,zc8 false 0,false⟩],[],[],[]⟩, .int .i64 0]/\G=knP T5 fr5::loose::knF::knA::knM m::(ownB bb s'++F):=fun ⟨h,hp,hl1,hl2,h4,hn,hw1⟩=>by
 have h1:=zgk bb m T5 fr5 s lev nm cl hw wt F ⟨h,hp,hl1,hl2⟩
 have e1:zat 5 (zce lev nm cl 0 hw wt [] 0 false) 0 (zbg 5)=(⟨[⟨5,zc8 false 0,false⟩],[],[],[]⟩,zbG 5 nm 0 cl 0 (zll hw wt)):=by rw [zix lev nm cl hw wt h4 (fun h=>absurd h hn) hw1,zmw _ _ hn]
 rwa [e1] at h1
theorem zni (bb:Nat) (s:BN) (n:Int) (nm:YS) (F:Own):(BOK s/\∃ kp cl hd w,s.pl=zbG n nm kp cl hd w)->DC Tryz.prog 17 [.raw (.pointer (some ⟨bb,0,none⟩)), .int .i64 n] ((ownB bb s++[])++F) fun d G=>d = .str nm/\G=(ownB bb s++[])++F:=fun ⟨h,kp,cl,hd,w,hp⟩=>zm0 bb s n nm cl kp hd w F ⟨h,hp⟩
theorem cCl0_dc (bb:Nat) (s:BN) (n:Int) (F:Own):(BOK s/\s.pl=newB)->DC Tryz.prog 17 [.raw (.pointer (some ⟨bb,0,none⟩)), .int .i64 n] ((ownB bb s++[])++F) fun d G=>d = .str []/\G=(ownB bb s++[])++F:=fun ⟨h,hp⟩=>by
 have h1:=zn4 bb s n F h
 rwa [hp,zo5] at h1
theorem zam {p:Prop} (h:p:=by first | exact sv | exact ⟨hs0,hp0,by decide,by decide⟩ | exact ⟨hs1,hp1,(by first | omega | decide),(by first | omega | decide),hv⟩ | exact ⟨hs1,hp1,(by first | omega | decide),(by first | omega | decide),rfl,rfl,rfl⟩ | exact ⟨hs1,hp1,(by first | omega | decide),(by first | omega | decide),rfl,(fun h=>Bool.noConfusion h.2),rfl,hnt⟩ | exact ⟨hs1,hp1,(by first | omega | decide),(by first | omega | decide),rfl,(fun h=>(of_eq_false hne) h.1),rfl,hnt⟩ | exact ⟨hs1,hp1,(by first | omega | decide),(by first | omega | decide),rfl,⟨rfl,rfl⟩,(fun h=>Bool.noConfusion h)⟩ | exact ⟨hs1,hp1,(by first | omega | decide),(by first | omega | decide),rfl,⟨rfl,rfl⟩,(fun _=>hnt)⟩ | exact ⟨hs1,hp1,(by first | omega | decide),(by first | omega | decide),rfl,(of_eq_false hne),(fun h=>Bool.noConfusion h)⟩ | exact ⟨hs1,hp1,(by first | omega | decide),(by first | omega | decide),rfl,(of_eq_false hne),(fun _=>hnt)⟩ | exact .inl ⟨rfl, .inr (.inl rfl)⟩ | exact .inl ⟨rfl, .inr (.inr rfl)⟩ | exact .inl ⟨rfl, .inl rfl⟩ | exact ⟨hs2,hp2⟩ | exact ⟨hs2,_,_,_,_,hp2⟩ | fail):p:=h
theorem zd2 {P Q:Prop} (q:Q) (h:Hid Q->P:=by (intro q;simp (maxSteps:=1000000) (disch:=omega) only [push_cast,↓reduceIte,reduceCtorEq,Nat.reduceAdd,Nat.reduceMul,Nat.reduceLT,Nat.reduceLeDiff,Nat.reduceEqDiff,Nat.reduceSub,Int.reduceToNat,Int.reduceLT,Int.reduceLE,Int.reduceAdd,Int.reduceSub,Int.reduceMul,Int.reduceNeg,Nat.reduceBEq,Int.reduceBEq,Int.reduceBNe,Nat.reduceBNe,Int.reduceEq,hv,hne,hcl,hw,hnt];exact q.1)):P:=h ⟨q⟩
section
attribute [local push_cast 2000] zcM encOu List.map_cons List.map_nil connK_0 connK_1 connK_2
theorem zg5 (lv:Int) (nm:YS) (cl wl:Bool) (tp:YS) (T5:TypeId) (fr5:Nat×Nat) (m:Int) (F:Own):(0<=lv/\lv<=255)->DC Tryz.prog 3 [.int .u8 lv, .str nm, .bool cl, .bool wl, .str tp] ([loose,knP T5 fr5,knF,knA,knM m]++F) fun d G=>d = .bool true/\G=[loose,knP T5 fr5,knF,knA,knM m]++F:=by
 intro hA
 have hlv:=hA
 refine DC.bodyS (n_:=145) (show Tryz.prog.funcs[3]? = some Tryz.f3 by kernel_rfl) rfl rfl (by rfl) ?_
 simp only [env0,List.append_assoc,List.cons_append,List.nil_append]
 have kw:=ksIs [0,1,2,3,4,10,11,12,13,14,15,16,17,18,19,21,29,38,77,78,81,88,135,138,140]
 have ow:=zaf []
 have r1:=Int.tmod_nonneg 8 hlv.1;have r2:=Int.tmod_lt_of_pos lv (show (0:Int)<8 by decide)
 have key:((¬ lv.tmod 8=4)/\True/\True/\True/\True)\/(lv.tmod 8=4/\nm=[]/\cl=false/\True/\True)\/(lv.tmod 8=4/\nm=[]/\cl=true/\wl=false/\True)\/(lv.tmod 8=4/\nm=[]/\cl=true/\wl=true/\zbz tp=false)\/(lv.tmod 8=4/\nm=[]/\cl=true/\wl=true/\zbz tp=true)\/(lv.tmod 8=4/\(nm=[])=False/\True/\wl=false/\True)\/(lv.tmod 8=4/\(nm=[])=False/\True/\wl=true/\zbz tp=false)\/(lv.tmod 8=4/\(nm=[])=False/\True/\wl=true/\zbz tp=true):=by
  by_cases h1:lv.tmod 8=4<;>by_cases h2:nm=[]<;>cases cl<;>cases wl<;>cases h3:zbz tp<;>simp [h1,h2]
 rcases key with ⟨hv,hne,hcl,hw,hnt⟩ | ⟨hv,hne,hcl,hw,hnt⟩ | ⟨hv,hne,hcl,hw,hnt⟩ | ⟨hv,hne,hcl,hw,hnt⟩ | ⟨hv,hne,hcl,hw,hnt⟩ | ⟨hv,hne,hcl,hw,hnt⟩ | ⟨hv,hne,hcl,hw,hnt⟩ | ⟨hv,hne,hcl,hw,hnt⟩
 repeat' (first
  | (exact absurd hb hv)
  | (exact absurd hb (of_eq_false hne))
  | refine g_ ?_
  | ((with_reducible refine And.intro ?_ ?_);(exact zam))
  | (refine DW.cond (by rfl) ?_ ?_<;>(first | exact i0_ | (intro hb;(try simp only [↓reduceCtorEq,not_true_eq_false,not_false_eq_true,hbs,Int.reduceBEq,Int.reduceBNe,Int.reduceEq] at hb);(try refine zd2 ?_))))
  | ((with_reducible refine zaa ?_ ?_)<;>(intro hb;rw [hb];revert hb;(first | exact i0_ | (intro hb;(try simp only [↓reduceCtorEq,not_true_eq_false,not_false_eq_true,hbs,Int.reduceBEq,Int.reduceBNe,Int.reduceEq] at hb);(try refine zd2 ?_)))))
  | ((first | refine rn_ ?_ | refine kn_ ?_)<;>(refine zd2 ?_))
  | ((first | refine q_ (zln _ _ _ _) ?_ (ha:=by exact zam) (hk:=fun q=>q.1) | refine q_ (zpm _ _) ?_ (ha:=by exact zam) (hk:=fun q=>q.1));refine zd2 ?_)
  | (refine p_ (znB _) ?_ (ha:=by exact zam);rintro d H1 ⟨bb,s0,⟨hs0,hp0⟩,rfl,rfl⟩<;>refine zd2 ?_)
  | (refine p_ (zjY _ _ _ _) ?_ (ha:=by exact zam);rintro d H1 ⟨s1,⟨hs1,hp1⟩,rfl,rfl⟩<;>refine zd2 ?_)
  | (refine p_ (cA_dc _ _ _ _ _ _ _ _ _ _ _) ?_ (ha:=by exact zam);rintro d H1 ⟨s2,⟨hs2,hp2⟩,rfl,rfl⟩<;>refine zd2 ?_)
  | (refine p_ (cB_dc _ _ _ _ _ _ _ _ _ _ _) ?_ (ha:=by exact zam);rintro d H1 ⟨s2,⟨hs2,hp2⟩,rfl,rfl⟩<;>refine zd2 ?_)
  | (refine p_ (cC_dc _ _ _ _ _ _ _ _ _ _ _) ?_ (ha:=by exact zam);rintro d H1 ⟨s2,⟨hs2,hp2⟩,rfl,rfl⟩<;>refine zd2 ?_)
  | (refine p_ (cD_dc _ _ _ _ _ _ _ _ _ _ _) ?_ (ha:=by exact zam);rintro d H1 ⟨s2,⟨hs2,hp2⟩,rfl,rfl⟩<;>refine zd2 ?_)
  | (refine p_ (cE_dc _ _ _ _ _ _ _ _ _ _ _) ?_ (ha:=by exact zam);rintro d H1 ⟨s2,⟨hs2,hp2⟩,rfl,rfl⟩<;>refine zd2 ?_)
  | (refine p_ (pk2_dc _ _ _ _) ?_ (ha:=by exact zam);rintro d H1 ⟨v9,rfl,rfl⟩<;>refine zd2 ?_)
  | (refine p_ (pk1_dc _ _ _ _) ?_ (ha:=by exact zam);rintro d H1 ⟨v9,rfl,rfl⟩<;>refine zd2 ?_)
  | (refine p_ (pkY_dc _ _) ?_ (ha:=by exact zam);rintro d H1 ⟨v9,rfl,rfl⟩<;>refine zd2 ?_)
  | (refine q_ (zni (nm:=[35,53]) _ _ _ _) ?_ (ha:=by exact zam) (hk:=fun q=>q.1);refine zd2 ?_)
  | (refine q_ (zni (nm:=nm) _ _ _ _) ?_ (ha:=by exact zam) (hk:=fun q=>q.1);refine zd2 ?_)
  | (refine q_ (cCl0_dc _ _ _ _) ?_ (ha:=by exact zam) (hk:=fun q=>q.1);refine zd2 ?_)
  | ((refine on_ ?_);refine zd2 ?_)
  | refine f_ ?_
  | ((fail_if_success (have zz:=qb));with_reducible intro qb)
  | ((fail_if_success (have zz:=eb));with_reducible intro eb)
  | with_reducible intro b)
 all_goals first
 | ((exact absurd rfl hb))
 | ((first | exact fin_ | refine finq_ ?_);done)
 | (trace_state;fail)
end
end
section
open Go.RowKit Go.ChangeMaps Go.ChangeShapes Go.WideShapes Go.ChangeAt Go.Joins Go.Deep
theorem bs_of (s:ByteArray):bs s.data.toList=s:=by cases s;simp [bs]
theorem wf_u8 {x:Int} (h:(Lit.int .u8 x).wf=true):0<=x/\x<=255:=by simpa [Lit.wf,IntKind.min,IntKind.max,IntKind.bits,IntKind.signed] using h
theorem u8Extra:U8Extra Tryz.prog laySplit_ren:=⟨by kernel_rfl,by kernel_rfl,by kernel_rfl,by kernel_rfl,by kernel_rfl,by kernel_rfl,by kernel_rfl⟩
theorem znc {w:World} (h:w.ShapedOpen Tryz.prog):∃ m,w.cell? ⟨3,0,none⟩=some (.int .i64 m):=cell_of_shapedOpen_int (P:=Tryz.prog) (g:=3) (t:=3) (zero:=#[.int .i64 0]) h (of_decide_eq_true (by kernel_rfl)) (by kernel_rfl) rfl (by kernel_rfl) (by kernel_rfl) Tryz.underlying3
theorem tabs_of {w:World} (h:laidMetH Tryz.prog Rows.brokerCodesRow.laid w):Go.Lib.Utf8Tabs 1 2 w:=by
 rw [MakeChecks.laidMetH_plain _ _ _ (by kernel_rfl)] at h
 have h1:=Go.Lib.laidMet.reads h (n := "unicode/utf8.first") (d:=Rows.laid_unicode_utf8_first) (by unfold Rows.brokerCodesRow;simp)
 have h2:=Go.Lib.laidMet.reads h (n := "unicode/utf8.acceptRanges") (d:=Rows.laid_unicode_utf8_acceptRanges) (by unfold Rows.brokerCodesRow;simp)
 rw [show Rows.laid_unicode_utf8_first=Go.Lib.firstData from Pinned.utf8First_eq] at h1
 rw [show (Rows.laid_unicode_utf8_acceptRanges:DataW Unit)=Go.Lib.acceptData from by kernel_rfl] at h2
 exact utf8Tabs_of_reads { zjM with } u8Extra h1 h2
theorem zmE {w:World} (h:laidMetH Tryz.prog Rows.brokerCodesRow.laid w):Go.Lib.VarReads Tryz.prog w "internal/strconv.uint64pow10" (Go.Lib.tabData .u64 Go.Lib.pow10Tab):=by
 rw [MakeChecks.laidMetH_plain _ _ _ (by kernel_rfl)] at h
 have h1:=Go.Lib.laidMet.reads h (n := "internal/strconv.uint64pow10") (d:=Rows.laid_internal_strconv_uint64pow10) (by unfold Rows.brokerCodesRow;simp)
 rw [show (Rows.laid_internal_strconv_uint64pow10:DataW Unit)=Go.Lib.tabData .u64 Go.Lib.pow10Tab from by kernel_rfl] at h1
 exact h1
theorem brokerCodes.walk {H:Type} {enc:TypeId×Value->H} (W:World) (base:Nat) {v0 v1 v2 v3 v4:Value} {d0 d1 d2 d3 d4:DataW H} {p0 p1 p2 p3 p4:List MemPlace}
  (o0:Value.okWide Tryz.prog W .any base 5 v0) (h0:DataW.Trod enc Tryz.prog W 0 (fun _=>true) true 5 v0 d0 p0)
  (o1:Value.okWide Tryz.prog W .any base 9 v1) (h1:DataW.Trod enc Tryz.prog W 0 (fun _=>true) true 9 v1 d1 p1)
  (o2:Value.okWide Tryz.prog W .any base 4 v2) (h2:DataW.Trod enc Tryz.prog W 0 (fun _=>true) true 4 v2 d2 p2)
  (o3:Value.okWide Tryz.prog W .any base 4 v3) (h3:DataW.Trod enc Tryz.prog W 0 (fun _=>true) true 4 v3 d3 p3)
  (o4:Value.okWide Tryz.prog W .any base 9 v4) (h4:DataW.Trod enc Tryz.prog W 0 (fun _=>true) true 9 v4 d4 p4)
  (hL:laidMetH Tryz.prog Rows.brokerCodesRow.laid W) (hsh:W.ShapedOpen Tryz.prog) :
  Calls Tryz.prog 3 #[v0,v1,v2,v3,v4] W fun e w'=>e = .returned (.bool true)/\Below W.heap.size W w':=by
 obtain ⟨x0,rfl,_,_,w0⟩:=open_int Tryz.underlying5 o0 h0
 obtain ⟨x1,rfl,_,_,w1⟩:=open_string Tryz.underlying9 o1 h1
 obtain ⟨x2,rfl,_,_⟩:=open_bool Tryz.underlying4 o2 h2
 obtain ⟨x3,rfl,_,_⟩:=open_bool Tryz.underlying4 o3 h3
 obtain ⟨x4,rfl,_,_,w4⟩:=open_string Tryz.underlying9 o4 h4
 obtain ⟨m,hm⟩:=znc hsh
 obtain ⟨T5,fr,hp⟩:=pow_obj (zmE hL)
 have hw:=zg5 x0 x1.data.toList x2 x3 x4.data.toList T5 fr m [] (wf_u8 w0)
 refine DC.lawR (args:=[.int .u8 x0, .str x1.data.toList, .bool x2, .bool x3, .str x4.data.toList]) hw (znD (tabs_of hL) hm).1 zlk hp rfl fun k hk=>?_
 match k,hk with
 | 0,_=>exact .int _ _
 | 1,_=>have:=R.str (S:=stable W []) (w:=W) x1.data.toList;rw [bs_of] at this;exact this
 | 2,_=>exact .bool _
 | 3,_=>exact .bool _
 | 4,_=>have:=R.str (S:=stable W []) (w:=W) x4.data.toList;rw [bs_of] at this;exact this
theorem zeZ {H:Type} {enc:TypeId×Value->H} {a:Assume} {C:Checked} {os:Os} {f:FuncId} {fn:Func} {s:ChangeSpec} {conds:List PathCond} {apart fresh handsOn again:Bool} {X:World->Array Value->Prop}
  (hX:∀ (w w':World) (args:Array Value),w.heap=w'.heap->X w args->X w' args)
  (own:ownKnob C.prog.godebug=none) (started:os.Started) (noInit:C.prog.inits.idxOf? f=none) (hfn:C.prog.funcs[f]? = some fn)
  (witness:∃ (w:World) (tape:Tape) (i:Input),w.os=os/\(w.forCall tape i).Shaped C.prog/\i.vars=[]/\Input.okWide C.prog (w.forCall tape i) .any w.heap.size f i /\
    ((s.pre enc C.prog fn conds apart (w.forCall tape i).memory i.args/\X (w.forCall tape i).memory i.args)/\sizedMet enc C.prog fn (OpenSpec.ofChange s) apart (w.forCall tape i).memory i.args)/\a.holds C.prog (lone (Frame.enter C.prog f i.args .normal) [] (w.forCall tape i)))
  (contract:∀ (W:World) (base:Nat) (args:Array Value) (ds gs:List (DataW H)) (before:List MemPlace),
    (∀ (j:Nat) t v,fn.params[j]? = some t->args[j]? = some v->Value.okWide C.prog W .any base t v)->DataW.Whole enc C.prog fn.params.toList s.vars apart W args.toList ds gs before->X W args->W.ShapedOpen C.prog ->
    Calls C.prog f args W fun e W'=>∃ v,e = .returned v/\s.post enc C.prog fn apart fresh handsOn again W args v W') :
  ReturnsInHanded a C os f .any (fun w args=>(s.pre enc C.prog fn conds apart w args/\X w args)/\sizedMet enc C.prog fn (OpenSpec.ofChange s) apart w args) (s.post enc C.prog fn apart fresh handsOn again):=by
 refine returnsInHanded_of_calls own started noInit witness ?_
 intro w tape i _ hsh _ hok hpre _
 obtain ⟨_,_,_,fn',hfn',_,_,_,_,hval⟩:=hok
 obtain rfl:fn'=fn:=Option.some.inj (hfn'.symm.trans hfn)
 obtain ⟨⟨⟨ds,gs,before,hw,_⟩,hx⟩,_⟩:=hpre
 refine (contract (w.forCall tape i) w.heap.size i.args ds gs before hval (DataW.Whole.of_heap (w':=w.forCall tape i) (by rfl) hw) (hX _ _ _ (by rfl) hx) hsh).mono fun e W' ⟨v,he,hp⟩=>?_
 subst he
 exact ChangeSpec.post_blind hp
theorem brokerCodes.own:ownKnob Tryz.prog.godebug=none:=by kernel_rfl
theorem brokerCodes.laidOut:laidOutB Tryz.prog=true:=by kernel_rfl
set_option maxRecDepth 100000 in
theorem brokerCodes.lifted (os:Os) (started:os.Started) (H:Type) (enc:TypeId×Value->H) :
  ReturnsInHanded {} Tryz.checked os 3 .any (fun w args=>(Rows.brokerCodesSpec.pre enc Tryz.prog Tryz.f3 [] false w args/\laidMetH Tryz.prog Rows.brokerCodesRow.laid w)/\sizedMet enc Tryz.prog Tryz.f3 (OpenSpec.ofChange Rows.brokerCodesSpec) false w args)
   (Rows.brokerCodesSpec.post enc Tryz.prog Tryz.f3 false true false false):=by
 refine zeZ (C:=Tryz.checked) (X:=fun w _=>laidMetH Tryz.prog Rows.brokerCodesRow.laid w) (fun _ _ _ hh h=>h.of_heap hh) brokerCodes.own started (by kernel_rfl) Tryz.func3
  (ChangeSpec.witness_shaped (enc:=enc) (C:=Tryz.checked) (os:=os) (X:=fun w _=>laidMetH Tryz.prog Rows.brokerCodesRow.laid w) false (World.laidAll Tryz.prog os Rows.brokerCodesRow.laid) #[.int .u8 0, .string .empty, .bool false, .bool false, .string .empty] 8 (World.laidAll_os _ _ _)
    (World.shaped_of_ZipB (by kernel_rfl) (by kernel_rfl)) (by kernel_rfl) (by kernel_rfl) (by kernel_rfl)
    (by rw [MakeChecks.laidMetH_plain _ _ _ (by kernel_rfl)];exact laidMet_laidAll _ (by kernel_rfl) (by kernel_rfl))) ?_
 intro W base args ds gs before hval0 hW hL hsh
 have hval:∀ (j:Nat) t v,Tryz.f3.params[j]? = some t->args[j]? = some v->Value.okWide Tryz.prog W .any base t v:=hval0
 have hW':=hW
 obtain ⟨p,q,hA0,hV,rfl,hfz,hnd⟩:=hW
 have hA:DataW.TrodAll enc Tryz.prog W 0 (fun _=>true) true Tryz.f3.params.toList args.toList ds p:=hA0
 rw [Tryz.params3] at hA hval
 obtain ⟨v0,vs0,d0,ds0,p0,q0,hargs,rfl,rfl,h0,r0⟩:=trodAll_cons hA
 obtain ⟨v1,vs1,d1,ds1,p1,q1,rfl,rfl,rfl,h1,r1⟩:=trodAll_cons r0
 obtain ⟨v2,vs2,d2,ds2,p2,q2,rfl,rfl,rfl,h2,r2⟩:=trodAll_cons r1
 obtain ⟨v3,vs3,d3,ds3,p3,q3,rfl,rfl,rfl,h3,r3⟩:=trodAll_cons r2
 obtain ⟨v4,vs4,d4,ds4,p4,q4,rfl,rfl,rfl,h4,r4⟩:=trodAll_cons r3
 obtain ⟨rfl,rfl,rfl⟩:=trodAll_nil r4
 obtain rfl:args = #[v0,v1,v2,v3,v4]:=by cases args;simp_all
 obtain ⟨rfl,rfl⟩:=trodVars_none hV
 have k0:=h0
 have lt0:∀ x∈p0,x.block<W.heap.size:=by obtain ⟨m,hm⟩:=k0;exact DataW.trod_lt m _ _ _ hm
 have k1:=h1
 have lt1:∀ x∈p1,x.block<W.heap.size:=by obtain ⟨m,hm⟩:=k1;exact DataW.trod_lt m _ _ _ hm
 have k2:=h2
 have lt2:∀ x∈p2,x.block<W.heap.size:=by obtain ⟨m,hm⟩:=k2;exact DataW.trod_lt m _ _ _ hm
 have k3:=h3
 have lt3:∀ x∈p3,x.block<W.heap.size:=by obtain ⟨m,hm⟩:=k3;exact DataW.trod_lt m _ _ _ hm
 have k4:=h4
 have lt4:∀ x∈p4,x.block<W.heap.size:=by obtain ⟨m,hm⟩:=k4;exact DataW.trod_lt m _ _ _ hm
 clear hA0 hval0
 refine (brokerCodes.walk W base (hval 0 5 v0 rfl rfl) h0 (hval 1 9 v1 rfl rfl) h1 (hval 2 4 v2 rfl rfl) h2 (hval 3 4 v3 rfl rfl) h3 (hval 4 9 v4 rfl rfl) h4 hL hsh).mono fun e W' ⟨he,bel⟩=>?_
 subst he
 exact ⟨_,rfl,_,_,_,[],_,[],hW',trodAll_mk1 (shut_bool Tryz.underlying4 _),(trodAll_cons_mk (Below.trod brokerCodes.laidOut (by kernel_rfl) (of_decide_eq_true (by kernel_rfl)) k0 bel lt0) (trodAll_cons_mk (Below.trod brokerCodes.laidOut (by kernel_rfl) (of_decide_eq_true (by kernel_rfl)) k1 bel lt1) (trodAll_cons_mk (Below.trod brokerCodes.laidOut (by kernel_rfl) (of_decide_eq_true (by kernel_rfl)) k2 bel lt2) (trodAll_cons_mk (Below.trod brokerCodes.laidOut (by kernel_rfl) (of_decide_eq_true (by kernel_rfl)) k3 bel lt3) (trodAll_cons_mk (Below.trod brokerCodes.laidOut (by kernel_rfl) (of_decide_eq_true (by kernel_rfl)) k4 bel lt4) trodAll_mk0))))),rfl,bel.frame _,fun h=>by cases h⟩
theorem and_t {a b:Bool} (h1:a=true) (h2:b=true):(a&&b)=true:=by rw [h1,h2];rfl
set_option maxHeartbeats 40000000 in
theorem brokerCodes.closed:joinedFacts Tryz.prog 3 Tryz.f3 Rows.brokerCodesSpec Rows.brokerCodesRow=true:=by
 unfold joinedFacts
 repeat' (with_reducible apply and_t)
 all_goals (as_aux_lemma=>kernel_rfl)
theorem brokerCodes.over:Rows.brokerCodesRow.holds Tryz.pinned (OpenSpec.ofChange Rows.brokerCodesSpec) :=
 OpenClaim.holds_of_wide 3 Tryz.f3 rfl rfl rfl rfl rfl rfl rfl ⟨rfl,rfl,rfl,rfl,rfl⟩ rfl rfl rfl rfl rfl (by kernel_rfl) Tryz.func3 brokerCodes.closed
  (of_decide_eq_true (by kernel_rfl)) (by unfold Func.isWrapper;first | (rw [if_pos (by decide +kernel)];kernel_rfl) | (rw [if_neg (by decide +kernel)];exact ⟨rfl,rfl⟩))
  (fun os started H enc _=>brokerCodes.lifted os started H enc)
theorem brokerCodes.plain (f:FuncId) (fn:Func) (hf:Tryz.pinned.checked.prog.funcNamed "hubbub/hubbublaw20.BrokerCodes" = some f) (hfn:Tryz.pinned.checked.prog.funcs[f]? = some fn) :
  false=Tryz.pinned.checked.prog.looks []/\∀ (j:Nat) t,fn.params[j]? = some t->Tryz.pinned.checked.prog.wantsStandIn t=false:=by
 obtain rfl:f=3:=Option.some.inj ((show Tryz.prog.funcNamed "hubbub/hubbublaw20.BrokerCodes" = some 3 by kernel_rfl).symm.trans hf) |>.symm
 obtain rfl:fn=Tryz.f3:=(Option.some.inj (Tryz.func3.symm.trans hfn)).symm
 refine ⟨by kernel_rfl,fun j t ht=>?_⟩
 rw [Tryz.params3] at ht
 have hm:t∈[5,9,4,4,9]:=by simpa using Array.mem_of_getElem? ht
 have hall:([5,9,4,4,9].all fun u=>!Tryz.prog.wantsStandIn u)=true:=by kernel_rfl
 exact (show Tryz.prog.wantsStandIn t=false by simpa using List.all_eq_true.1 hall t hm)
theorem brokerCodes.proved:Rows.BrokerCodesCardSaid :=
 Claim7.holds_tied_plain_at .later [] _ _ _ _ brokerCodes.over (fun _ h=>by cases h) (by as_aux_lemma=>kernel_rfl) (fun _ h=>by cases h) brokerCodes_row_tie rfl ⟨rfl,rfl⟩ (by as_aux_lemma=>kernel_rfl) rfl brokerCodes.plain (by as_aux_lemma=>kernel_rfl)
#print axioms brokerCodes.proved
end
end Go.Proofs.YtgekknefphagbaaGreatDoor
