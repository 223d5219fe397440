/- A deed is put into what was seen. -/
import Derived.Test.YtifdpbghkccaoaaGreatDoorSsx
import Derived.KernelRfl
namespace Go.Proofs.YtifdpbghkccaoaaGreatDoor
open Go.RowKit
set_option linter.unusedSimpArgs false
set_option linter.unusedVariables false
set_option linter.unusedSectionVars false
set_option maxHeartbeats 4000000
set_option maxRecDepth 100000
section
attribute [local irreducible] DW SeqD DV DOp DC DVX
theorem dot_n (l:List TDot):∀ y∈l.map encDot,y.n=3:=by intro y hy;obtain ⟨x,_,rfl⟩:=List.mem_map.1 hy;rfl
theorem cells_dots (l:List TDot):(cells (l.map encDot)).length=l.length * 3:=by rw [cells_len _ (dot_n l),List.length_map]
theorem cells_dot:∀ (l:List TDot) (k:Nat),k<l.length->List.take 3 (List.drop (k * 3) (cells (l.map encDot)))=[.int .i64 (l.getD k default).node, .int .i64 (l.getD k default).epoch, .int .i64 (l.getD k default).n]
 | [],k,h=>absurd h (Nat.not_lt_zero _)
 | d::l,0,_=>rfl
 | d::l,k+1,h=>by
  have:=cells_dot l k (by simpa using h)
  rw [List.getD_cons_succ,<-this]
  show List.take 3 (List.drop ((k+1) * 3) ([V.int .i64 d.node, .int .i64 d.epoch, .int .i64 d.n]++cells (l.map encDot)))=_
  rw [show (k+1) * 3=([V.int .i64 d.node, .int .i64 d.epoch, .int .i64 d.n]:List V).length+k * 3 from by simp;omega,List.drop_append,List.drop_of_length_le (by omega),List.nil_append,Nat.add_sub_cancel_left]
theorem lay_app (a b d:List V) (m:Nat):layV (a++b) (a.length+m) d=a++layV b m d:=by
 unfold layV
 rw [List.take_append,List.take_of_length_le (by omega),List.drop_append,List.drop_of_length_le (by omega),List.nil_append,Nat.add_sub_cancel_left,show a.length+m+d.length - a.length=m+d.length from by omega]
 simp [List.append_assoc]
theorem cells_setn:∀ (l:List TDot) (k:Nat) (n:Int),k<l.length->layV (cells (l.map encDot)) (k * 3+2) [.int .i64 n]=cells ((l.set k { l.getD k default with n:=n }).map encDot)
 | [],k,n,h=>absurd h (Nat.not_lt_zero _)
 | d::l,0,n,_=>rfl
 | d::l,k+1,n,h=>by
  have:=cells_setn l k n (by simpa using h)
  rw [List.getD_cons_succ,List.set_cons_succ,List.map_cons,List.map_cons,cells_cons,cells_cons,<-this]
  have e:(k+1) * 3+2=(encDot d).cs.length+(k * 3+2):=by show _=3+_;omega
  rw [e,lay_app]
theorem takeM {α:Type} (f:α->V) (n:Nat) (l:List α):List.take n (List.map f l)=List.map f (List.take n l):=List.map_take.symm
theorem dropM {α:Type} (f:α->V) (n:Nat) (l:List α):List.drop n (List.map f l)=List.map f (List.drop n l):=List.map_drop.symm
theorem placeD_at {l:List TDot} {d:TDot} {k:Nat} (h:k<l.length) (ha:∀ i,0<=i->i<k->(!ahead (l.getD i default) d)=false) (hk:ahead (l.getD k default) d=false):placeD l d=k :=
 firstK_at _ l.length 0 k (Nat.zero_le _) (by omega) ha (by rw [hk];rfl)
theorem placeD_no {l:List TDot} {d:TDot} {k:Nat} (h:l.length<=k) (ha:∀ i,0<=i->i<k->(!ahead (l.getD i default) d)=false):placeD l d=l.length:=by
 have:=firstK_no (fun i=>!ahead (l.getD i default) d) l.length 0 (fun i h1 h2=>ha i h1 (by omega))
 rw [Nat.zero_add] at this
 exact this
theorem addM_put {l:List TDot} {d:TDot} (h1:rightB l=true) (h2:oneB d=true) (h3:hasB l d=false):addM l d=putD l d:=by rw [addM,if_pos h1,if_pos ⟨h2,h3⟩]
theorem addM_old {l:List TDot} {d:TDot} (h1:rightB l=true) (h:oneB d=false\/hasB l d=true):addM l d=l:=by
 rw [addM,if_pos h1,if_neg]
 rintro ⟨a,b⟩
 rcases h with h | h
 · rw [h] at a;cases a
 · rw [h] at b;cases b
theorem addM_no {l:List TDot} {d:TDot} (h1:rightB l=false):addM l d=[]:=by rw [addM,if_neg (by rw [h1];simp)]
theorem put_set {l:List TDot} {d:TDot} {k:Nat} (hp:placeD l d=k) (h:k<l.length) (ha:ahead d (l.getD k default)=false):putD l d=l.set k { l.getD k default with n:=d.n }:=by rw [putD,hp,if_pos ⟨h,ha⟩]
theorem put_ins {l:List TDot} {d:TDot} {k:Nat} (hp:placeD l d=k) (h:l.length<=k\/ahead d (l.getD k default)=true):putD l d=l.take k++(d::l.drop k):=by
 rw [putD,hp,if_neg]
 rintro ⟨a,b⟩
 rcases h with h | h
 · omega
 · rw [h] at b;cases b
theorem rright1_dc (a b c:Int) (F:Own):True->DC Tryz.prog 47 [.sl [.agg [.int .i64 a, .int .i64 b, .int .i64 c]]] (([]:Own)++F) fun d G=>d = .bool (oneB ⟨a,b,c⟩)/\G=[]++F:=fun _=>(rright_dc [⟨a,b,c⟩] F (by simp)).mono fun d G h=>by
 rw [h.1]
 refine ⟨?_,h.2⟩
 simp [rightB,allK,dotOk,oneB,List.range_succ]
theorem sv_radd_dc {p:Prop} (h:p:=by first | exact sv | (simp [encDot,V.one];omega) | (simp [encDot,V.one,List.length_take,List.length_drop]<;>omega) | (refine ⟨by omega,by omega,?_⟩;intro y hy;rcases List.mem_append.1 hy with hy | hy;(obtain ⟨x,_,rfl⟩:=List.mem_map.1 hy;rfl);(simp only [List.mem_singleton] at hy;subst hy;rfl)) | fail):p:=h
section
attribute [local push_cast 2000] encDot dot_eta cells_dots cells_dot cells_setn takeM dropM List.length_take List.length_drop
theorem radd_dc (l:List TDot) (x1 x2 x3:Int) (F:Own):(l.length<=1000000000)->DC Tryz.prog 48 [.sl (l.map encDot), .agg [.int .i64 x1, .int .i64 x2, .int .i64 x3]] (([]:Own)++F) fun d G=>d = .sl ((addM l ⟨x1,x2,x3⟩).map encDot)/\G=[]++F:=by
 intro hA
 have hl:=hA
 refine DC.bodyS (n_:=67) (show Tryz.prog.funcs[48]? = some Tryz.f48 by kernel_rfl) rfl rfl (by rfl) ?_
 simp only [env0,List.cons_append,List.nil_append]
 have kw:=ksIs [0,1,3,4,5,6,9,20,33,48]
 have ow:=ownIs []
 have dw7:=drIs 7 [] [8,9,10]
 have dw9:=drIs 9 [] [5,9,10]
 have dw12:=drIs 12 [3,6,10] []
 repeat' (first
  | ((with_reducible apply DW.frzR 5);(repeat (with_reducible first | refine OnA.here ?_ | refine OnA.next ?_));refine ⟨rfl,by decide,(by intro y hy;obtain ⟨x,_,rfl⟩:=List.mem_map.1 hy;rfl),?_,?_⟩;(repeat (first | exact CvE.nil | apply CvE.cons (Cv.hit _) | apply CvE.cons (Cv.rfl _))))
  | ((with_reducible apply DW.frzR 11);(repeat (with_reducible first | refine OnA.here ?_ | refine OnA.next ?_));refine ⟨rfl,by decide,(by intro y hy;obtain ⟨x,_,rfl⟩:=List.mem_map.1 hy;rfl),?_,?_⟩;(repeat (first | exact CvE.nil | apply CvE.cons (Cv.hit _) | apply CvE.cons (Cv.rfl _))))
  | ((with_reducible apply DW.frzR 12);(repeat (with_reducible first | refine OnA.here ?_ | refine OnA.next ?_));refine ⟨rfl,by decide,(by intro y hy;obtain ⟨x,_,rfl⟩:=List.mem_map.1 hy;rfl),?_,?_⟩;(repeat (first | exact CvE.nil | apply CvE.cons (Cv.hit _) | apply CvE.cons (Cv.rfl _))))
  | ((with_reducible refine DW.loopB 0 (X:=Nat) (fun x=>x<=l.length/\∀ i,0<=i->i<x->(!ahead (l.getD i default) ⟨x1,x2,x3⟩)=false) (fun x=>[(3, .sp [.int .i64 x1, .int .i64 x2, .int .i64 x3]),(5, .ar b l.length),(6, .int .i64 x)]) (fun x=>.arr 3 b (cells (l.map encDot))::([]:Own)) (fun x=>l.length - x) (0) ?_ ?_ ?_);exact (⟨Nat.zero_le _,fun i _ h=>absurd h (Nat.not_lt_zero _)⟩);(simp [Sub,get,keepL]<;>fail);(try simp only [List.cons_append,List.nil_append]);refine pl_ ?_;intro k ⟨hk,ha⟩;(try simp only [List.cons_append,List.nil_append]))
  | refine g_ ?_
  | ((with_reducible refine And.intro ?_ ?_);(exact sv_radd_dc))
  | (refine DW.cond (by rfl) ?_ ?_<;>(first | exact i0_ | (refine ic_ ?_;intro hb)))
  | ((with_reducible first | refine FVg_cases ?_ ?_ | refine FDg_cases ?_ ?_)<;>(intro hb;rw [hb];revert hb;(first | exact i0_ | (refine i_ ?_;intro hb))))
  | refine r_ ?_
  | refine d_ ?_
  | refine k_ ?_
  | ((refine dm_ ?_);(first | ((first | refine v_ (rright_dc _ _) ?_ (ha:=by exact sv_radd_dc) | refine v_ (rhas_dc _ _ _ _ _) ?_ (ha:=by exact sv_radd_dc) | refine v_ (ahead_dc _ _ _ _ _ _ _) ?_ (ha:=by exact sv_radd_dc))) | (refine v_ (rright1_dc _ _ _ _) ?_ (ha:=by exact sv_radd_dc))))
  | refine vo_ ?_
  | ((first | (refine DOp.app0a_ [11] rfl rfl rfl rfl (by intro h;cases h) ?_))<;>(refine s_ ?_))
  | ((first | refine q_ (rright_dc _ _) ?_ (ha:=by exact sv_radd_dc) | refine q_ (rhas_dc _ _ _ _ _) ?_ (ha:=by exact sv_radd_dc) | refine q_ (ahead_dc _ _ _ _ _ _ _) ?_ (ha:=by exact sv_radd_dc)))
  | (refine q_ (rright1_dc _ _ _ _) ?_ (ha:=by exact sv_radd_dc))
  | refine o_ ?_
  | refine f_ ?_
  | refine vm_ ?_
  | with_reducible intro b)
 all_goals first
 | (rw [addM_no (by assumption)];(first | exact fin_ | refine finq_ ?_);done)
 | (rw [addM_old (by assumption) (by first | (left;assumption) | (right;assumption))];(first | exact fin_ | refine finq_ ?_);done)
 | (refine ⟨k+1,⟨by omega,fun i h1 h2=>?_⟩,by omega,by simp [Sub,get],?_⟩;(by_cases hik:i=k;(subst hik;rw [‹ahead _ _=true›];rfl);exact ha i h1 (by omega));(exact sub_);done)
 | (rw [addM_put (by assumption) (by assumption) (by assumption),put_set (placeD_at (by omega) ha (by assumption)) (by omega) (by assumption)];(first | exact fin_ | refine finq_ ?_);done)
 | (rw [addM_put (by assumption) (by assumption) (by assumption),put_ins (placeD_at (by omega) ha (by assumption)) (.inr (by assumption))];refine ⟨_,_,le.gs ?_,⟨rfl,rfl⟩,?_⟩;(simp [encDot]);(exact sub_);done)
 | (have hkl:k=l.length:=by omega
    subst hkl
    rw [addM_put (by assumption) (by assumption) (by assumption),put_ins (placeD_no (Nat.le_refl _) ha) (.inl (Nat.le_refl _))];refine ⟨_,_,le.gs ?_,⟨rfl,rfl⟩,?_⟩;(simp [encDot]);(exact sub_);done)
end
end
section
attribute [local irreducible] DW SeqD DV DOp DC DVX
theorem le.tup {cs ds:List V} (h:Les cs ds):le (.tup cs) (.tup ds):=by
 intro S w v hv
 cases hv with
 | tup xs cs hn hr =>
  have key:∀ {cs ds:List V},Les cs ds->cs.length=ds.length/\∀ k,k<ds.length->le (cs.getD k .any) (ds.getD k .any):=by
   intro cs ds h
   induction h with
   | nil=>exact ⟨rfl,fun k hk=>absurd hk (Nat.not_lt_zero _)⟩
   | cons h1 h2 ih =>
    refine ⟨by simp [ih.1],fun k hk=>?_⟩
    cases k with
    | zero=>simpa using h1
    | succ k=>simpa using ih.2 k (by simpa using hk)
  obtain ⟨k1,k2⟩:=key h
  exact .tup xs _ (hn.trans k1) fun k hk=>k2 k hk S w _ (hr k (by omega))
def fencedAt (fe:List TFence) (node epoch:Int) (i:Nat):Bool:=(fe.getD i default).node==node&&decide (epoch<=(fe.getD i default).epoch)
def fencedL (fe:List TFence) (node epoch:Int):Bool:=anyK (fencedAt fe node epoch) fe.length
def unfR (fe:List TFence) (ro:List TRoute):List TRoute:=ro.filter fun r=>!fencedL fe r.dot.node r.dot.epoch
def rbefore (a b:TRoute):Bool:=if (a.filter==b.filter)=false then Op.bytesLess a.filter b.filter else before a.dot b.dot
def ownB (r:TRoute) (node epoch:Int) (f:Str):Bool:=r.dot.node==node&&r.dot.epoch==epoch&&r.filter==f
def withoutR (ro:List TRoute) (node epoch:Int) (f:Str):List TRoute:=ro.filter fun r=>!ownB r node epoch f
def placeR (ro:List TRoute) (r:TRoute):Nat:=firstK (fun i=>!rbefore (ro.getD i default) r) ro.length 0
def insR (ro:List TRoute) (r:TRoute):List TRoute:=ro.take (placeR ro r)++(r::ro.drop (placeR ro r))
theorem placeR_at {ro:List TRoute} {r:TRoute} {k:Nat} (h:k<ro.length) (ha:∀ i,0<=i->i<k->(!rbefore (ro.getD i default) r)=false) (hk:rbefore (ro.getD k default) r=false):placeR ro r=k :=
 firstK_at _ ro.length 0 k (Nat.zero_le _) (by omega) ha (by rw [hk];rfl)
theorem placeR_no {ro:List TRoute} {r:TRoute} {k:Nat} (h:ro.length<=k) (ha:∀ i,0<=i->i<k->(!rbefore (ro.getD i default) r)=false):placeR ro r=ro.length:=by
 have:=firstK_no (fun i=>!rbefore (ro.getD i default) r) ro.length 0 (fun i h1 h2=>ha i h1 (by omega))
 rw [Nat.zero_add] at this
 exact this
theorem addM_len (l:List TDot) (d:TDot):(addM l d).length<=l.length+1:=by
 unfold addM putD
 split
 · split
   · split
     · simp
     · simp only [List.length_append,List.length_take,List.length_cons,List.length_drop];omega
   · omega
 · simp
theorem fold_len (b:List TDot):∀ a:List TDot,(b.foldl addM a).length<=a.length+b.length:=by
 induction b with
 | nil=>intro a;simp
 | cons d b ih=>intro a;have:=ih (addM a d);have:=addM_len a d;simp only [List.foldl_cons,List.length_cons];omega
theorem joinM_no {a b:List TDot} (h:rightB a=false\/rightB b=false):joinM a b=[]:=by
 rw [joinM,if_neg];rintro ⟨x,y⟩;rcases h with h | h
 · rw [h] at x;cases x
 · rw [h] at y;cases y
theorem joinM_yes {a b:List TDot} (h1:rightB a=true) (h2:rightB b=true):joinM a b=b.foldl addM a:=by rw [joinM,if_pos ⟨h1,h2⟩]
theorem sv_rjoin_dc {p:Prop} (h:p:=by first | exact sv | (simp [encDot,V.one];omega) | fail):p:=h
section
attribute [local push_cast 2000] encDot dot_eta
theorem rjoin_dc (l m:List TDot) (F:Own):(l.length<=10000000/\m.length<=10000000)->DC Tryz.prog 14 [.sl (l.map encDot), .sl (m.map encDot)] (([]:Own)++F) fun d G=>d = .sl ((joinM l m).map encDot)/\G=[]++F:=by
 intro hA
 obtain ⟨hl,hm⟩:=hA
 refine DC.bodyS (n_:=30) (show Tryz.prog.funcs[14]? = some Tryz.f14 by kernel_rfl) rfl rfl (by rfl) ?_
 simp only [env0,List.cons_append,List.nil_append]
 have kw:=ksIs [0,1,4,5,6,14,20]
 have ow:=ownIs []
 repeat' (first
  | ((with_reducible apply DW.lesB 0 5);(focus (exact rfl));simp only [put_cons,put_nil,Nat.reduceEqDiff,↓reduceIte,if_true,if_false,reduceCtorEq])
  | ((with_reducible refine DW.loopB 0 (X:=Nat) (fun x=>x<=m.length) (fun x=>[(1, .sl (m.map encDot)),(5, .sl (((m.take x).foldl addM l).map encDot)),(6, .int .i64 x)]) (fun x=>([]:Own)) (fun x=>m.length - x) (0) ?_ ?_ ?_);exact (Nat.zero_le _);(simp [Sub,get,keepL]<;>fail);(try simp only [List.cons_append,List.nil_append]);refine pl_ ?_;intro k hk;(try simp only [List.cons_append,List.nil_append]);have hfl:=fold_len (m.take k) l;rw [List.length_take] at hfl)
  | refine g_ ?_
  | ((with_reducible refine And.intro ?_ ?_);(exact sv_rjoin_dc))
  | (refine DW.cond (by rfl) ?_ ?_<;>(first | exact i0_ | (refine ic_ ?_;intro hb)))
  | ((with_reducible refine FVg_cases ?_ ?_)<;>(intro hb;rw [hb];revert hb;(first | exact i0_ | (refine i_ ?_;intro hb))))
  | refine r_ ?_
  | refine k_ ?_
  | ((first | refine q_ (rright_dc _ _) ?_ (ha:=by exact sv_rjoin_dc) | refine q_ (radd_dc _ _ _ _ _) ?_ (ha:=by exact sv_rjoin_dc)))
  | refine o_ ?_
  | refine f_ ?_
  | with_reducible intro b)
 all_goals first
 | (rw [joinM_no (by first | (left;assumption) | (right;assumption))];(first | exact fin_ | refine finq_ ?_);done)
 | (refine ⟨k+1,by omega,by omega,by simp [Sub,get,foldl_more addM l (show k<m.length by omega)],?_⟩;(exact sub_);done)
 | (have hkl:k=m.length:=by omega
    subst hkl
    rw [joinM_yes (by assumption) (by assumption),List.take_length];(first | exact fin_ | refine finq_ ?_);done)
end
section
attribute [local push_cast 2000] encFence
theorem rfenced9_dc (se:List TDot) (fe:List TFence) (ro:List TRoute) (ce:List TCell) (node epoch:Int) (F:Own):(fe.length<=1000000000)->DC Tryz.prog 15 [.agg [.sl (se.map encDot), .sl (fe.map encFence), .sl (ro.map encRoute), .sl (ce.map encCell)], .int .i64 node, .int .i64 epoch] (([]:Own)++F) fun d G=>d = .bool (fencedL fe node epoch)/\G=[]++F:=by
 intro hA
 have hf:=hA
 refine DC.bodyS (n_:=33) (show Tryz.prog.funcs[15]? = some Tryz.f15 by kernel_rfl) rfl rfl (by rfl) ?_
 simp only [env0,List.cons_append,List.nil_append]
 have kw:=ksIs [0,1,2,3,6,7,12,32]
 have ow:=ownIs []
 repeat' (first
  | ((with_reducible refine DW.loopB 0 (X:=Nat) (fun x=>x<=fe.length/\anyK (fencedAt fe node epoch) x=false) (fun x=>[(1, .int .i64 node),(2, .int .i64 epoch),(3, .sp [.sl (se.map encDot), .sl (fe.map encFence), .sl (ro.map encRoute), .sl (ce.map encCell)]),(7, .int .i64 x)]) (fun x=>([]:Own)) (fun x=>fe.length - x) (0) ?_ ?_ ?_);exact (⟨Nat.zero_le _,rfl⟩);(simp [Sub,get,keepL]<;>fail);(try simp only [List.cons_append,List.nil_append]);refine pl_ ?_;intro k ⟨hk,ha⟩;(try simp only [List.cons_append,List.nil_append]))
  | refine g_ ?_
  | ((with_reducible refine And.intro ?_ ?_);(exact sv))
  | (refine DW.cond (by rfl) ?_ ?_<;>(first | exact i0_ | (refine ic_ ?_;intro hb)))
  | ((with_reducible refine FVg_cases ?_ ?_)<;>(intro hb;rw [hb];revert hb;(first | exact i0_ | (refine i_ ?_;intro hb))))
  | refine r_ ?_
  | refine k_ ?_
  | refine o_ ?_
  | refine f_ ?_
  | with_reducible intro b)
 all_goals first
 | (have ht:fencedAt fe node epoch k=true:=by
     unfold fencedAt;simp_all
    refine ⟨_,_,le.of_eq ?_,⟨rfl,rfl⟩,SubP.refl⟩;rw [fencedL,anyK_at ht (by omega)])
 | (have hkl:k=fe.length:=by omega
    subst hkl
    refine ⟨_,_,le.of_eq ?_,⟨rfl,rfl⟩,SubP.refl⟩;rw [fencedL,ha])
 | (have ht:fencedAt fe node epoch k=false:=by
     unfold fencedAt;first | (simp_all;done) | (simp_all;omega)
    refine ⟨k+1,⟨by omega,anyK_next ha ht⟩,by omega,by simp [Sub,get],?_⟩;(exact sub_);done)
end
theorem rbefore_dc (a1 a2 a3:Int) (f1:Str) (b1 b2 b3:Int) (f2:Str) (F:Own):(True)->DC Tryz.prog 58 [.agg [.int .i64 a1, .int .i64 a2, .int .i64 a3, .str f1], .agg [.int .i64 b1, .int .i64 b2, .int .i64 b3, .str f2]] (([]:Own)++F) fun d G=>d = .bool (rbefore ⟨⟨a1,a2,a3⟩,f1⟩ ⟨⟨b1,b2,b3⟩,f2⟩)/\G=[]++F:=by
 intro hA
 refine DC.bodyS (n_:=20) (show Tryz.prog.funcs[58]? = some Tryz.f58 by kernel_rfl) rfl rfl (by rfl) ?_
 simp only [env0,List.cons_append,List.nil_append]
 have kw:=ksIs [0,1,2,3,4,9]
 have ow:=ownIs []
 repeat' (first
  | refine g_ ?_
  | ((with_reducible refine And.intro ?_ ?_);(exact sv))
  | (refine DW.cond (by rfl) ?_ ?_<;>(first | exact i0_ | (refine ic_ ?_;intro hb)))
  | ((with_reducible refine FVg_cases ?_ ?_)<;>(intro hb;rw [hb];revert hb;(first | exact i0_ | (refine i_ ?_;intro hb))))
  | refine r_ ?_
  | refine k_ ?_
  | (refine q_ (before_dc _ _ _ _ _ _ _) ?_)
  | refine o_ ?_
  | refine f_ ?_
  | with_reducible intro b)
 all_goals
  refine ⟨_,_,le.of_eq ?_,⟨rfl,rfl⟩,SubP.refl⟩
  unfold rbefore
  first | (rw [if_pos (by simp_all)];done) | (rw [if_neg (by simp_all)];done)
end
end Go.Proofs.YtifdpbghkccaoaaGreatDoor
