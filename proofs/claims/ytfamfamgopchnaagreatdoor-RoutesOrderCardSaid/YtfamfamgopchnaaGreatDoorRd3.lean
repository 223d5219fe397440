/- Fences and routes. -/
import Derived.Test.YtfamfamgopchnaaGreatDoorRd2
import Derived.KernelRfl
namespace Go.Proofs.YtfamfamgopchnaaGreatDoor
open Go.RowKit
set_option linter.unusedSimpArgs false
set_option linter.unusedVariables false
set_option linter.unusedSectionVars false
set_option maxHeartbeats 4000000
set_option maxRecDepth 100000
attribute [local irreducible] DW SeqD DV DOp DC DVX


theorem le.tup {cs ds : List V} (h : Les cs ds) : le (.tup cs) (.tup ds) := by
  intro S w v hv
  cases hv with
  | tup xs cs hn hr =>
    have key : ∀ {cs ds : List V}, Les cs ds → cs.length = ds.length ∧ ∀ k, k < ds.length → le (cs.getD k .any) (ds.getD k .any) := by
      intro cs ds h
      induction h with
      | nil => exact ⟨rfl, fun k hk => absurd hk (Nat.not_lt_zero _)⟩
      | cons h1 h2 ih =>
        refine ⟨by simp [ih.1], fun k hk => ?_⟩
        cases k with
        | zero => simpa using h1
        | succ k => simpa using ih.2 k (by simpa using hk)
    obtain ⟨k1, k2⟩ := key h
    exact .tup xs _ (hn.trans k1) fun k hk => k2 k hk S w _ (hr k (by omega))
def fencedAt (fe : List TFence) (node epoch : Int) (i : Nat) : Bool := (fe.getD i default).node == node && decide (epoch ≤ (fe.getD i default).epoch)
def fencedL (fe : List TFence) (node epoch : Int) : Bool := anyK (fencedAt fe node epoch) fe.length
def unfR (fe : List TFence) (ro : List TRoute) : List TRoute := ro.filter fun r => !fencedL fe r.dot.node r.dot.epoch
def rbefore (a b : TRoute) : Bool := if (a.filter == b.filter) = false then Op.bytesLess a.filter b.filter else before a.dot b.dot
def ownB (r : TRoute) (node epoch : Int) (f : Str) : Bool := r.dot.node == node && r.dot.epoch == epoch && r.filter == f
def withoutR (ro : List TRoute) (node epoch : Int) (f : Str) : List TRoute := ro.filter fun r => !ownB r node epoch f
def placeR (ro : List TRoute) (r : TRoute) : Nat := firstK (fun i => !rbefore (ro.getD i default) r) ro.length 0
def insR (ro : List TRoute) (r : TRoute) : List TRoute := ro.take (placeR ro r) ++ (r :: ro.drop (placeR ro r))
theorem placeR_at {ro : List TRoute} {r : TRoute} {k : Nat} (h : k < ro.length) (ha : ∀ i, 0 ≤ i → i < k → (!rbefore (ro.getD i default) r) = false) (hk : rbefore (ro.getD k default) r = false) : placeR ro r = k :=
  firstK_at _ ro.length 0 k (Nat.zero_le _) (by omega) ha (by rw [hk]; rfl)
theorem placeR_no {ro : List TRoute} {r : TRoute} {k : Nat} (h : ro.length ≤ k) (ha : ∀ i, 0 ≤ i → i < k → (!rbefore (ro.getD i default) r) = false) : placeR ro r = ro.length := by
  have := firstK_no (fun i => !rbefore (ro.getD i default) r) ro.length 0 (fun i h1 h2 => ha i h1 (by omega))
  rw [Nat.zero_add] at this
  exact this
theorem addM_len (l : List TDot) (d : TDot) : (addM l d).length ≤ l.length + 1 := by
  unfold addM putD
  split
  · split
    · split
      · simp
      · simp only [List.length_append, List.length_take, List.length_cons, List.length_drop]; omega
    · omega
  · simp
theorem fold_len (b : List TDot) : ∀ a : List TDot, (b.foldl addM a).length ≤ a.length + b.length := by
  induction b with
  | nil => intro a; simp
  | cons d b ih => intro a; have := ih (addM a d); have := addM_len a d; simp only [List.foldl_cons, List.length_cons]; omega
theorem joinM_no {a b : List TDot} (h : rightB a = false ∨ rightB b = false) : joinM a b = [] := by
  rw [joinM, if_neg]; rintro ⟨x, y⟩; rcases h with h | h
  · rw [h] at x; cases x
  · rw [h] at y; cases y
theorem joinM_yes {a b : List TDot} (h1 : rightB a = true) (h2 : rightB b = true) : joinM a b = b.foldl addM a := by rw [joinM, if_pos ⟨h1, h2⟩]
theorem rjoin_dc (l m : List TDot) (F : Own) : (l.length ≤ 10000000 ∧ m.length ≤ 10000000) → DC Tryz.prog 169 [.sl (l.map encDot), .sl (m.map encDot)] (([] : Own) ++ F) fun d G => d = .sl ((joinM l m).map encDot) ∧ G = [] ++ F := by
  intro hA
  obtain ⟨hl, hm⟩ := hA
  refine DC.bodyS (n_ := 30) (show Tryz.prog.funcs[169]? = some Tryz.f169 by kernel_rfl) rfl rfl (by rfl) ?_
  simp only [env0, List.cons_append, List.nil_append]
  repeat' (first
    | ((with_reducible apply DW.lesB 0 5); (focus (exact rfl)); simp only [put_cons, put_nil, Nat.reduceEqDiff, ↓reduceIte, if_true, if_false, reduceCtorEq])
    | ((with_reducible refine DW.loopB 0 (X := Nat) (fun x => x ≤ m.length) (fun x => [(1, .sl (m.map encDot)), (5, .sl (((m.take x).foldl addM l).map encDot)), (6, .int .i64 x)]) (fun x => ([] : Own)) (fun x => m.length - x) (0) ?_ ?_ ?_); exact (Nat.zero_le _); (simp [Sub, get, keepL] <;> fail); (try simp only [List.cons_append, List.nil_append]); (repeat (with_reducible first | refine Pull.nil ?_ | refine Pull.cons ?_ | refine Out.here ?_ | refine Out.next ?_)); intro k hk; (try simp only [List.cons_append, List.nil_append]); have hfl := fold_len (m.take k) l; rw [List.length_take] at hfl)
    | with_reducible first | refine DW.sq ?_ | refine DW.block ?_ | refine DW.skip ?_ | refine DW.exit ?_
    | ((with_reducible refine DW.ret ?_))
    | with_reducible first | refine then_n ?_ | refine then_x ?_ | refine then_r ?_ | refine blk_n ?_ | refine blk_r ?_ | refine blk_x ?_
    | with_reducible refine blk_y (by decide) ?_
    | with_reducible first | refine Next.go ?_ | refine SeqD.nil ?_ | refine DV.nil ?_
    | ((with_reducible refine And.intro ?_ ?_); (first | exact sv | (simp [encDot, V.one]; omega)))
    | with_reducible first | refine DW.ct_ ?_ | refine DW.cf_ ?_
    | (refine DW.cond (by rfl) (fun hb => ?_) (fun hb => ?_) <;> (try simp only [hbs, Int.reduceBEq, Int.reduceBNe, Int.reduceEq] at hb; try (exfalso; omega)))
    | ((first | ((with_reducible refine DW.regK [0, 1, 4, 5, 6, 14, 20] (by kernel_rfl) ?_); refine SeqD.go (own := []) _ _ ?_) | ((first | refine Both.imp (fun hb => ?_) (fun hb => ?_) | (with_reducible first | refine FVg_cases (fun hb => ?_) (fun hb => ?_) | refine FDg_cases (fun hb => ?_) (fun hb => ?_)) <;> rw [hb]) <;> (try simp only [hbs, Int.reduceBEq, Int.reduceBNe, Int.reduceEq] at hb; try (exfalso; omega))) | (with_reducible refine ret_r rfl ?_) | ((refine ret_c [.tmp 4] (by rfl) ?_); (try (refine RetK_cell _ _ _ _ _ _ rfl ?_; (repeat (with_reducible first | refine OnB.here ?_ | refine OnB.mid ?_ | refine OnB.next ?_))))) | ((refine RetK_cell _ _ _ _ _ _ rfl ?_); (repeat (with_reducible first | refine OnB.here ?_ | refine OnB.mid ?_ | refine OnB.next ?_))) | (with_reducible refine ret_n rfl ?_) | (first | ((first | apply DOp.callq_ rfl rfl (h := rright_dc _ _) | apply DOp.callq_ rfl rfl (h := radd_dc _ _ _ _ _)); (repeat (first | exact Les.nil | refine Les.cons le.rfl_ ?_ | refine Les.cons (le.gs rfl) ?_ | refine Les.cons (le.gs List.map_nil.symm) ?_ | refine Les.cons (le.agg ?_) ?_)); (repeat (with_reducible first | exact Pulled.nil | apply Pulled.cons | exact Took.here | apply Took.next)); refine And.intro ?_ ?_; (first | exact sv | (simp [encDot, V.one]; omega)); rintro d rfl) | (refine DOp.load_ rfl rfl ?_; (repeat (with_reducible first | refine OnB.here ?_ | refine OnB.mid ?_ | refine OnB.next ?_))) | (refine DOp.loada_ rfl rfl ?_; (repeat (with_reducible first | refine OnA.here ?_ | refine OnA.next ?_))) | (refine DOp.appa_ rfl rfl rfl ?_; (repeat (with_reducible first | refine OnA.here ?_ | refine OnA.next ?_))) | (refine DOp.appz_ rfl rfl rfl ?_; (repeat (with_reducible first | refine OnT.here ?_ | refine OnT.next ?_)); (fail_if_success (with_reducible refine OnT_id ?_))) | (refine DOp.append0_ rfl rfl rfl ?_))) <;> (simp (maxSteps := 1000000) (disch := omega) only [push_cast, ↓reduceIte, reduceCtorEq, Nat.reduceAdd, Nat.reduceMul, Nat.reduceLT, Nat.reduceLeDiff, Nat.reduceEqDiff, Nat.reduceSub, Int.reduceToNat, Int.reduceLT, Int.reduceLE, Int.reduceAdd, Int.reduceSub, Int.reduceMul, Int.reduceNeg, Nat.reduceBEq, Int.reduceBEq, Int.reduceBNe, Nat.reduceBNe, Int.reduceEq, encDot, dot_eta]))
    | (with_reducible first | refine SeqD.opF [] rfl ?_ | refine SeqD.opgF [] rfl rfl ?_)
    | with_reducible intro b)
  all_goals first
  | (rw [joinM_no (by first | (left; assumption) | (right; assumption))]; (refine ⟨_, _, ?_, ⟨rfl, rfl⟩, ?_⟩; (first | exact le.rfl_ | exact le.gs rfl | refine le.of_eq ?_ | refine le.gs ?_); rotate_left; (repeat (with_reducible first | exact SubP.refl | exact SubP.nil | refine SubP.pick ?_ | refine Out.here ?_ | refine Out.next ?_ | refine SubP.drop ?_))); done)
  | (refine ⟨k + 1, by omega, by omega, by simp [Sub, get, foldl_more addM l (show k < m.length by omega)], ?_⟩; (repeat (with_reducible first | exact SubP.refl | exact SubP.nil | refine SubP.pick ?_ | refine Out.here ?_ | refine Out.next ?_ | refine SubP.drop ?_)); done)
  | (have hkl : k = m.length := by omega
     subst hkl
     rw [joinM_yes (by assumption) (by assumption), List.take_length]; (refine ⟨_, _, ?_, ⟨rfl, rfl⟩, ?_⟩; (first | exact le.rfl_ | exact le.gs rfl | refine le.of_eq ?_ | refine le.gs ?_); rotate_left; (repeat (with_reducible first | exact SubP.refl | exact SubP.nil | refine SubP.pick ?_ | refine Out.here ?_ | refine Out.next ?_ | refine SubP.drop ?_))); done)
theorem rfenced9_dc (se : List TDot) (fe : List TFence) (ro : List TRoute) (ce : List TCell) (node epoch : Int) (F : Own) : (fe.length ≤ 1000000000) → DC Tryz.prog 31 [.agg [.sl (se.map encDot), .sl (fe.map encFence), .sl (ro.map encRoute), .sl (ce.map encCell)], .int .i64 node, .int .i64 epoch] (([] : Own) ++ F) fun d G => d = .bool (fencedL fe node epoch) ∧ G = [] ++ F := by
  intro hA
  have hf := hA
  refine DC.bodyS (n_ := 33) (show Tryz.prog.funcs[31]? = some Tryz.f31 by kernel_rfl) rfl rfl (by rfl) ?_
  simp only [env0, List.cons_append, List.nil_append]
  repeat' (first
    | ((with_reducible refine DW.loopB 0 (X := Nat) (fun x => x ≤ fe.length ∧ anyK (fencedAt fe node epoch) x = false) (fun x => [(1, .int .i64 node), (2, .int .i64 epoch), (3, .sp [.sl (se.map encDot), .sl (fe.map encFence), .sl (ro.map encRoute), .sl (ce.map encCell)]), (7, .int .i64 x)]) (fun x => ([] : Own)) (fun x => fe.length - x) (0) ?_ ?_ ?_); exact (⟨Nat.zero_le _, rfl⟩); (simp [Sub, get, keepL] <;> fail); (try simp only [List.cons_append, List.nil_append]); (repeat (with_reducible first | refine Pull.nil ?_ | refine Pull.cons ?_ | refine Out.here ?_ | refine Out.next ?_)); intro k ⟨hk, ha⟩; (try simp only [List.cons_append, List.nil_append]))
    | with_reducible first | refine DW.sq ?_ | refine DW.block ?_ | refine DW.skip ?_ | refine DW.exit ?_
    | ((with_reducible refine DW.ret ?_))
    | with_reducible first | refine then_n ?_ | refine then_x ?_ | refine then_r ?_ | refine blk_n ?_ | refine blk_r ?_ | refine blk_x ?_
    | with_reducible refine blk_y (by decide) ?_
    | with_reducible first | refine Next.go ?_ | refine SeqD.nil ?_ | refine DV.nil ?_
    | ((with_reducible refine And.intro ?_ ?_); (exact sv))
    | with_reducible first | refine DW.ct_ ?_ | refine DW.cf_ ?_
    | (refine DW.cond (by rfl) (fun hb => ?_) (fun hb => ?_) <;> (try simp only [hbs, Int.reduceBEq, Int.reduceBNe, Int.reduceEq] at hb; try (exfalso; omega)))
    | ((first | ((with_reducible refine DW.regK [0, 1, 2, 3, 6, 7, 12, 32] (by kernel_rfl) ?_); refine SeqD.go (own := []) _ _ ?_) | ((first | refine Both.imp (fun hb => ?_) (fun hb => ?_) | (with_reducible first | refine FVg_cases (fun hb => ?_) (fun hb => ?_) | refine FDg_cases (fun hb => ?_) (fun hb => ?_)) <;> rw [hb]) <;> (try simp only [hbs, Int.reduceBEq, Int.reduceBNe, Int.reduceEq] at hb; try (exfalso; omega))) | (with_reducible refine ret_r rfl ?_) | ((refine ret_c [.tmp 6] (by rfl) ?_); (try (refine RetK_cell _ _ _ _ _ _ rfl ?_; (repeat (with_reducible first | refine OnB.here ?_ | refine OnB.mid ?_ | refine OnB.next ?_))))) | ((refine RetK_cell _ _ _ _ _ _ rfl ?_); (repeat (with_reducible first | refine OnB.here ?_ | refine OnB.mid ?_ | refine OnB.next ?_))) | (with_reducible refine ret_n rfl ?_) | (first | (refine DOp.box_ rfl ?_) | (refine DOp.load_ rfl rfl ?_; (repeat (with_reducible first | refine OnB.here ?_ | refine OnB.mid ?_ | refine OnB.next ?_))) | (refine DOp.loada_ rfl rfl ?_; (repeat (with_reducible first | refine OnA.here ?_ | refine OnA.next ?_))))) <;> (simp (maxSteps := 1000000) (disch := omega) only [push_cast, ↓reduceIte, reduceCtorEq, Nat.reduceAdd, Nat.reduceMul, Nat.reduceLT, Nat.reduceLeDiff, Nat.reduceEqDiff, Nat.reduceSub, Int.reduceToNat, Int.reduceLT, Int.reduceLE, Int.reduceAdd, Int.reduceSub, Int.reduceMul, Int.reduceNeg, Nat.reduceBEq, Int.reduceBEq, Int.reduceBNe, Nat.reduceBNe, Int.reduceEq, encFence]))
    | (with_reducible first | refine SeqD.opF [] rfl ?_ | refine SeqD.opgF [] rfl rfl ?_)
    | with_reducible intro b)
  all_goals first
  | (have ht : fencedAt fe node epoch k = true := by
       unfold fencedAt; simp_all
     refine ⟨_, _, le.of_eq ?_, ⟨rfl, rfl⟩, SubP.refl⟩; rw [fencedL, anyK_at ht (by omega)])
  | (have hkl : k = fe.length := by omega
     subst hkl
     refine ⟨_, _, le.of_eq ?_, ⟨rfl, rfl⟩, SubP.refl⟩; rw [fencedL, ha])
  | (have ht : fencedAt fe node epoch k = false := by
       unfold fencedAt; first | (simp_all; done) | (simp_all; omega)
     refine ⟨k + 1, ⟨by omega, anyK_next ha ht⟩, by omega, by simp [Sub, get], ?_⟩; (repeat (with_reducible first | exact SubP.refl | exact SubP.nil | refine SubP.pick ?_ | refine Out.here ?_ | refine Out.next ?_ | refine SubP.drop ?_)); done)
theorem rbefore_dc (a1 a2 a3 : Int) (f1 : Str) (b1 b2 b3 : Int) (f2 : Str) (F : Own) : (True) → DC Tryz.prog 20 [.agg [.int .i64 a1, .int .i64 a2, .int .i64 a3, .str f1], .agg [.int .i64 b1, .int .i64 b2, .int .i64 b3, .str f2]] (([] : Own) ++ F) fun d G => d = .bool (rbefore ⟨⟨a1, a2, a3⟩, f1⟩ ⟨⟨b1, b2, b3⟩, f2⟩) ∧ G = [] ++ F := by
  intro hA
  refine DC.bodyS (n_ := 20) (show Tryz.prog.funcs[20]? = some Tryz.f20 by kernel_rfl) rfl rfl (by rfl) ?_
  simp only [env0, List.cons_append, List.nil_append]
  repeat' (first
    | with_reducible first | refine DW.sq ?_ | refine DW.block ?_ | refine DW.skip ?_ | refine DW.exit ?_
    | ((with_reducible refine DW.ret ?_))
    | with_reducible first | refine then_n ?_ | refine then_x ?_ | refine then_r ?_ | refine blk_n ?_ | refine blk_r ?_ | refine blk_x ?_
    | with_reducible refine blk_y (by decide) ?_
    | with_reducible first | refine Next.go ?_ | refine SeqD.nil ?_ | refine DV.nil ?_
    | ((with_reducible refine And.intro ?_ ?_); (exact sv))
    | with_reducible first | refine DW.ct_ ?_ | refine DW.cf_ ?_
    | (refine DW.cond (by rfl) (fun hb => ?_) (fun hb => ?_) <;> (try simp only [hbs, Int.reduceBEq, Int.reduceBNe, Int.reduceEq] at hb; try (exfalso; omega)))
    | ((first | ((with_reducible refine DW.regK [0, 1, 2, 3, 4, 9] (by kernel_rfl) ?_); refine SeqD.go (own := []) _ _ ?_) | ((first | refine Both.imp (fun hb => ?_) (fun hb => ?_) | (with_reducible first | refine FVg_cases (fun hb => ?_) (fun hb => ?_) | refine FDg_cases (fun hb => ?_) (fun hb => ?_)) <;> rw [hb]) <;> (try simp only [hbs, Int.reduceBEq, Int.reduceBNe, Int.reduceEq] at hb; try (exfalso; omega))) | (with_reducible refine ret_r rfl ?_) | ((refine ret_c [.tmp 4] (by rfl) ?_); (try (refine RetK_cell _ _ _ _ _ _ rfl ?_; (repeat (with_reducible first | refine OnB.here ?_ | refine OnB.mid ?_ | refine OnB.next ?_))))) | ((refine RetK_cell _ _ _ _ _ _ rfl ?_); (repeat (with_reducible first | refine OnB.here ?_ | refine OnB.mid ?_ | refine OnB.next ?_))) | (with_reducible refine ret_n rfl ?_) | (first | (apply DOp.callq_ rfl rfl (h := before_dc _ _ _ _ _ _ _); (repeat (first | exact Les.nil | refine Les.cons le.rfl_ ?_ | refine Les.cons (le.gs rfl) ?_ | refine Les.cons (le.gs List.map_nil.symm) ?_ | refine Les.cons (le.agg ?_) ?_)); (repeat (with_reducible first | exact Pulled.nil | apply Pulled.cons | exact Took.here | apply Took.next)); refine And.intro ?_ ?_; (exact sv); rintro d rfl) | (refine DOp.box_ rfl ?_) | (refine DOp.load_ rfl rfl ?_; (repeat (with_reducible first | refine OnB.here ?_ | refine OnB.mid ?_ | refine OnB.next ?_))) | (refine DOp.loada_ rfl rfl ?_; (repeat (with_reducible first | refine OnA.here ?_ | refine OnA.next ?_))))) <;> (simp (maxSteps := 1000000) (disch := omega) only [push_cast, ↓reduceIte, reduceCtorEq, Nat.reduceAdd, Nat.reduceMul, Nat.reduceLT, Nat.reduceLeDiff, Nat.reduceEqDiff, Nat.reduceSub, Int.reduceToNat, Int.reduceLT, Int.reduceLE, Int.reduceAdd, Int.reduceSub, Int.reduceMul, Int.reduceNeg, Nat.reduceBEq, Int.reduceBEq, Int.reduceBNe, Nat.reduceBNe, Int.reduceEq]))
    | (with_reducible first | refine SeqD.opF [] rfl ?_ | refine SeqD.opgF [] rfl rfl ?_)
    | with_reducible intro b)
  all_goals
    refine ⟨_, _, le.of_eq ?_, ⟨rfl, rfl⟩, SubP.refl⟩
    unfold rbefore
    first | (rw [if_pos (by simp_all)]; done) | (rw [if_neg (by simp_all)]; done)
end Go.Proofs.YtfamfamgopchnaaGreatDoor
