/- Numbers, texts laid down behind bytes that are owned. -/
import Derived.Test.YtfamfamgopchnaaGreatDoorFr
import Derived.Test.YtfamfamgopchnaaGreatDoorEu
import Derived.KernelRfl
namespace Go.Proofs.YtfamfamgopchnaaGreatDoor
open Go.RowKit
set_option linter.unusedSimpArgs false
set_option linter.unusedVariables false
set_option linter.unusedSectionVars false
set_option maxHeartbeats 4000000
set_option maxRecDepth 100000
attribute [local irreducible] DW SeqD DV DOp DC DVX


theorem shK_div (x : Int) : ∀ k, shK k x = x / 2 ^ (8 * k)
  | 0 => by simp [shK]
  | k + 1 => by
    show (shK k x).fdiv (2 ^ min 8 IntKind.u64.bits) = _
    rw [shK_div x k, show ((2 : Int) ^ min 8 IntKind.u64.bits) = 256 from rfl, Int.fdiv_eq_ediv_of_nonneg _ (by decide), Int.ediv_ediv_of_nonneg (Int.pow_nonneg (by decide)), Nat.mul_add, Int.pow_add]
    rfl
theorem sh_at (x : Int) {k : Nat} (h : k < 8) : x.fdiv (2 ^ min (8 * (k : Int)).toNat IntKind.u64.bits) = shK k x := by
  rw [shK_div, show (8 * (k : Int)).toNat = 8 * k by omega, show min (8 * k) IntKind.u64.bits = 8 * k from Nat.min_eq_left (by show 8 * k ≤ 64; omega), Int.fdiv_eq_ediv_of_nonneg _ (Int.pow_nonneg (by decide))]
theorem eight_dc (v : Value) (n : Nat) (l : List UInt8) (q : Int) (F : Own) : (n = l.length ∧ l.length ≤ 1000000000000) → DC Tryz.prog 45 [.ar v n, .int .u64 q] ([.arr 1 v ((l).map u8)] ++ F) fun d G => ∃ v1, d = .ar v1 (n + 8) ∧ G = .arr 1 v1 ((l ++ leK 8 q).map u8) :: F := by
  intro hA
  obtain ⟨hn, hl⟩ := hA
  refine DC.bodyS (n_ := 19) (show Tryz.prog.funcs[45]? = some Tryz.f45 by kernel_rfl) rfl rfl (by rfl) ?_
  simp only [env0, leK_0, List.append_nil, Nat.add_zero, List.cons_append, List.nil_append]
  repeat' (first
    | ((with_reducible refine DW.loopB 0 (X := Nat × Value) (fun x => x.1 ≤ 8) (fun x => [(0, .ar x.2 (n + x.1)), (1, .int .u64 q), (5, .int .i64 x.1)]) (fun x => .arr 1 x.2 ((l ++ leK x.1 q).map u8) :: ([] : Own)) (fun x => 8 - x.1) ((0, v)) ?_ ?_ ?_); exact (Nat.zero_le _); (simp [Sub, get, keepL, leK_0] <;> fail); (try simp only [leK_0, List.append_nil, Nat.add_zero, List.cons_append, List.nil_append]); (repeat (with_reducible first | refine Pull.nil ?_ | refine Pull.cons ?_ | refine Out.here ?_ | refine Out.next ?_)); intro ⟨k, y⟩ hk; (try simp only [leK_0, List.append_nil, Nat.add_zero, List.cons_append, List.nil_append]); simp only at hk)
    | with_reducible first | refine DW.sq ?_ | refine DW.block ?_ | refine DW.skip ?_ | refine DW.exit ?_
    | ((with_reducible refine DW.ret ?_))
    | with_reducible first | refine then_n ?_ | refine then_x ?_ | refine then_r ?_ | refine blk_n ?_ | refine blk_r ?_ | refine blk_x ?_
    | with_reducible refine blk_y (by decide) ?_
    | with_reducible first | refine Next.go ?_ | refine SeqD.nil ?_ | refine DV.nil ?_
    | ((with_reducible refine And.intro ?_ ?_); (first | exact sv | (simp [u8, V.one, V.n]; omega) | (simp [u8, V.one, V.n] <;> fail) | (simp only [List.length_append, leK_len, numsL_len]; omega) | (simp only [List.length_append, leK_len, numsL_len, textBy_len, List.length_map, List.length_cons, List.length_nil] <;> omega)))
    | with_reducible first | refine DW.ct_ ?_ | refine DW.cf_ ?_
    | (refine DW.cond (by rfl) (fun hb => ?_) (fun hb => ?_) <;> (try simp only [hbs, Int.reduceBEq, Int.reduceBNe, Int.reduceEq] at hb; try (exfalso; omega)))
    | ((first | ((with_reducible refine DW.regK [0, 1, 4, 5, 7] (by kernel_rfl) ?_); refine SeqD.go (own := []) _ _ ?_) | ((first | refine Both.imp (fun hb => ?_) (fun hb => ?_) | (with_reducible first | refine FVg_cases (fun hb => ?_) (fun hb => ?_) | refine FDg_cases (fun hb => ?_) (fun hb => ?_)) <;> rw [hb]) <;> (try simp only [hbs, Int.reduceBEq, Int.reduceBNe, Int.reduceEq] at hb; try (exfalso; omega))) | (with_reducible refine ret_r rfl ?_) | ((refine ret_c [.tmp 4] (by rfl) ?_); (try (refine RetK_cell _ _ _ _ _ _ rfl ?_; (repeat (with_reducible first | refine OnB.here ?_ | refine OnB.mid ?_ | refine OnB.next ?_))))) | ((refine RetK_cell _ _ _ _ _ _ rfl ?_); (repeat (with_reducible first | refine OnB.here ?_ | refine OnB.mid ?_ | refine OnB.next ?_))) | (with_reducible refine ret_n rfl ?_) | (first | (refine DOp.list_ rfl ?_) | (refine DOp.appa_ rfl rfl rfl ?_; (repeat (with_reducible first | refine OnA.here ?_ | refine OnA.next ?_))) | (refine DOp.appz_ rfl rfl rfl ?_; (repeat (with_reducible first | refine OnT.here ?_ | refine OnT.next ?_)); (fail_if_success (with_reducible refine OnT_id ?_))) | (refine DOp.append0_ rfl rfl rfl ?_))) <;> (simp (maxSteps := 1000000) (disch := omega) only [push_cast, ↓reduceIte, reduceCtorEq, Nat.reduceAdd, Nat.reduceMul, Nat.reduceLT, Nat.reduceLeDiff, Nat.reduceEqDiff, Nat.reduceSub, Int.reduceToNat, Int.reduceLT, Int.reduceLE, Int.reduceAdd, Int.reduceSub, Int.reduceMul, Int.reduceNeg, Nat.reduceBEq, Int.reduceBEq, Int.reduceBNe, Nat.reduceBNe, Int.reduceEq, cells_cons, cells_nil, sh_at]))
    | (with_reducible first | refine SeqD.opF [] rfl ?_ | refine SeqD.opgF [] rfl rfl ?_)
    | with_reducible intro b)
  all_goals first
  | (refine ⟨(k + 1, b), ?_, ?_, ?_, ?_⟩; ((try simp only); omega); ((try simp only); omega); (simp [Sub, get, Nat.add_assoc] <;> fail); (simp only [leK_more, List.map_append, List.map_cons, List.map_nil, u8_byteI, List.append_assoc]); (repeat (with_reducible first | exact SubP.refl | exact SubP.nil | refine SubP.pick ?_ | refine Out.here ?_ | refine Out.next ?_ | refine SubP.drop ?_)); done)
  | (have hk8 : k = 8 := by omega
     subst hk8
     refine ⟨_, _, le.rfl_, ⟨y, rfl, rfl⟩, ?_⟩; (repeat (with_reducible first | exact SubP.refl | exact SubP.nil | refine SubP.pick ?_ | refine Out.here ?_ | refine Out.next ?_ | refine SubP.drop ?_)); done)
theorem num_dc (v : Value) (n : Nat) (l : List UInt8) (xs : List Int) (F : Own) : (n = l.length ∧ l.length ≤ 999999999000 ∧ xs.length ≤ 100) → DC Tryz.prog 44 [.ar v n, .sl (xs.map encJ)] ([.arr 1 v ((l).map u8)] ++ F) fun d G => ∃ v1, d = .ar v1 (n + 8 * xs.length) ∧ G = .arr 1 v1 ((l ++ numsL xs).map u8) :: F := by
  intro hA
  obtain ⟨hn, hl, hx⟩ := hA
  refine DC.bodyS (n_ := 20) (show Tryz.prog.funcs[44]? = some Tryz.f44 by kernel_rfl) rfl rfl (by rfl) ?_
  simp only [env0, numsL_nil, List.append_nil, Nat.add_zero, List.take_zero, Nat.mul_zero, List.cons_append, List.nil_append]
  repeat' (first
    | ((with_reducible refine DW.loopB 0 (X := Nat × Value) (fun x => x.1 ≤ xs.length) (fun x => [(0, .ar x.2 (n + 8 * x.1)), (1, .sl (xs.map encJ)), (5, .int .i64 x.1)]) (fun x => .arr 1 x.2 ((l ++ numsL (xs.take x.1)).map u8) :: ([] : Own)) (fun x => xs.length - x.1) ((0, v)) ?_ ?_ ?_); exact (Nat.zero_le _); (simp [Sub, get, keepL, numsL_nil] <;> fail); (try simp only [numsL_nil, List.append_nil, Nat.add_zero, List.take_zero, Nat.mul_zero, List.cons_append, List.nil_append]); (repeat (with_reducible first | refine Pull.nil ?_ | refine Pull.cons ?_ | refine Out.here ?_ | refine Out.next ?_)); intro ⟨k, y⟩ hk; (try simp only [numsL_nil, List.append_nil, Nat.add_zero, List.take_zero, Nat.mul_zero, List.cons_append, List.nil_append]); simp only at hk; have hkl := numsL_len (xs.take k); rw [List.length_take] at hkl)
    | with_reducible first | refine DW.sq ?_ | refine DW.block ?_ | refine DW.skip ?_ | refine DW.exit ?_
    | ((with_reducible refine DW.ret ?_))
    | with_reducible first | refine then_n ?_ | refine then_x ?_ | refine then_r ?_ | refine blk_n ?_ | refine blk_r ?_ | refine blk_x ?_
    | with_reducible refine blk_y (by decide) ?_
    | with_reducible first | refine Next.go ?_ | refine SeqD.nil ?_ | refine DV.nil ?_
    | ((with_reducible refine And.intro ?_ ?_); (first | exact sv | (simp [u8, V.one, V.n]; omega) | (simp [u8, V.one, V.n] <;> fail) | (simp only [List.length_append, leK_len, numsL_len]; omega) | (simp only [List.length_append, leK_len, numsL_len, textBy_len, List.length_map, List.length_cons, List.length_nil] <;> omega)))
    | with_reducible first | refine DW.ct_ ?_ | refine DW.cf_ ?_
    | (refine DW.cond (by rfl) (fun hb => ?_) (fun hb => ?_) <;> (try simp only [hbs, Int.reduceBEq, Int.reduceBNe, Int.reduceEq] at hb; try (exfalso; omega)))
    | ((first | ((with_reducible refine DW.regK [0, 1, 4, 5, 9] (by kernel_rfl) ?_); refine SeqD.go (own := []) _ _ ?_) | ((first | refine Both.imp (fun hb => ?_) (fun hb => ?_) | (with_reducible first | refine FVg_cases (fun hb => ?_) (fun hb => ?_) | refine FDg_cases (fun hb => ?_) (fun hb => ?_)) <;> rw [hb]) <;> (try simp only [hbs, Int.reduceBEq, Int.reduceBNe, Int.reduceEq] at hb; try (exfalso; omega))) | (with_reducible refine ret_r rfl ?_) | ((refine ret_c [.tmp 4] (by rfl) ?_); (try (refine RetK_cell _ _ _ _ _ _ rfl ?_; (repeat (with_reducible first | refine OnB.here ?_ | refine OnB.mid ?_ | refine OnB.next ?_))))) | ((refine RetK_cell _ _ _ _ _ _ rfl ?_); (repeat (with_reducible first | refine OnB.here ?_ | refine OnB.mid ?_ | refine OnB.next ?_))) | (with_reducible refine ret_n rfl ?_) | (first | (apply DOp.callp_ rfl rfl (h := eight_dc _ _ _ _ _); (repeat (first | exact Les.nil | refine Les.cons le.rfl_ ?_ | refine Les.cons (le.gs rfl) ?_ | refine Les.cons (le.gs List.map_nil.symm) ?_ | refine Les.cons (le.agg ?_) ?_)); (repeat (with_reducible first | exact Pulled.nil | apply Pulled.cons | exact Took.here | apply Took.next)); refine And.intro ?_ ?_; (first | exact sv | (simp [u8, V.one, V.n]; omega) | (simp [u8, V.one, V.n] <;> fail) | (simp only [List.length_append, leK_len, numsL_len]; omega) | (simp only [List.length_append, leK_len, numsL_len, textBy_len, List.length_map, List.length_cons, List.length_nil] <;> omega)); rintro d H1 ⟨v1, rfl, rfl⟩) | (refine DOp.load_ rfl rfl ?_; (repeat (with_reducible first | refine OnB.here ?_ | refine OnB.mid ?_ | refine OnB.next ?_))) | (refine DOp.loada_ rfl rfl ?_; (repeat (with_reducible first | refine OnA.here ?_ | refine OnA.next ?_))))) <;> (simp (maxSteps := 1000000) (disch := omega) only [push_cast, ↓reduceIte, reduceCtorEq, Nat.reduceAdd, Nat.reduceMul, Nat.reduceLT, Nat.reduceLeDiff, Nat.reduceEqDiff, Nat.reduceSub, Int.reduceToNat, Int.reduceLT, Int.reduceLE, Int.reduceAdd, Int.reduceSub, Int.reduceMul, Int.reduceNeg, Nat.reduceBEq, Int.reduceBEq, Int.reduceBNe, Nat.reduceBNe, Int.reduceEq, encJ]))
    | (with_reducible first | refine SeqD.opF [] rfl ?_ | refine SeqD.opgF [] rfl rfl ?_)
    | with_reducible intro b)
  all_goals first
  | (refine ⟨(k + 1, v1), ?_, ?_, ?_, ?_⟩; ((try simp only); omega); ((try simp only); omega); (simp [Sub, get, Nat.mul_add, Nat.add_assoc] <;> fail); (simp only [numsL_next xs k (by omega), ← List.append_assoc]); (repeat (with_reducible first | exact SubP.refl | exact SubP.nil | refine SubP.pick ?_ | refine Out.here ?_ | refine Out.next ?_ | refine SubP.drop ?_)); done)
  | (have hkx : k = xs.length := by omega
     subst hkx
     rw [List.take_length]
     refine ⟨_, _, le.rfl_, ⟨y, rfl, rfl⟩, ?_⟩; (repeat (with_reducible first | exact SubP.refl | exact SubP.nil | refine SubP.pick ?_ | refine Out.here ?_ | refine Out.next ?_ | refine SubP.drop ?_)); done)
theorem num1_dc (v : Value) (n : Nat) (l : List UInt8) (x : Int) (F : Own) : (n = l.length ∧ l.length ≤ 999999999000) → DC Tryz.prog 44 [.ar v n, .sl [.int .i64 x]] ([.arr 1 v ((l).map u8)] ++ F) fun d G => ∃ v1, d = .ar v1 (n + 8) ∧ G = .arr 1 v1 ((l ++ numsL [x]).map u8) :: F := fun h => num_dc v n l [x] F ⟨h.1, h.2, by simp⟩
theorem num2_dc (v : Value) (n : Nat) (l : List UInt8) (x y : Int) (F : Own) : (n = l.length ∧ l.length ≤ 999999999000) → DC Tryz.prog 44 [.ar v n, .sl [.int .i64 x, .int .i64 y]] ([.arr 1 v ((l).map u8)] ++ F) fun d G => ∃ v1, d = .ar v1 (n + 16) ∧ G = .arr 1 v1 ((l ++ numsL [x, y]).map u8) :: F := fun h => num_dc v n l [x, y] F ⟨h.1, h.2, by simp⟩
theorem num3_dc (v : Value) (n : Nat) (l : List UInt8) (x y z : Int) (F : Own) : (n = l.length ∧ l.length ≤ 999999999000) → DC Tryz.prog 44 [.ar v n, .sl [.int .i64 x, .int .i64 y, .int .i64 z]] ([.arr 1 v ((l).map u8)] ++ F) fun d G => ∃ v1, d = .ar v1 (n + 24) ∧ G = .arr 1 v1 ((l ++ numsL [x, y, z]).map u8) :: F := fun h => num_dc v n l [x, y, z] F ⟨h.1, h.2, by simp⟩
theorem num6_dc (v : Value) (n : Nat) (l : List UInt8) (x y z a b c : Int) (F : Own) : (n = l.length ∧ l.length ≤ 999999999000) → DC Tryz.prog 44 [.ar v n, .sl [.int .i64 x, .int .i64 y, .int .i64 z, .int .i64 a, .int .i64 b, .int .i64 c]] ([.arr 1 v ((l).map u8)] ++ F) fun d G => ∃ v1, d = .ar v1 (n + 48) ∧ G = .arr 1 v1 ((l ++ numsL [x, y, z, a, b, c]).map u8) :: F := fun h => num_dc v n l [x, y, z, a, b, c] F ⟨h.1, h.2, by simp⟩
theorem ptext_dc (v : Value) (n : Nat) (l t : List UInt8) (F : Own) : (n = l.length ∧ l.length ≤ 999999999000 ∧ t.length ≤ 1000000000000) → DC Tryz.prog 48 [.ar v n, .str t] ([.arr 1 v ((l).map u8)] ++ F) fun d G => ∃ v1, d = .ar v1 (n + 8 + t.length) ∧ G = .arr 1 v1 ((l ++ textBy t).map u8) :: F := by
  intro hA
  obtain ⟨hn, hl, ht⟩ := hA
  refine DC.bodyS (n_ := 12) (show Tryz.prog.funcs[48]? = some Tryz.f48 by kernel_rfl) rfl rfl (by rfl) ?_
  simp only [env0, List.cons_append, List.nil_append]
  repeat' (first
    | with_reducible first | refine DW.sq ?_ | refine DW.block ?_ | refine DW.skip ?_ | refine DW.exit ?_
    | ((with_reducible refine DW.ret ?_))
    | with_reducible first | refine then_n ?_ | refine then_x ?_ | refine then_r ?_ | refine blk_n ?_ | refine blk_r ?_ | refine blk_x ?_
    | with_reducible refine blk_y (by decide) ?_
    | with_reducible first | refine Next.go ?_ | refine SeqD.nil ?_ | refine DV.nil ?_
    | ((with_reducible refine And.intro ?_ ?_); (first | exact sv | (simp [u8, V.one, V.n]; omega) | (simp [u8, V.one, V.n] <;> fail) | (simp only [List.length_append, leK_len, numsL_len]; omega) | (simp only [List.length_append, leK_len, numsL_len, textBy_len, List.length_map, List.length_cons, List.length_nil] <;> omega)))
    | with_reducible first | refine DW.ct_ ?_ | refine DW.cf_ ?_
    | (refine DW.cond (by rfl) (fun hb => ?_) (fun hb => ?_) <;> (try simp only [hbs, Int.reduceBEq, Int.reduceBNe, Int.reduceEq] at hb; try (exfalso; omega)))
    | ((first | ((with_reducible refine DW.regK [0, 1, 4] (by kernel_rfl) ?_); refine SeqD.go (own := []) _ _ ?_) | ((first | refine Both.imp (fun hb => ?_) (fun hb => ?_) | (with_reducible first | refine FVg_cases (fun hb => ?_) (fun hb => ?_) | refine FDg_cases (fun hb => ?_) (fun hb => ?_)) <;> rw [hb]) <;> (try simp only [hbs, Int.reduceBEq, Int.reduceBNe, Int.reduceEq] at hb; try (exfalso; omega))) | (with_reducible refine ret_r rfl ?_) | ((refine ret_c [.tmp 4] (by rfl) ?_); (try (refine RetK_cell _ _ _ _ _ _ rfl ?_; (repeat (with_reducible first | refine OnB.here ?_ | refine OnB.mid ?_ | refine OnB.next ?_))))) | ((refine RetK_cell _ _ _ _ _ _ rfl ?_); (repeat (with_reducible first | refine OnB.here ?_ | refine OnB.mid ?_ | refine OnB.next ?_))) | (with_reducible refine ret_n rfl ?_) | (first | (apply DOp.callp_ rfl rfl (h := num1_dc _ _ _ _ _); (repeat (first | exact Les.nil | refine Les.cons le.rfl_ ?_ | refine Les.cons (le.gs rfl) ?_ | refine Les.cons (le.gs List.map_nil.symm) ?_ | refine Les.cons (le.agg ?_) ?_)); (repeat (with_reducible first | exact Pulled.nil | apply Pulled.cons | exact Took.here | apply Took.next)); refine And.intro ?_ ?_; (first | exact sv | (simp [u8, V.one, V.n]; omega) | (simp [u8, V.one, V.n] <;> fail) | (simp only [List.length_append, leK_len, numsL_len]; omega) | (simp only [List.length_append, leK_len, numsL_len, textBy_len, List.length_map, List.length_cons, List.length_nil] <;> omega)); rintro d H1 ⟨v1, rfl, rfl⟩) | (refine DOp.list_ rfl ?_) | (refine DOp.appa_ rfl rfl rfl ?_; (repeat (with_reducible first | refine OnA.here ?_ | refine OnA.next ?_))) | (refine DOp.appz_ rfl rfl rfl ?_; (repeat (with_reducible first | refine OnT.here ?_ | refine OnT.next ?_)); (fail_if_success (with_reducible refine OnT_id ?_))) | (refine DOp.append0_ rfl rfl rfl ?_))) <;> (simp (maxSteps := 1000000) (disch := omega) only [push_cast, ↓reduceIte, reduceCtorEq, Nat.reduceAdd, Nat.reduceMul, Nat.reduceLT, Nat.reduceLeDiff, Nat.reduceEqDiff, Nat.reduceSub, Int.reduceToNat, Int.reduceLT, Int.reduceLE, Int.reduceAdd, Int.reduceSub, Int.reduceMul, Int.reduceNeg, Nat.reduceBEq, Int.reduceBEq, Int.reduceBNe, Nat.reduceBNe, Int.reduceEq, cells_u8]))
    | (with_reducible first | refine SeqD.opF [] rfl ?_ | refine SeqD.opgF [] rfl rfl ?_)
    | with_reducible intro b)
  all_goals first
  | (refine ⟨_, _, le.rfl_, ⟨_, rfl, rfl⟩, ?_⟩; (simp only [textBy, ← List.append_assoc, List.map_append]); (repeat (with_reducible first | exact SubP.refl | exact SubP.nil | refine SubP.pick ?_ | refine Out.here ?_ | refine Out.next ?_ | refine SubP.drop ?_)); done)
theorem flatBy_nil {α : Type} (f : α → Str) : flatBy f [] = [] := rfl
theorem pdots_dc (v : Value) (n : Nat) (l : List UInt8) (ds : List TDot) (F : Own) : (n = l.length ∧ l.length ≤ 1000000000 ∧ ds.length ≤ 1000000000) → DC Tryz.prog 46 [.ar v n, .sl (ds.map encDot)] ([.arr 1 v ((l).map u8)] ++ F) fun d G => ∃ v1, d = .ar v1 (n + 8 + 24 * ds.length) ∧ G = .arr 1 v1 ((l ++ dotsBy ds).map u8) :: F := by
  intro hA
  obtain ⟨hn, hl, hx⟩ := hA
  refine DC.bodyS (n_ := 36) (show Tryz.prog.funcs[46]? = some Tryz.f46 by kernel_rfl) rfl rfl (by rfl) ?_
  simp only [env0, List.append_nil, Nat.add_zero, List.take_zero, Nat.mul_zero, flatBy_nil, List.cons_append, List.nil_append]
  repeat' (first
    | ((with_reducible refine DW.loopB 0 (X := Nat × Value) (fun x => x.1 ≤ ds.length) (fun x => [(0, .ar x.2 (n + 8 + 24 * x.1)), (1, .sl (ds.map encDot)), (5, .int .i64 x.1)]) (fun x => .arr 1 x.2 ((l ++ numsL [(ds.length : Int)] ++ flatBy dotBy (ds.take x.1)).map u8) :: ([] : Own)) (fun x => ds.length - x.1) ((0, v1)) ?_ ?_ ?_); exact (Nat.zero_le _); (simp [Sub, get, keepL, flatBy_nil] <;> fail); (try simp only [List.append_nil, Nat.add_zero, List.take_zero, Nat.mul_zero, flatBy_nil, List.cons_append, List.nil_append]); (repeat (with_reducible first | refine Pull.nil ?_ | refine Pull.cons ?_ | refine Out.here ?_ | refine Out.next ?_)); intro ⟨k, y⟩ hk; (try simp only [List.append_nil, Nat.add_zero, List.take_zero, Nat.mul_zero, flatBy_nil, List.cons_append, List.nil_append]); simp only at hk; have hkl := flatBy_len (f := dotBy) (n := 24) (l := ds.take k) (fun x _ => dotBy_len x); rw [List.length_take] at hkl)
    | with_reducible first | refine DW.sq ?_ | refine DW.block ?_ | refine DW.skip ?_ | refine DW.exit ?_
    | ((with_reducible refine DW.ret ?_))
    | with_reducible first | refine then_n ?_ | refine then_x ?_ | refine then_r ?_ | refine blk_n ?_ | refine blk_r ?_ | refine blk_x ?_
    | with_reducible refine blk_y (by decide) ?_
    | with_reducible first | refine Next.go ?_ | refine SeqD.nil ?_ | refine DV.nil ?_
    | ((with_reducible refine And.intro ?_ ?_); (first | exact sv | (simp [u8, V.one, V.n]; omega) | (simp [u8, V.one, V.n] <;> fail) | (simp only [List.length_append, leK_len, numsL_len]; omega) | (simp only [List.length_append, leK_len, numsL_len, textBy_len, List.length_map, List.length_cons, List.length_nil] <;> omega)))
    | with_reducible first | refine DW.ct_ ?_ | refine DW.cf_ ?_
    | (refine DW.cond (by rfl) (fun hb => ?_) (fun hb => ?_) <;> (try simp only [hbs, Int.reduceBEq, Int.reduceBNe, Int.reduceEq] at hb; try (exfalso; omega)))
    | ((first | ((with_reducible refine DW.regK [0, 1, 4, 5, 14] (by kernel_rfl) ?_); refine SeqD.go (own := []) _ _ ?_) | ((with_reducible refine DW.drawK (id := 5) [0, 1, 4, 5, 14] [17] [5, 10, 15] (by kernel_rfl) (by kernel_rfl) (by kernel_rfl) ?_); refine DV.go [5, 10, 15] [17] _ _ _ ?_) | ((first | refine Both.imp (fun hb => ?_) (fun hb => ?_) | (with_reducible first | refine FVg_cases (fun hb => ?_) (fun hb => ?_) | refine FDg_cases (fun hb => ?_) (fun hb => ?_)) <;> rw [hb]) <;> (try simp only [hbs, Int.reduceBEq, Int.reduceBNe, Int.reduceEq] at hb; try (exfalso; omega))) | (with_reducible refine ret_r rfl ?_) | ((refine ret_c [.tmp 4] (by rfl) ?_); (try (refine RetK_cell _ _ _ _ _ _ rfl ?_; (repeat (with_reducible first | refine OnB.here ?_ | refine OnB.mid ?_ | refine OnB.next ?_))))) | ((refine RetK_cell _ _ _ _ _ _ rfl ?_); (repeat (with_reducible first | refine OnB.here ?_ | refine OnB.mid ?_ | refine OnB.next ?_))) | (with_reducible refine ret_n rfl ?_) | ((with_reducible first | refine DV.mk rfl ?_ | refine DV.mkg rfl rfl ?_); (first | (refine DVop.loada_ rfl rfl rfl rfl ?_; (repeat (with_reducible first | refine OnA.here ?_ | refine OnA.next ?_))) | (refine DVop.load_ rfl rfl rfl rfl ?_; (repeat (with_reducible first | refine OnB.here ?_ | refine OnB.mid ?_ | refine OnB.next ?_))) | (refine DVop.f_ rfl ?_))) | (first | (apply DOp.callp_ rfl rfl (h := num3_dc _ _ _ _ _ _ _); (repeat (first | exact Les.nil | refine Les.cons le.rfl_ ?_ | refine Les.cons (le.gs rfl) ?_ | refine Les.cons (le.gs List.map_nil.symm) ?_ | refine Les.cons (le.agg ?_) ?_)); (repeat (with_reducible first | exact Pulled.nil | apply Pulled.cons | exact Took.here | apply Took.next)); refine And.intro ?_ ?_; (first | exact sv | (simp [u8, V.one, V.n]; omega) | (simp [u8, V.one, V.n] <;> fail) | (simp only [List.length_append, leK_len, numsL_len]; omega) | (simp only [List.length_append, leK_len, numsL_len, textBy_len, List.length_map, List.length_cons, List.length_nil] <;> omega)); rintro d H1 ⟨v1, rfl, rfl⟩) | (apply DOp.callp_ rfl rfl (h := num1_dc _ _ _ _ _); (repeat (first | exact Les.nil | refine Les.cons le.rfl_ ?_ | refine Les.cons (le.gs rfl) ?_ | refine Les.cons (le.gs List.map_nil.symm) ?_ | refine Les.cons (le.agg ?_) ?_)); (repeat (with_reducible first | exact Pulled.nil | apply Pulled.cons | exact Took.here | apply Took.next)); refine And.intro ?_ ?_; (first | exact sv | (simp [u8, V.one, V.n]; omega) | (simp [u8, V.one, V.n] <;> fail) | (simp only [List.length_append, leK_len, numsL_len]; omega) | (simp only [List.length_append, leK_len, numsL_len, textBy_len, List.length_map, List.length_cons, List.length_nil] <;> omega)); rintro d H1 ⟨v1, rfl, rfl⟩) | (refine DOp.list_ rfl ?_) | (refine DOp.load_ rfl rfl ?_; (repeat (with_reducible first | refine OnB.here ?_ | refine OnB.mid ?_ | refine OnB.next ?_))) | (refine DOp.loada_ rfl rfl ?_; (repeat (with_reducible first | refine OnA.here ?_ | refine OnA.next ?_))))) <;> (simp (maxSteps := 1000000) (disch := omega) only [push_cast, ↓reduceIte, reduceCtorEq, Nat.reduceAdd, Nat.reduceMul, Nat.reduceLT, Nat.reduceLeDiff, Nat.reduceEqDiff, Nat.reduceSub, Int.reduceToNat, Int.reduceLT, Int.reduceLE, Int.reduceAdd, Int.reduceSub, Int.reduceMul, Int.reduceNeg, Nat.reduceBEq, Int.reduceBEq, Int.reduceBNe, Nat.reduceBNe, Int.reduceEq, encDot]))
    | (with_reducible first | refine SeqD.opF [] rfl ?_ | refine SeqD.opgF [] rfl rfl ?_)
    | ((with_reducible first | refine DV.mk rfl ?_ | refine DV.mkg rfl rfl ?_); (refine DVop.mv_ rfl ?_))
    | with_reducible intro b)
  all_goals first
  | (refine ⟨(k + 1, v1), ?_, ?_, ?_, ?_⟩; ((try simp only); omega); ((try simp only); omega); (simp [Sub, get, Nat.mul_add, Nat.add_assoc] <;> fail); (rw [flatBy_next dotBy (show k < ds.length by omega)]; simp only [dotBy, ← List.append_assoc]); (repeat (with_reducible first | exact SubP.refl | exact SubP.nil | refine SubP.pick ?_ | refine Out.here ?_ | refine Out.next ?_ | refine SubP.drop ?_)); done)
  | (have hkx : k = ds.length := by omega
     subst hkx
     rw [List.take_length]
     refine ⟨_, _, le.rfl_, ⟨y, rfl, rfl⟩, ?_⟩; (simp only [dotsBy, ← List.append_assoc]); (repeat (with_reducible first | exact SubP.refl | exact SubP.nil | refine SubP.pick ?_ | refine Out.here ?_ | refine Out.next ?_ | refine SubP.drop ?_)); done)
end Go.Proofs.YtfamfamgopchnaaGreatDoor
