/- Numbers and texts are laid down. -/
import Derived.Test.YtfamfamgopchnaaGreatDoorDg1
import Derived.KernelRfl
namespace Go.Proofs.YtfamfamgopchnaaGreatDoor
open Go.RowKit
set_option linter.unusedSimpArgs false
set_option linter.unusedVariables false
set_option linter.unusedSectionVars false
set_option maxHeartbeats 4000000
set_option maxRecDepth 100000
attribute [local irreducible] DW SeqD DV DOp DC DVX


/-- The lowest byte of a number; the number without it. -/
def byteI (x : Int) : UInt8 := UInt8.ofNat (x % 256).toNat
def shK : Nat → Int → Int
  | 0, x => x
  | k + 1, x => (shK k x).fdiv (2 ^ min 8 IntKind.u64.bits)
/-- A number's first k bytes, the lowest one first. -/
def leK (k : Nat) (x : Int) : List UInt8 := (List.range k).map fun i => byteI (shK i x)
theorem leK_0 (x : Int) : leK 0 x = [] := rfl
theorem leK_more (k : Nat) (x : Int) : leK (k + 1) x = leK k x ++ [byteI (shK k x)] := by simp [leK, List.range_succ]
theorem leK_len (k : Nat) (x : Int) : (leK k x).length = k := by simp [leK]
theorem u8_byteI (x : Int) : u8 (byteI x) = .int .u8 (IntKind.u8.wrap x) := by
  unfold u8 byteI
  congr 1
  simp [IntKind.wrap, IntKind.bits, IntKind.signed]
  omega
/-- Numbers, one behind another. -/
def numsL (l : List Int) : List UInt8 := (l.map fun x => leK 8 (IntKind.u64.wrap x)).flatten
theorem numsL_nil : numsL [] = [] := rfl
theorem numsL_snoc (l : List Int) (x : Int) : numsL (l ++ [x]) = numsL l ++ leK 8 (IntKind.u64.wrap x) := by simp [numsL]
theorem numsL_next (l : List Int) (k : Nat) (h : k < l.length) : numsL (l.take (k + 1)) = numsL (l.take k) ++ leK 8 (IntKind.u64.wrap (l.getD k default)) := by
  rw [List.take_add_one, ← numsL_snoc]; simp [List.getD_eq_getElem?_getD, h]
theorem numsL_len (l : List Int) : (numsL l).length = 8 * l.length := by
  induction l with
  | nil => rfl
  | cons x l ih => simp only [numsL, List.map_cons, List.flatten_cons, List.length_append, leK_len, List.length_cons] at ih ⊢; omega
theorem u64_nat (x : Int) (h : 0 ≤ x ∧ x ≤ 9223372036854775807) : IntKind.u64.wrap x = x := wrap_u64 _ h.1 (by omega)
theorem numsL_1 (x : Int) (h : 0 ≤ x ∧ x ≤ 9223372036854775807) : numsL [x] = leK 8 x := by simp [numsL, u64_nat x h]
theorem numsL_3 (x y z : Int) (h : (0 ≤ x ∧ x ≤ 9223372036854775807) ∧ (0 ≤ y ∧ y ≤ 9223372036854775807) ∧ (0 ≤ z ∧ z ≤ 9223372036854775807)) : numsL [x, y, z] = leK 8 x ++ (leK 8 y ++ leK 8 z) := by simp [numsL, u64_nat x h.1, u64_nat y h.2.1, u64_nat z h.2.2]
def encJ (x : Int) : V := .int .i64 x
theorem number_dc (v : Value) (l : List UInt8) (n : Int) (F : Own) : (l.length ≤ 1000000000000) → DC Tryz.prog 99 [.gs v (l.map u8), .int .u64 n] ([.tail 1 v] ++ F) fun d G => ∃ v1, d = .gs v1 ((l ++ leK 8 n).map u8) ∧ G = .tail 1 v1 :: F := by
  intro hA
  have hl := hA
  refine DC.bodyS (n_ := 16) (show Tryz.prog.funcs[99]? = some Tryz.f99 by kernel_rfl) rfl rfl (by rfl) ?_
  simp only [env0, List.cons_append, List.nil_append]
  repeat' (first
    | ((with_reducible refine DW.loopB 0 (X := Nat × Value) (fun x => x.1 ≤ 8) (fun x => [(0, .gs x.2 ((l ++ leK x.1 n).map u8)), (1, .int .u64 (shK x.1 n)), (5, .int .i64 x.1)]) (fun x => .tail 1 x.2 :: ([] : Own)) (fun x => 8 - x.1) ((0, v)) ?_ ?_ ?_); exact (Nat.zero_le _); (simp [Sub, get, keepL, leK_0, shK] <;> fail); (try simp only [List.cons_append, List.nil_append]); (repeat (with_reducible first | refine Pull.nil ?_ | refine Pull.cons ?_ | refine Out.here ?_ | refine Out.next ?_)); intro ⟨k, y⟩ hk; (try simp only [List.cons_append, List.nil_append]); have hkl := leK_len k n; simp only at hk)
    | with_reducible first | refine DW.sq ?_ | refine DW.block ?_ | refine DW.skip ?_ | refine DW.exit ?_
    | ((with_reducible refine DW.ret ?_))
    | with_reducible first | refine then_n ?_ | refine then_x ?_ | refine then_r ?_ | refine blk_n ?_ | refine blk_r ?_ | refine blk_x ?_
    | with_reducible refine blk_y (by decide) ?_
    | with_reducible first | refine Next.go ?_ | refine SeqD.nil ?_ | refine DV.nil ?_
    | ((with_reducible refine And.intro ?_ ?_); (first | exact sv | (simp [u8, V.one]; omega) | (simp [u8, V.one] <;> fail)))
    | with_reducible first | refine DW.ct_ ?_ | refine DW.cf_ ?_
    | (refine DW.cond (by rfl) (fun hb => ?_) (fun hb => ?_) <;> (try simp only [hbs, Int.reduceBEq, Int.reduceBNe, Int.reduceEq] at hb; try (exfalso; omega)))
    | ((first | ((with_reducible refine DW.regK [0, 1, 4, 5, 6] (by kernel_rfl) ?_); refine SeqD.go (own := []) _ _ ?_) | ((first | refine Both.imp (fun hb => ?_) (fun hb => ?_) | (with_reducible first | refine FVg_cases (fun hb => ?_) (fun hb => ?_) | refine FDg_cases (fun hb => ?_) (fun hb => ?_)) <;> rw [hb]) <;> (try simp only [hbs, Int.reduceBEq, Int.reduceBNe, Int.reduceEq] at hb; try (exfalso; omega))) | (with_reducible refine ret_r rfl ?_) | ((refine ret_c [.tmp 4] (by rfl) ?_); (try (refine RetK_cell _ _ _ _ _ _ rfl ?_; (repeat (with_reducible first | refine OnB.here ?_ | refine OnB.mid ?_ | refine OnB.next ?_))))) | ((refine RetK_cell _ _ _ _ _ _ rfl ?_); (repeat (with_reducible first | refine OnB.here ?_ | refine OnB.mid ?_ | refine OnB.next ?_))) | (with_reducible refine ret_n rfl ?_) | (first | (refine DOp.list_ rfl ?_) | (refine DOp.appa_ rfl rfl rfl ?_; (repeat (with_reducible first | refine OnA.here ?_ | refine OnA.next ?_))) | (refine DOp.appz_ rfl rfl rfl ?_; (repeat (with_reducible first | refine OnT.here ?_ | refine OnT.next ?_)); (fail_if_success (with_reducible refine OnT_id ?_))) | (refine DOp.append0_ rfl rfl rfl ?_))) <;> (simp (maxSteps := 1000000) (disch := omega) only [push_cast, ↓reduceIte, reduceCtorEq, Nat.reduceAdd, Nat.reduceMul, Nat.reduceLT, Nat.reduceLeDiff, Nat.reduceEqDiff, Nat.reduceSub, Int.reduceToNat, Int.reduceLT, Int.reduceLE, Int.reduceAdd, Int.reduceSub, Int.reduceMul, Int.reduceNeg, Nat.reduceBEq, Int.reduceBEq, Int.reduceBNe, Nat.reduceBNe, Int.reduceEq, u8_byteI]))
    | (with_reducible first | refine SeqD.opF [] rfl ?_ | refine SeqD.opgF [] rfl rfl ?_)
    | with_reducible intro b)
  all_goals first
  | (refine ⟨(k + 1, b), ?_, ?_, ?_, ?_⟩; (((try simp only); omega)); (((try simp only); omega)); (simp [Sub, get, leK_more, shK, u8_byteI] <;> (fail)); (try dsimp only); (repeat (with_reducible first | exact SubP.refl | exact SubP.nil | refine SubP.pick ?_ | refine Out.here ?_ | refine Out.next ?_ | refine SubP.drop ?_)); done)
  | (have hk : k = 8 := by omega
     subst hk
     refine ⟨_, _, le.rfl_, ⟨_, rfl, rfl⟩, ?_⟩; (repeat (with_reducible first | exact SubP.refl | exact SubP.nil | refine SubP.pick ?_ | refine Out.here ?_ | refine Out.next ?_ | refine SubP.drop ?_)); done)
theorem numbers_dc (v : Value) (l : List UInt8) (xs : List Int) (F : Own) : (l.length ≤ 999999999000 ∧ xs.length ≤ 100) → DC Tryz.prog 98 [.gs v (l.map u8), .sl (xs.map encJ)] ([.tail 1 v] ++ F) fun d G => ∃ v1, d = .gs v1 ((l ++ numsL xs).map u8) ∧ G = .tail 1 v1 :: F := by
  intro hA
  obtain ⟨hl, hx⟩ := hA
  refine DC.bodyS (n_ := 19) (show Tryz.prog.funcs[98]? = some Tryz.f98 by kernel_rfl) rfl rfl (by rfl) ?_
  simp only [env0, List.cons_append, List.nil_append]
  repeat' (first
    | ((with_reducible refine DW.loopB 0 (X := Nat × Value) (fun x => x.1 ≤ xs.length) (fun x => [(0, .gs x.2 ((l ++ numsL (xs.take x.1)).map u8)), (7, .sl (xs.map encJ)), (8, .int .i64 xs.length), (9, .int .i64 x.1)]) (fun x => .tail 1 x.2 :: ([] : Own)) (fun x => xs.length - x.1) ((0, v)) ?_ ?_ ?_); exact (Nat.zero_le _); (simp [Sub, get, keepL, numsL_nil] <;> fail); (try simp only [List.cons_append, List.nil_append]); (repeat (with_reducible first | refine Pull.nil ?_ | refine Pull.cons ?_ | refine Out.here ?_ | refine Out.next ?_)); intro ⟨k, y⟩ hk; (try simp only [List.cons_append, List.nil_append]); have hkl := numsL_len (xs.take k); rw [List.length_take] at hkl; simp only at hk)
    | with_reducible first | refine DW.sq ?_ | refine DW.block ?_ | refine DW.skip ?_ | refine DW.exit ?_
    | ((with_reducible refine DW.ret ?_))
    | with_reducible first | refine then_n ?_ | refine then_x ?_ | refine then_r ?_ | refine blk_n ?_ | refine blk_r ?_ | refine blk_x ?_
    | with_reducible refine blk_y (by decide) ?_
    | with_reducible first | refine Next.go ?_ | refine SeqD.nil ?_ | refine DV.nil ?_
    | ((with_reducible refine And.intro ?_ ?_); (first | exact sv | (simp [u8, V.one]; omega) | (simp [u8, V.one] <;> fail)))
    | with_reducible first | refine DW.ct_ ?_ | refine DW.cf_ ?_
    | (refine DW.cond (by rfl) (fun hb => ?_) (fun hb => ?_) <;> (try simp only [hbs, Int.reduceBEq, Int.reduceBNe, Int.reduceEq] at hb; try (exfalso; omega)))
    | ((first | ((with_reducible refine DW.regK [0, 1, 4, 6, 7, 8, 9, 10] (by kernel_rfl) ?_); refine SeqD.go (own := []) _ _ ?_) | ((first | refine Both.imp (fun hb => ?_) (fun hb => ?_) | (with_reducible first | refine FVg_cases (fun hb => ?_) (fun hb => ?_) | refine FDg_cases (fun hb => ?_) (fun hb => ?_)) <;> rw [hb]) <;> (try simp only [hbs, Int.reduceBEq, Int.reduceBNe, Int.reduceEq] at hb; try (exfalso; omega))) | (with_reducible refine ret_r rfl ?_) | ((refine ret_c [.tmp 4] (by rfl) ?_); (try (refine RetK_cell _ _ _ _ _ _ rfl ?_; (repeat (with_reducible first | refine OnB.here ?_ | refine OnB.mid ?_ | refine OnB.next ?_))))) | ((refine RetK_cell _ _ _ _ _ _ rfl ?_); (repeat (with_reducible first | refine OnB.here ?_ | refine OnB.mid ?_ | refine OnB.next ?_))) | (with_reducible refine ret_n rfl ?_) | (first | (apply DOp.callp_ rfl rfl (h := number_dc _ _ _ _); (repeat (first | exact Les.nil | refine Les.cons le.rfl_ ?_ | refine Les.cons (le.gs rfl) ?_ | refine Les.cons (le.gs List.map_nil.symm) ?_ | refine Les.cons (le.agg ?_) ?_)); (repeat (with_reducible first | exact Pulled.nil | apply Pulled.cons | exact Took.here | apply Took.next)); refine And.intro ?_ ?_; (first | exact sv | (simp [u8, V.one]; omega) | (simp [u8, V.one] <;> fail)); rintro d H1 ⟨v1, rfl, rfl⟩) | (refine DOp.load_ rfl rfl ?_; (repeat (with_reducible first | refine OnB.here ?_ | refine OnB.mid ?_ | refine OnB.next ?_))) | (refine DOp.loada_ rfl rfl ?_; (repeat (with_reducible first | refine OnA.here ?_ | refine OnA.next ?_))))) <;> (simp (maxSteps := 1000000) (disch := omega) only [push_cast, ↓reduceIte, reduceCtorEq, Nat.reduceAdd, Nat.reduceMul, Nat.reduceLT, Nat.reduceLeDiff, Nat.reduceEqDiff, Nat.reduceSub, Int.reduceToNat, Int.reduceLT, Int.reduceLE, Int.reduceAdd, Int.reduceSub, Int.reduceMul, Int.reduceNeg, Nat.reduceBEq, Int.reduceBEq, Int.reduceBNe, Nat.reduceBNe, Int.reduceEq, encJ]))
    | (with_reducible first | refine SeqD.opF [] rfl ?_ | refine SeqD.opgF [] rfl rfl ?_)
    | with_reducible intro b)
  all_goals first
  | (refine ⟨(k + 1, v1), ?_, ?_, ?_, ?_⟩; (((try simp only); omega)); (((try simp only); omega)); (simp [Sub, get, numsL_next xs k (by omega)] <;> (fail)); (try dsimp only); (repeat (with_reducible first | exact SubP.refl | exact SubP.nil | refine SubP.pick ?_ | refine Out.here ?_ | refine Out.next ?_ | refine SubP.drop ?_)); done)
  | (have hk : k = xs.length := by omega
     subst hk
     rw [List.take_length]
     refine ⟨_, _, le.rfl_, ⟨_, rfl, rfl⟩, ?_⟩; (repeat (with_reducible first | exact SubP.refl | exact SubP.nil | refine SubP.pick ?_ | refine Out.here ?_ | refine Out.next ?_ | refine SubP.drop ?_)); done)
theorem numbers1_dc (v : Value) (l : List UInt8) (x : Int) (F : Own) : (l.length ≤ 999999999000 ∧ 0 ≤ x ∧ x ≤ 9223372036854775807) → DC Tryz.prog 98 [.gs v (l.map u8), .sl [.int .i64 x]] ([.tail 1 v] ++ F) fun d G => ∃ v1, d = .gs v1 ((l ++ leK 8 x).map u8) ∧ G = .tail 1 v1 :: F := fun h => by
  have := numbers_dc v l [x] F ⟨h.1, by simp⟩
  rw [numsL_1 x h.2] at this
  exact this
theorem numbers3_dc (v : Value) (l : List UInt8) (x y z : Int) (F : Own) : (l.length ≤ 999999999000 ∧ (0 ≤ x ∧ x ≤ 9223372036854775807) ∧ (0 ≤ y ∧ y ≤ 9223372036854775807) ∧ (0 ≤ z ∧ z ≤ 9223372036854775807)) → DC Tryz.prog 98 [.gs v (l.map u8), .sl [.int .i64 x, .int .i64 y, .int .i64 z]] ([.tail 1 v] ++ F) fun d G => ∃ v1, d = .gs v1 ((l ++ (leK 8 x ++ (leK 8 y ++ leK 8 z))).map u8) ∧ G = .tail 1 v1 :: F := fun h => by
  have := numbers_dc v l [x, y, z] F ⟨h.1, by simp⟩
  rw [numsL_3 x y z h.2] at this
  exact this
theorem text_dc (v : Value) (l t : List UInt8) (F : Own) : (l.length ≤ 999999999000 ∧ t.length ≤ 1000000000000) → DC Tryz.prog 102 [.gs v (l.map u8), .str t] ([.tail 1 v] ++ F) fun d G => ∃ v1, d = .gs v1 ((l ++ (leK 8 t.length ++ t)).map u8) ∧ G = .tail 1 v1 :: F := by
  intro hA
  obtain ⟨hl, ht⟩ := hA
  refine DC.bodyS (n_ := 12) (show Tryz.prog.funcs[102]? = some Tryz.f102 by kernel_rfl) rfl rfl (by rfl) ?_
  simp only [env0, List.cons_append, List.nil_append]
  repeat' (first
    | with_reducible first | refine DW.sq ?_ | refine DW.block ?_ | refine DW.skip ?_ | refine DW.exit ?_
    | ((with_reducible refine DW.ret ?_))
    | with_reducible first | refine then_n ?_ | refine then_x ?_ | refine then_r ?_ | refine blk_n ?_ | refine blk_r ?_ | refine blk_x ?_
    | with_reducible refine blk_y (by decide) ?_
    | with_reducible first | refine Next.go ?_ | refine SeqD.nil ?_ | refine DV.nil ?_
    | ((with_reducible refine And.intro ?_ ?_); (first | exact sv | (simp [u8, V.one]; omega) | (simp [u8, V.one] <;> fail)))
    | with_reducible first | refine DW.ct_ ?_ | refine DW.cf_ ?_
    | (refine DW.cond (by rfl) (fun hb => ?_) (fun hb => ?_) <;> (try simp only [hbs, Int.reduceBEq, Int.reduceBNe, Int.reduceEq] at hb; try (exfalso; omega)))
    | ((first | ((with_reducible refine DW.regK [0, 1, 4] (by kernel_rfl) ?_); refine SeqD.go (own := []) _ _ ?_) | ((first | refine Both.imp (fun hb => ?_) (fun hb => ?_) | (with_reducible first | refine FVg_cases (fun hb => ?_) (fun hb => ?_) | refine FDg_cases (fun hb => ?_) (fun hb => ?_)) <;> rw [hb]) <;> (try simp only [hbs, Int.reduceBEq, Int.reduceBNe, Int.reduceEq] at hb; try (exfalso; omega))) | (with_reducible refine ret_r rfl ?_) | ((refine ret_c [.tmp 4] (by rfl) ?_); (try (refine RetK_cell _ _ _ _ _ _ rfl ?_; (repeat (with_reducible first | refine OnB.here ?_ | refine OnB.mid ?_ | refine OnB.next ?_))))) | ((refine RetK_cell _ _ _ _ _ _ rfl ?_); (repeat (with_reducible first | refine OnB.here ?_ | refine OnB.mid ?_ | refine OnB.next ?_))) | (with_reducible refine ret_n rfl ?_) | (first | (apply DOp.callp_ rfl rfl (h := numbers1_dc _ _ _ _); (repeat (first | exact Les.nil | refine Les.cons le.rfl_ ?_ | refine Les.cons (le.gs rfl) ?_ | refine Les.cons (le.gs List.map_nil.symm) ?_ | refine Les.cons (le.agg ?_) ?_)); (repeat (with_reducible first | exact Pulled.nil | apply Pulled.cons | exact Took.here | apply Took.next)); refine And.intro ?_ ?_; (first | exact sv | (simp [u8, V.one]; omega) | (simp [u8, V.one] <;> fail)); rintro d H1 ⟨v1, rfl, rfl⟩) | (refine DOp.list_ rfl ?_) | (refine DOp.appa_ rfl rfl rfl ?_; (repeat (with_reducible first | refine OnA.here ?_ | refine OnA.next ?_))) | (refine DOp.appz_ rfl rfl rfl ?_; (repeat (with_reducible first | refine OnT.here ?_ | refine OnT.next ?_)); (fail_if_success (with_reducible refine OnT_id ?_))) | (refine DOp.append0_ rfl rfl rfl ?_))) <;> (simp (maxSteps := 1000000) (disch := omega) only [push_cast, ↓reduceIte, reduceCtorEq, Nat.reduceAdd, Nat.reduceMul, Nat.reduceLT, Nat.reduceLeDiff, Nat.reduceEqDiff, Nat.reduceSub, Int.reduceToNat, Int.reduceLT, Int.reduceLE, Int.reduceAdd, Int.reduceSub, Int.reduceMul, Int.reduceNeg, Nat.reduceBEq, Int.reduceBEq, Int.reduceBNe, Nat.reduceBNe, Int.reduceEq, leK_len]))
    | (with_reducible first | refine SeqD.opF [] rfl ?_ | refine SeqD.opgF [] rfl rfl ?_)
    | with_reducible intro b)
  all_goals first
  | (refine ⟨_, _, le.of_eq ?_, ⟨b, rfl, rfl⟩, SubP.refl⟩; simp)
end Go.Proofs.YtfamfamgopchnaaGreatDoor
