/- A frame that forwards is read. -/
import Derived.Test.YtfamfamgopchnaaGreatDoorFm4
import Derived.KernelRfl
namespace Go.Proofs.YtfamfamgopchnaaGreatDoor
open Go.RowKit
set_option linter.unusedSimpArgs false
set_option linter.unusedVariables false
set_option linter.unusedSectionVars false
set_option maxHeartbeats 4000000
set_option maxRecDepth 100000
attribute [local irreducible] DW SeqD DV DOp DC DVX


theorem takeMap (n : Nat) (l : List UInt8) : List.take n (List.map u8 l) = List.map u8 (List.take n l) := List.map_take.symm
theorem dropMap (n : Nat) (l : List UInt8) : List.drop n (List.map u8 l) = List.map u8 (List.drop n l) := List.map_drop.symm
theorem takeLen (l : List UInt8) : List.take l.length l = l := List.take_length
theorem take8 (x : Int) (r : List UInt8) : List.take 8 (leK 8 x ++ r) = leK 8 x := by rw [List.take_append_of_le_length (by rw [leK_len]; exact Nat.le_refl _)]; exact List.take_of_length_le (by rw [leK_len]; exact Nat.le_refl _)
theorem drop8 (x : Int) (r : List UInt8) : List.drop 8 (leK 8 x ++ r) = r := by
  have := List.drop_left (l₁ := leK 8 x) (l₂ := r)
  rwa [leK_len] at this
theorem takeL (l r : List UInt8) : List.take l.length (l ++ r) = l := List.take_left
theorem dropL (l r : List UInt8) : List.drop l.length (l ++ r) = r := List.drop_left
theorem shK_nat (n : Nat) : ∀ k, shK k (n : Int) = ((n / 256 ^ k : Nat) : Int)
  | 0 => by simp [shK]
  | k + 1 => by
    rw [shK, shK_nat n k]
    have h : ((2 : Int) ^ min 8 IntKind.u64.bits) = ((256 : Nat) : Int) := by decide
    rw [h, Int.fdiv_eq_ediv_of_nonneg _ (by omega), ← Int.natCast_ediv, Nat.div_div_eq_div_mul, Nat.pow_succ]
theorem byteI_nat (n : Nat) : (byteI (n : Int)).toNat = n % 256 := by
  unfold byteI
  have h : (((n : Int) % 256).toNat) = n % 256 := by omega
  rw [h]
  simp
theorem leK_at (x : Int) (k : Nat) (h : k < 8) : (leK 8 x).getD k default = byteI (shK k x) := by
  simp [leK, List.getD_eq_getElem?_getD, h]
/-- A number out of its bytes: one more. -/
theorem acc_next (x : Int) (k : Nat) (hk : k < 8) (h0 : 0 ≤ x) (h1 : x ≤ 18446744073709551615) :
    IntKind.u64.wrap ((BitVec.ofInt IntKind.u64.bits (x % 2 ^ (8 * k)) ||| BitVec.ofInt IntKind.u64.bits (IntKind.u64.wrap ((((leK 8 x).getD k default).toNat : Int) * 2 ^ min (8 * (k : Int)).toNat IntKind.u64.bits))).toNat : Int) = x % 2 ^ (8 * (k + 1)) := by
  obtain ⟨n, rfl⟩ : ∃ n : Nat, x = n := ⟨x.toNat, by omega⟩
  rw [leK_at _ k hk, shK_nat, byteI_nat]
  have e1 : min (8 * (k : Int)).toNat IntKind.u64.bits = 8 * k := by
    show min (8 * (k : Int)).toNat 64 = _
    omega
  rw [e1]
  have e256 : 256 ^ k = 2 ^ (8 * k) := by rw [show (256 : Nat) = 2 ^ 8 from rfl, ← Nat.pow_mul]
  rw [e256]
  have hpow : (2 : Nat) ^ (8 * (k + 1)) = 2 ^ (8 * k) * 256 := by rw [Nat.mul_add, Nat.pow_add]
  have hle : (2 : Nat) ^ (8 * (k + 1)) ≤ 2 ^ 64 := Nat.pow_le_pow_right (by decide) (by omega)
  have hc : n / 2 ^ (8 * k) % 256 < 256 := Nat.mod_lt _ (by decide)
  have hpos : 0 < (2 : Nat) ^ (8 * k) := Nat.pow_pos (by decide)
  have hm : n % 2 ^ (8 * k) < 2 ^ (8 * k) := Nat.mod_lt _ hpos
  have hmul : n / 2 ^ (8 * k) % 256 * 2 ^ (8 * k) ≤ 255 * 2 ^ (8 * k) := Nat.mul_le_mul_right _ (by omega)
  have hbig : (2 : Nat) ^ 64 = 18446744073709551616 := by decide
  have hp2 : ((2 : Int) ^ (8 * k)) = ((2 ^ (8 * k) : Nat) : Int) := by simp
  have hp3 : ((2 : Int) ^ (8 * (k + 1))) = ((2 ^ (8 * (k + 1)) : Nat) : Int) := by simp
  rw [hp2, hp3, ← Int.natCast_mul, ← Int.natCast_emod, ← Int.natCast_emod]
  rw [wrap_u64 ((n / 2 ^ (8 * k) % 256 * 2 ^ (8 * k) : Nat) : Int) (by omega) (by omega)]
  have t1 : ∀ m : Nat, m < 2 ^ 64 → (BitVec.ofInt IntKind.u64.bits (m : Int)).toNat = m := fun m hm => by
    show (BitVec.ofInt 64 (m : Int)).toNat = m
    rw [BitVec.toNat_ofInt]
    simp only [hbig] at hm ⊢
    omega
  rw [BitVec.toNat_or, t1 _ (by omega), t1 _ (by omega)]
  have e2 : n % 2 ^ (8 * k) ||| n / 2 ^ (8 * k) % 256 * 2 ^ (8 * k) = n % 2 ^ (8 * (k + 1)) := by
    rw [Nat.or_comm, Nat.mul_comm, ← Nat.two_pow_add_eq_or_of_lt hm, hpow, Nat.mod_mul, Nat.add_comm]
  rw [e2]
  have hlt : n % 2 ^ (8 * (k + 1)) < 2 ^ (8 * (k + 1)) := Nat.mod_lt _ (Nat.pow_pos (by decide))
  exact wrap_u64 _ (by omega) (by omega)
theorem acc_0 (x : Int) : x % 2 ^ (8 * 0) = 0 := by simp
theorem acc_8 (x : Int) (h0 : 0 ≤ x) (h1 : x ≤ 18446744073709551615) : x % 2 ^ (8 * 8) = x := by
  have : (2 : Int) ^ (8 * 8) = 18446744073709551616 := by decide
  rw [this]; omega
theorem take_dc (b : Nat) (l : List UInt8) (k : Bool) (n : Int) (F : Own) : ((0 ≤ n ∧ n ≤ l.length) ∧ l.length ≤ 1000000000000) → DC Tryz.prog 113 [.raw (.pointer (some ⟨b, 0, none⟩)), .int .u64 n] ([.blk b [.sl (l.map u8), .bool k]] ++ F) fun d G => d = .sl ((l.take n.toNat).map u8) ∧ G = .blk b [.sl ((l.drop n.toNat).map u8), .bool k] :: F := by
  intro hA
  obtain ⟨hn, hl⟩ := hA
  refine DC.bodyS (n_ := 36) (show Tryz.prog.funcs[113]? = some Tryz.f113 by kernel_rfl) rfl rfl (by rfl) ?_
  simp only [env0, List.cons_append, List.nil_append]
  repeat' (first
    | with_reducible first | refine DW.sq ?_ | refine DW.block ?_ | refine DW.skip ?_ | refine DW.exit ?_
    | ((with_reducible refine DW.ret ?_))
    | with_reducible first | refine then_n ?_ | refine then_x ?_ | refine then_r ?_ | refine blk_n ?_ | refine blk_r ?_ | refine blk_x ?_
    | with_reducible refine blk_y (by decide) ?_
    | with_reducible first | refine Next.go ?_ | refine SeqD.nil ?_ | refine DV.nil ?_
    | ((with_reducible refine And.intro ?_ ?_); (first | exact sv | (simp [u8, V.one]; omega) | (simp [u8, V.one] <;> fail)))
    | with_reducible first | refine DW.ct_ ?_ | refine DW.cf_ ?_
    | (refine DW.cond (by rfl) (fun hb => ?_) (fun hb => ?_) <;> (try simp only [hbs, Int.reduceBEq, Int.reduceBNe, Int.reduceEq] at hb; try (exfalso; omega)))
    | ((first | ((with_reducible refine DW.regK [0, 1, 4, 5, 13] (by kernel_rfl) ?_); refine SeqD.go (own := []) _ _ ?_) | ((first | refine Both.imp (fun hb => ?_) (fun hb => ?_) | (with_reducible first | refine FVg_cases (fun hb => ?_) (fun hb => ?_) | refine FDg_cases (fun hb => ?_) (fun hb => ?_)) <;> rw [hb]) <;> (try simp only [hbs, Int.reduceBEq, Int.reduceBNe, Int.reduceEq] at hb; try (exfalso; omega))) | (with_reducible refine ret_r rfl ?_) | ((refine ret_c [.tmp 4] (by rfl) ?_); (try (refine RetK_cell _ _ _ _ _ _ rfl ?_; (repeat (with_reducible first | refine OnB.here ?_ | refine OnB.mid ?_ | refine OnB.next ?_))))) | ((refine RetK_cell _ _ _ _ _ _ rfl ?_); (repeat (with_reducible first | refine OnB.here ?_ | refine OnB.mid ?_ | refine OnB.next ?_))) | (with_reducible refine ret_n rfl ?_) | (first | (refine DOp.store_ rfl rfl ?_; (repeat (with_reducible first | refine OnB.here ?_ | refine OnB.mid ?_ | refine OnB.next ?_))) | (refine DOp.load_ rfl rfl ?_; (repeat (with_reducible first | refine OnB.here ?_ | refine OnB.mid ?_ | refine OnB.next ?_))) | (refine DOp.loada_ rfl rfl ?_; (repeat (with_reducible first | refine OnA.here ?_ | refine OnA.next ?_))) | (refine DOp.storea_ rfl rfl ?_; (repeat (with_reducible first | refine OnA.here ?_ | refine OnA.next ?_))))) <;> (simp (maxSteps := 1000000) (disch := omega) only [push_cast, ↓reduceIte, reduceCtorEq, Nat.reduceAdd, Nat.reduceMul, Nat.reduceLT, Nat.reduceLeDiff, Nat.reduceEqDiff, Nat.reduceSub, Int.reduceToNat, Int.reduceLT, Int.reduceLE, Int.reduceAdd, Int.reduceSub, Int.reduceMul, Int.reduceNeg, Nat.reduceBEq, Int.reduceBEq, Int.reduceBNe, Nat.reduceBNe, Int.reduceEq, takeMap, dropMap, takeLen, isU8_map]))
    | (with_reducible first | refine SeqD.opF [] rfl ?_ | refine SeqD.opgF [] rfl rfl ?_)
    | with_reducible intro b)
  all_goals first
  | (exfalso; omega)
  | ((refine ⟨_, _, ?_, ⟨rfl, rfl⟩, ?_⟩; (first | exact le.rfl_ | exact le.gs rfl | refine le.of_eq ?_ | refine le.gs ?_); rotate_left; (repeat (with_reducible first | exact SubP.refl | exact SubP.nil | refine SubP.pick ?_ | refine Out.here ?_ | refine Out.next ?_ | refine SubP.drop ?_))); done)
end Go.Proofs.YtfamfamgopchnaaGreatDoor
