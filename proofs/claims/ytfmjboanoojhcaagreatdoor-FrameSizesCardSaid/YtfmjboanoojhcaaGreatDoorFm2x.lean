/- Which frames may be. -/
import Derived.Test.YtfmjboanoojhcaaGreatDoorPtgx
import Derived.KernelRfl
namespace Go.Proofs.YtfmjboanoojhcaaGreatDoor
open Go.RowKit
set_option linter.unusedSimpArgs false
set_option linter.unusedVariables false
set_option linter.unusedSectionVars false
set_option maxHeartbeats 4000000
set_option maxRecDepth 100000
attribute [local irreducible] DW SeqD DV DOp DC DVX


theorem byteOf_map (p : List UInt8) : (List.map u8 p).map byteOf = p := bytes_back p
theorem isU8_map (p : List UInt8) : (List.map u8 p).all isU8 = true := bytes_are p
theorem rune_a : runeAt [97] 0 = 97 := by decide
theorem wide_a : wideAt [97] 0 = 1 := by decide
theorem in_dc (v a b : Int) (F : Own) : (True) → DC Tryz.prog 62 [.int .i64 v, .int .i64 a, .int .i64 b] (([] : Own) ++ F) fun d G => d = .bool (decide (a ≤ v) && decide (v ≤ b)) ∧ G = [] ++ F := by
  intro hA
  refine DC.bodyS (n_ := 15) (show Tryz.prog.funcs[62]? = some Tryz.f62 by kernel_rfl) rfl rfl (by rfl) ?_
  simp only [env0, List.cons_append, List.nil_append]
  have kw := ksIs [0, 1, 2, 6]
  have ow := ownIs []
  repeat' (first
    | refine g_ ?_
    | ((with_reducible refine And.intro ?_ ?_); (exact sv))
    | (refine DW.cond (by rfl) ?_ ?_ <;> (first | exact i0_ | (refine ic_ ?_; intro hb)))
    | ((with_reducible refine FVg_cases ?_ ?_) <;> (intro hb; rw [hb]; revert hb; (first | exact i0_ | (refine i_ ?_; intro hb))))
    | refine r_ ?_
    | refine k_ ?_
    | refine o_ ?_
    | refine f_ ?_
    | with_reducible intro b)
  all_goals
    refine ⟨_, _, le.of_eq ?_, ⟨rfl, rfl⟩, SubP.refl⟩
    first | rfl | simp_all
section
attribute [local push_cast 2000] byteOf_map isU8_map
theorem eqb_dc (a b : List UInt8) (F : Own) : (True) → DC Tryz.prog 72 [.sl (a.map u8), .sl (b.map u8)] (([] : Own) ++ F) fun d G => d = .bool (a == b) ∧ G = [] ++ F := by
  intro hA
  refine DC.bodyS (n_ := 10) (show Tryz.prog.funcs[72]? = some Tryz.f72 by kernel_rfl) rfl rfl (by rfl) ?_
  simp only [env0, List.cons_append, List.nil_append]
  have kw := ksIs [0, 1, 4]
  have ow := ownIs []
  repeat' (first
    | refine g_ ?_
    | ((with_reducible refine And.intro ?_ ?_); (exact sv))
    | (refine DW.cond (by rfl) ?_ ?_ <;> (first | exact i0_ | (refine ic_ ?_; intro hb)))
    | ((with_reducible refine FVg_cases ?_ ?_) <;> (intro hb; rw [hb]; revert hb; (first | exact i0_ | (refine i_ ?_; intro hb))))
    | refine r_ ?_
    | refine k_ ?_
    | refine o_ ?_
    | refine f_ ?_
    | with_reducible intro b)
  (first | exact fin_ | refine finq_ ?_)
  all_goals rfl
end
theorem eqd0_dc  (F : Own) : (True) → DC Tryz.prog 108 [.sl [], .sl []] (([] : Own) ++ F) fun d G => d = .bool true ∧ G = [] ++ F := by
  intro hA
  refine DC.bodyS (n_ := 26) (show Tryz.prog.funcs[108]? = some Tryz.f108 by kernel_rfl) rfl rfl (by rfl) ?_
  simp only [env0, List.cons_append, List.nil_append]
  have kw := ksIs [0, 1, 4, 5, 10, 12, 13, 14, 24]
  have ow := ownIs []
  have dw6 := drIs 6 [] [3, 7]
  repeat' (first
    | ((with_reducible refine DW.loopB 0 (X := Nat) (fun x => x ≤ 0) (fun x => [(0, .sl []), (1, .sl []), (12, .int .i64 0), (13, .int .i64 x)]) (fun x => ([] : Own)) (fun x => 0 - x) (0) ?_ ?_ ?_); exact (Nat.zero_le _); (simp [Sub, get, keepL] <;> fail); (try simp only [List.cons_append, List.nil_append]); refine pl_ ?_; intro k hk; (try simp only [List.cons_append, List.nil_append]))
    | refine g_ ?_
    | ((with_reducible refine And.intro ?_ ?_); (exact sv))
    | (refine DW.cond (by rfl) ?_ ?_ <;> (first | exact i0_ | (refine ic_ ?_; intro hb)))
    | ((with_reducible first | refine FVg_cases ?_ ?_ | refine FDg_cases ?_ ?_) <;> (intro hb; rw [hb]; revert hb; (first | exact i0_ | (refine i_ ?_; intro hb))))
    | refine r_ ?_
    | refine d_ ?_
    | refine k_ ?_
    | refine vo_ ?_
    | refine o_ ?_
    | refine f_ ?_
    | refine vm_ ?_
    | with_reducible intro b)
  all_goals first
  | (exfalso; omega)
  | ((first | exact fin_ | refine finq_ ?_))
theorem eqf0_dc  (F : Own) : (True) → DC Tryz.prog 109 [.sl [], .sl []] (([] : Own) ++ F) fun d G => d = .bool true ∧ G = [] ++ F := by
  intro hA
  refine DC.bodyS (n_ := 26) (show Tryz.prog.funcs[109]? = some Tryz.f109 by kernel_rfl) rfl rfl (by rfl) ?_
  simp only [env0, List.cons_append, List.nil_append]
  have kw := ksIs [0, 1, 4, 5, 10, 12, 13, 14, 24]
  have ow := ownIs []
  have dw6 := drIs 6 [] [3, 7]
  repeat' (first
    | ((with_reducible refine DW.loopB 0 (X := Nat) (fun x => x ≤ 0) (fun x => [(0, .sl []), (1, .sl []), (12, .int .i64 0), (13, .int .i64 x)]) (fun x => ([] : Own)) (fun x => 0 - x) (0) ?_ ?_ ?_); exact (Nat.zero_le _); (simp [Sub, get, keepL] <;> fail); (try simp only [List.cons_append, List.nil_append]); refine pl_ ?_; intro k hk; (try simp only [List.cons_append, List.nil_append]))
    | refine g_ ?_
    | ((with_reducible refine And.intro ?_ ?_); (exact sv))
    | (refine DW.cond (by rfl) ?_ ?_ <;> (first | exact i0_ | (refine ic_ ?_; intro hb)))
    | ((with_reducible first | refine FVg_cases ?_ ?_ | refine FDg_cases ?_ ?_) <;> (intro hb; rw [hb]; revert hb; (first | exact i0_ | (refine i_ ?_; intro hb))))
    | refine r_ ?_
    | refine d_ ?_
    | refine k_ ?_
    | refine vo_ ?_
    | refine o_ ?_
    | refine f_ ?_
    | refine vm_ ?_
    | with_reducible intro b)
  all_goals first
  | (exfalso; omega)
  | ((first | exact fin_ | refine finq_ ?_))
theorem eqr0_dc  (F : Own) : (True) → DC Tryz.prog 110 [.sl [], .sl []] (([] : Own) ++ F) fun d G => d = .bool true ∧ G = [] ++ F := by
  intro hA
  refine DC.bodyS (n_ := 26) (show Tryz.prog.funcs[110]? = some Tryz.f110 by kernel_rfl) rfl rfl (by rfl) ?_
  simp only [env0, List.cons_append, List.nil_append]
  have kw := ksIs [0, 1, 4, 5, 10, 12, 13, 14, 24]
  have ow := ownIs []
  have dw6 := drIs 6 [] [3, 7]
  repeat' (first
    | ((with_reducible refine DW.loopB 0 (X := Nat) (fun x => x ≤ 0) (fun x => [(0, .sl []), (1, .sl []), (12, .int .i64 0), (13, .int .i64 x)]) (fun x => ([] : Own)) (fun x => 0 - x) (0) ?_ ?_ ?_); exact (Nat.zero_le _); (simp [Sub, get, keepL] <;> fail); (try simp only [List.cons_append, List.nil_append]); refine pl_ ?_; intro k hk; (try simp only [List.cons_append, List.nil_append]))
    | refine g_ ?_
    | ((with_reducible refine And.intro ?_ ?_); (exact sv))
    | (refine DW.cond (by rfl) ?_ ?_ <;> (first | exact i0_ | (refine ic_ ?_; intro hb)))
    | ((with_reducible first | refine FVg_cases ?_ ?_ | refine FDg_cases ?_ ?_) <;> (intro hb; rw [hb]; revert hb; (first | exact i0_ | (refine i_ ?_; intro hb))))
    | refine r_ ?_
    | refine d_ ?_
    | refine k_ ?_
    | refine vo_ ?_
    | refine o_ ?_
    | refine f_ ?_
    | refine vm_ ?_
    | with_reducible intro b)
  all_goals first
  | (exfalso; omega)
  | ((first | exact fin_ | refine finq_ ?_))
theorem eqc0_dc  (F : Own) : (True) → DC Tryz.prog 111 [.sl [], .sl [], .fn (.func 112) [] []] (([] : Own) ++ F) fun d G => d = .bool true ∧ G = [] ++ F := by
  intro hA
  refine DC.bodyS (n_ := 32) (show Tryz.prog.funcs[111]? = some Tryz.f111 by kernel_rfl) rfl rfl (by rfl) ?_
  simp only [env0, List.cons_append, List.nil_append]
  have kw := ksIs [0, 1, 2, 6, 7, 8, 9, 14, 15, 16, 17, 18, 30]
  have ow := ownIs []
  repeat' (first
    | ((with_reducible refine DW.loopB 0 (X := Nat) (fun x => x ≤ 0) (fun x => [(1, .sl []), (2, .fn (.func 112) [] []), (15, .sl []), (16, .int .i64 0), (17, .int .i64 x)]) (fun x => ([] : Own)) (fun x => 0 - x) (0) ?_ ?_ ?_); exact (Nat.zero_le _); (simp [Sub, get, keepL] <;> fail); (try simp only [List.cons_append, List.nil_append]); refine pl_ ?_; intro k hk; (try simp only [List.cons_append, List.nil_append]))
    | refine g_ ?_
    | ((with_reducible refine And.intro ?_ ?_); (exact sv))
    | (refine DW.cond (by rfl) ?_ ?_ <;> (first | exact i0_ | (refine ic_ ?_; intro hb)))
    | ((with_reducible refine FVg_cases ?_ ?_) <;> (intro hb; rw [hb]; revert hb; (first | exact i0_ | (refine i_ ?_; intro hb))))
    | refine r_ ?_
    | refine k_ ?_
    | refine o_ ?_
    | refine f_ ?_
    | with_reducible intro b)
  all_goals first
  | (exfalso; omega)
  | ((first | exact fin_ | refine finq_ ?_))
theorem tsame0_dc  (F : Own) : (True) → DC Tryz.prog 41 [.agg [.sl [], .sl [], .sl [], .sl []], .agg [.sl [], .sl [], .sl [], .sl []]] (([] : Own) ++ F) fun d G => d = .bool true ∧ G = [] ++ F := by
  intro hA
  refine DC.bodyS (n_ := 31) (show Tryz.prog.funcs[41]? = some Tryz.f41 by kernel_rfl) rfl rfl (by rfl) ?_
  simp only [env0, List.cons_append, List.nil_append]
  have kw := ksIs [0, 1, 2, 3, 4]
  have ow := ownIs []
  repeat' (first
    | refine g_ ?_
    | ((with_reducible refine And.intro ?_ ?_); (exact sv))
    | (refine DW.cond (by rfl) ?_ ?_ <;> (first | exact i0_ | (refine ic_ ?_; intro hb)))
    | ((with_reducible refine FVg_cases ?_ ?_) <;> (intro hb; rw [hb]; revert hb; (first | exact i0_ | (refine i_ ?_; intro hb))))
    | refine r_ ?_
    | refine k_ ?_
    | (refine q_ (eqd0_dc _) ?_)
    | (refine q_ (eqf0_dc _) ?_)
    | (refine q_ (eqr0_dc _) ?_)
    | (refine q_ (eqc0_dc _) ?_)
    | refine o_ ?_
    | refine f_ ?_
    | with_reducible intro b)
  (first | exact fin_ | refine finq_ ?_)
  all_goals rfl
theorem messages_dc (t p : List UInt8) (q : Int) (r : Bool) (t2 p2 : List UInt8) (q2 : Int) (r2 : Bool) (F : Own) : (True) → DC Tryz.prog 63 [.agg [.str t, .sl (p.map u8), .int .i64 q, .bool r], .agg [.str t2, .sl (p2.map u8), .int .i64 q2, .bool r2]] (([] : Own) ++ F) fun d G => d = .bool (t == t2 && p == p2 && q == q2 && r == r2) ∧ G = [] ++ F := by
  intro hA
  refine DC.bodyS (n_ := 31) (show Tryz.prog.funcs[63]? = some Tryz.f63 by kernel_rfl) rfl rfl (by rfl) ?_
  simp only [env0, List.cons_append, List.nil_append]
  have kw := ksIs [0, 1, 2, 3, 4]
  have ow := ownIs []
  repeat' (first
    | refine g_ ?_
    | ((with_reducible refine And.intro ?_ ?_); (exact sv))
    | (refine DW.cond (by rfl) ?_ ?_ <;> (first | exact i0_ | (refine ic_ ?_; intro hb)))
    | ((with_reducible refine FVg_cases ?_ ?_) <;> (intro hb; rw [hb]; revert hb; (first | exact i0_ | (refine i_ ?_; intro hb))))
    | refine r_ ?_
    | refine k_ ?_
    | (refine q_ (eqb_dc _ _ _) ?_)
    | refine o_ ?_
    | refine f_ ?_
    | with_reducible intro b)
  all_goals
    refine ⟨_, _, le.of_eq ?_, ⟨rfl, rfl⟩, SubP.refl⟩
    simp_all
theorem wild_dc (r : Int) (F : Own) : (True) → DC Tryz.prog 127 [.int .i32 r] (([] : Own) ++ F) fun d G => d = .bool (r == 43 || r == 35) ∧ G = [] ++ F := by
  intro hA
  refine DC.bodyS (n_ := 9) (show Tryz.prog.funcs[127]? = some Tryz.f127 by kernel_rfl) rfl rfl (by rfl) ?_
  simp only [env0, List.cons_append, List.nil_append]
  have kw := ksIs [0, 2]
  have ow := ownIs []
  repeat' (first
    | refine g_ ?_
    | ((with_reducible refine And.intro ?_ ?_); (exact sv))
    | (refine DW.cond (by rfl) ?_ ?_ <;> (first | exact i0_ | (refine ic_ ?_; intro hb)))
    | ((with_reducible refine FVg_cases ?_ ?_) <;> (intro hb; rw [hb]; revert hb; (first | exact i0_ | (refine i_ ?_; intro hb))))
    | refine r_ ?_
    | refine k_ ?_
    | refine o_ ?_
    | refine f_ ?_
    | with_reducible intro b)
  all_goals
    refine ⟨_, _, le.of_eq ?_, ⟨rfl, rfl⟩, SubP.refl⟩
    simp_all
section
attribute [local push_cast 2000] u8
theorem decode1_dc (c : UInt8) (l : List UInt8) (F : Own) : (c.toNat < 128 ∧ l.length ≤ 1000000000000) → DC Tryz.prog 222 [.sl (.int .u8 (c.toNat : Int) :: l.map u8)] (([] : Own) ++ F) fun d G => d = .tup [.int .i32 (c.toNat : Int), .int .i64 1] ∧ G = [] ++ F := by
  intro hA
  obtain ⟨hc, hl⟩ := hA
  refine DC.bodyS (n_ := 22) (show Tryz.prog.funcs[222]? = some Tryz.f222 by kernel_rfl) rfl rfl (by rfl) ?_
  simp only [env0, List.cons_append, List.nil_append]
  have kw := ksIs [0, 2, 3, 5, 6, 7, 8, 9, 13]
  have ow := ownIs []
  repeat' (first
    | ((with_reducible refine DW.loopB 0 (X := Nat) (fun x => x ≤ 0) (fun x => [(0, .sl (.int .u8 (c.toNat : Int) :: l.map u8)), (6, .sl (.int .u8 (c.toNat : Int) :: l.map u8)), (7, .int .i64 ((l.length : Int) + 1)), (8, .int .i64 x)]) (fun x => ([] : Own)) (fun x => 0 - x) (0) ?_ ?_ ?_); exact (Nat.zero_le _); (simp [Sub, get, keepL] <;> fail); (try simp only [List.cons_append, List.nil_append]); refine pl_ ?_; intro k hk; (try simp only [List.cons_append, List.nil_append]); obtain rfl : k = 0 := by omega)
    | refine g_ ?_
    | ((with_reducible refine And.intro ?_ ?_); (exact sv))
    | (refine DW.cond (by rfl) ?_ ?_ <;> (first | exact i0_ | (refine ic_ ?_; intro hb)))
    | ((with_reducible refine FVg_cases ?_ ?_) <;> (intro hb; rw [hb]; revert hb; (first | exact i0_ | (refine i_ ?_; intro hb))))
    | refine r_ ?_
    | refine k_ ?_
    | refine o_ ?_
    | refine f_ ?_
    | with_reducible intro b)
  all_goals first
  | ((first | exact fin_ | refine finq_ ?_); done)
  | (trivial)
end
end Go.Proofs.YtfmjboanoojhcaaGreatDoor
