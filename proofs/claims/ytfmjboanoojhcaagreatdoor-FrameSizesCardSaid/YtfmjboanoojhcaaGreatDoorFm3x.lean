/- A frame that forwards, as bytes. -/
import Derived.Test.YtfmjboanoojhcaaGreatDoorFm2x
import Derived.KernelRfl
namespace Go.Proofs.YtfmjboanoojhcaaGreatDoor
open Go.RowKit
set_option linter.unusedSimpArgs false
set_option linter.unusedVariables false
set_option linter.unusedSectionVars false
set_option maxHeartbeats 4000000
set_option maxRecDepth 100000
attribute [local irreducible] DW SeqD DV DOp DC DVX


theorem decode97_dc (F : Own) : True → DC Tryz.prog 222 [.sl [.int .u8 97]] (([] : Own) ++ F) fun d G => d = .tup [.int .i32 97, .int .i64 1] ∧ G = [] ++ F := fun _ => decode1_dc 97 [] F ⟨by decide, by decide⟩
theorem in1_dc (v a b : Int) (F : Own) : (a ≤ v ∧ v ≤ b) → DC Tryz.prog 62 [.int .i64 v, .int .i64 a, .int .i64 b] (([] : Own) ++ F) fun d G => d = .bool true ∧ G = [] ++ F := fun h => (in_dc v a b F trivial).mono fun d G g => by
  rw [decide_eq_true h.1, decide_eq_true h.2] at g; exact g
theorem in0_dc (v a b : Int) (F : Own) : (v < a) → DC Tryz.prog 62 [.int .i64 v, .int .i64 a, .int .i64 b] (([] : Own) ++ F) fun d G => d = .bool false ∧ G = [] ++ F := fun h => (in_dc v a b F trivial).mono fun d G g => by
  rw [decide_eq_false (show ¬ a ≤ v by omega)] at g; exact g
theorem ne_a : (([97] : List UInt8) == []) = false := rfl
theorem eq_aa : (([97] : List UInt8) == [97]) = true := rfl
theorem check1_dc  (F : Own) : (True) → DC Tryz.prog 183 [.sl [.int .u8 97]] (([] : Own) ++ F) fun d G => d = .int .i64 (-1) ∧ G = [] ++ F := by
  intro hA
  refine DC.bodyS (n_ := 34) (show Tryz.prog.funcs[183]? = some Tryz.f183 by kernel_rfl) rfl rfl (by rfl) ?_
  simp only [env0, List.cons_append, List.nil_append]
  have kw := ksIs [0, 2, 3, 4, 5, 9, 29]
  have ow := ownIs []
  repeat' (first
    | ((with_reducible refine DW.loopB 0 (X := Nat) (fun x => x ≤ 1) (fun x => [(0, .sl [.int .u8 97]), (3, .int .i64 x)]) (fun x => ([] : Own)) (fun x => 1 - x) (0) ?_ ?_ ?_); exact (Nat.zero_le _); (simp [Sub, get, keepL] <;> fail); (try simp only [List.cons_append, List.nil_append]); refine pl_ ?_; intro k hk; (try simp only [List.cons_append, List.nil_append]); rcases (show k = 0 ∨ k = 1 by omega) with rfl | rfl)
    | refine g_ ?_
    | ((with_reducible refine And.intro ?_ ?_); (exact sv))
    | (refine DW.cond (by rfl) ?_ ?_ <;> (first | exact i0_ | (refine ic_ ?_; intro hb)))
    | ((with_reducible refine FVg_cases ?_ ?_) <;> (intro hb; rw [hb]; revert hb; (first | exact i0_ | (refine i_ ?_; intro hb))))
    | refine r_ ?_
    | refine k_ ?_
    | (refine q_ (decode97_dc _) ?_)
    | refine o_ ?_
    | refine f_ ?_
    | with_reducible intro b)
  all_goals first
  | (refine ⟨1, ?_, ?_, ?_, ?_⟩; (((try simp only); omega)); (((try simp only); omega)); (simp [Sub, get] <;> (fail)); (try dsimp only); (exact sub_); done)
  | ((first | exact fin_ | refine finq_ ?_); done)
  | (exfalso; omega)
  | (exfalso; simp_all)
section
attribute [local push_cast 2000] ne_a
theorem text1_dc  (F : Own) : (True) → DC Tryz.prog 128 [.str [97]] (([] : Own) ++ F) fun d G => d = .bool true ∧ G = [] ++ F := by
  intro hA
  refine DC.bodyS (n_ := 16) (show Tryz.prog.funcs[128]? = some Tryz.f128 by kernel_rfl) rfl rfl (by rfl) ?_
  simp only [env0, List.cons_append, List.nil_append]
  have kw := ksIs [0, 2]
  have ow := ownIs []
  repeat' (first
    | refine g_ ?_
    | ((with_reducible refine And.intro ?_ ?_); (exact sv))
    | (refine DW.cond (by rfl) ?_ ?_ <;> (first | exact i0_ | (refine ic_ ?_; intro hb)))
    | ((with_reducible refine FVg_cases ?_ ?_) <;> (intro hb; rw [hb]; revert hb; (first | exact i0_ | (refine i_ ?_; intro hb))))
    | refine r_ ?_
    | refine k_ ?_
    | (refine q_ (check1_dc _) ?_)
    | refine o_ ?_
    | refine f_ ?_
    | with_reducible intro b)
  all_goals first
  | (exact absurd trivial hb)
  | ((first | exact fin_ | refine finq_ ?_); done)
end
section
attribute [local push_cast 2000] rune_a wide_a
theorem name1_dc  (F : Own) : (True) → DC Tryz.prog 65 [.str [97]] (([] : Own) ++ F) fun d G => d = .bool true ∧ G = [] ++ F := by
  intro hA
  refine DC.bodyS (n_ := 14) (show Tryz.prog.funcs[65]? = some Tryz.f65 by kernel_rfl) rfl rfl (by rfl) ?_
  simp only [env0, List.cons_append, List.nil_append]
  have kw := ksIs [0, 2, 4, 6, 7, 8, 11]
  have ow := ownIs []
  repeat' (first
    | ((with_reducible refine DW.loopB 0 (X := Nat) (fun x => x ≤ 1) (fun x => [(0, .str [97]), (6, .raw (.pointer (some ⟨b, 0, none⟩)))]) (fun x => .siter b [97] x :: ([] : Own)) (fun x => 1 - x) (0) ?_ ?_ ?_); exact (Nat.zero_le _); (simp [Sub, get, keepL] <;> fail); (try simp only [List.cons_append, List.nil_append]); refine pl_ ?_; intro k hk; (try simp only [List.cons_append, List.nil_append]); rcases (show k = 0 ∨ k = 1 by omega) with rfl | rfl)
    | refine g_ ?_
    | ((with_reducible refine And.intro ?_ ?_); (exact sv))
    | (refine DW.cond (by rfl) ?_ ?_ <;> (first | exact i0_ | (refine ic_ ?_; intro hb)))
    | ((with_reducible refine FVg_cases ?_ ?_) <;> (intro hb; rw [hb]; revert hb; (first | exact i0_ | (refine i_ ?_; intro hb))))
    | ((refine Both.imp ?_ ?_) <;> (first | exact i0_ | (refine i_ ?_; intro hb)))
    | refine r_ ?_
    | refine k_ ?_
    | (refine q_ (wild_dc _ _) ?_)
    | (refine q_ (text1_dc _) ?_)
    | refine o_ ?_
    | refine f_ ?_
    | with_reducible intro b)
  all_goals first
  | (exfalso; simp at hb)
  | (refine ⟨1, ?_, ?_, ?_, ?_⟩; (((try simp only); omega)); (((try simp only); omega)); (simp [Sub, get] <;> (fail)); (try dsimp only); (exact sub_); done)
  | ((first | exact fin_ | refine finq_ ?_); done)
  | (exfalso; simp_all)
end
theorem right1_dc (fr ep at_ seq q : Int) (p : List UInt8) (F : Own) : ((0 ≤ fr ∧ fr ≤ 15) ∧ (1 ≤ ep ∧ ep ≤ 2147483647) ∧ (0 ≤ at_ ∧ at_ ≤ 1099511627776) ∧ (1 ≤ seq ∧ seq ≤ 2147483647) ∧ (0 ≤ q ∧ q ≤ 2)) → DC Tryz.prog 19 [.agg [.int .i64 3, .int .i64 fr, .int .i64 ep, .int .i64 at_, .sl [], .sl [], .sl [], .sl [], .sl [], .sl [], .int .i64 seq, .str [97], .sl (p.map u8), .int .i64 q, .bool false]] (([] : Own) ++ F) fun d G => d = .bool true ∧ G = [] ++ F := by
  intro hA
  obtain ⟨h1, h2, h3, h4, h5⟩ := hA
  refine DC.bodyS (n_ := 104) (show Tryz.prog.funcs[19]? = some Tryz.f19 by kernel_rfl) rfl rfl (by rfl) ?_
  simp only [env0, List.cons_append, List.nil_append]
  have kw := ksIs [0, 1, 2, 3, 4, 5, 21, 46, 47, 64, 75]
  have ow := ownIs []
  have dw3 := drIs 3 [] [1, 6, 11, 13, 15, 19, 21]
  repeat' (first
    | refine g_ ?_
    | ((with_reducible refine And.intro ?_ ?_); (exact sv))
    | (refine DW.cond (by rfl) ?_ ?_ <;> (first | exact i0_ | (refine ic_ ?_; intro hb)))
    | ((with_reducible first | refine FVg_cases ?_ ?_ | refine FDg_cases ?_ ?_) <;> (intro hb; rw [hb]; revert hb; (first | exact i0_ | (refine i_ ?_; intro hb))))
    | refine r_ ?_
    | refine d_ ?_
    | refine k_ ?_
    | ((refine dm_ ?_); (first | (refine v_ (in1_dc _ _ _ _) ?_) | (refine v_ (tsame0_dc _) ?_) | (refine v_ (name1_dc _) ?_)))
    | refine vo_ ?_
    | (refine q_ (in1_dc _ _ _ _) ?_)
    | (refine q_ (tsame0_dc _) ?_)
    | (refine q_ (name1_dc _) ?_)
    | refine o_ ?_
    | refine f_ ?_
    | refine vm_ ?_
    | with_reducible intro b)
  all_goals first
  | ((first | exact fin_ | refine finq_ ?_); done)
  | (exfalso; omega)
theorem right0_dc  (F : Own) : (True) → DC Tryz.prog 19 [.agg [.int .i64 0, .int .i64 0, .int .i64 0, .int .i64 0, .gs (.slice none 0 0) [], .gs (.slice none 0 0) [], .gs (.slice none 0 0) [], .gs (.slice none 0 0) [], .gs (.slice none 0 0) [], .gs (.slice none 0 0) [], .int .i64 0, .str [], .gs (.slice none 0 0) [], .int .i64 0, .bool false]] (([] : Own) ++ F) fun d G => d = .bool false ∧ G = [] ++ F := by
  intro hA
  refine DC.bodyS (n_ := 104) (show Tryz.prog.funcs[19]? = some Tryz.f19 by kernel_rfl) rfl rfl (by rfl) ?_
  simp only [env0, List.cons_append, List.nil_append]
  have kw := ksIs [0, 1, 2, 3, 4, 5, 21, 46, 47, 64, 75]
  have ow := ownIs []
  have dw3 := drIs 3 [] [1, 6, 11, 13, 15, 19, 21]
  repeat' (first
    | refine g_ ?_
    | ((with_reducible refine And.intro ?_ ?_); (exact sv))
    | (refine DW.cond (by rfl) ?_ ?_ <;> (first | exact i0_ | (refine ic_ ?_; intro hb)))
    | ((with_reducible first | refine FVg_cases ?_ ?_ | refine FDg_cases ?_ ?_) <;> (intro hb; rw [hb]; revert hb; (first | exact i0_ | (refine i_ ?_; intro hb))))
    | refine r_ ?_
    | refine d_ ?_
    | refine k_ ?_
    | ((refine dm_ ?_); (first | (refine v_ (in1_dc _ _ _ _) ?_) | (refine v_ (in0_dc _ _ _ _) ?_)))
    | refine vo_ ?_
    | (refine q_ (in1_dc _ _ _ _) ?_)
    | (refine q_ (in0_dc _ _ _ _) ?_)
    | refine o_ ?_
    | refine f_ ?_
    | refine vm_ ?_
    | with_reducible intro b)
  (first | exact fin_ | refine finq_ ?_)
  all_goals rfl
end Go.Proofs.YtfmjboanoojhcaaGreatDoor
