/- A frame that forwards, as bytes: Put. -/
import Derived.Test.YtfmjboanoojhcaaGreatDoorFm3x
import Derived.KernelRfl
namespace Go.Proofs.YtfmjboanoojhcaaGreatDoor
open Go.RowKit
set_option linter.unusedSimpArgs false
set_option linter.unusedVariables false
set_option linter.unusedSectionVars false
set_option maxHeartbeats 4000000
set_option maxRecDepth 100000
attribute [local irreducible] DW SeqD DV DOp DC DVX


/-- What follows the kind: numbers, texts; z: what stands behind. -/
def restF (fr ep at_ seq q : Int) (p z : List UInt8) : List UInt8 := leK 8 fr ++ (leK 8 ep ++ (leK 8 at_ ++ (leK 8 seq ++ ((leK 8 1 ++ [97]) ++ ((leK 8 p.length ++ p) ++ (leK 8 q ++ z))))))
def headF : List UInt8 := [72, 66, 49, 3]
theorem head_len : headF.length = 4 := rfl
def bodyF (fr ep at_ seq q : Int) (p : List UInt8) : List UInt8 := headF ++ restF fr ep at_ seq q p []
def fullF (fr ep at_ seq q : Int) (p : List UInt8) : List UInt8 := bodyF fr ep at_ seq q p ++ leK 8 (fnvV (bodyF fr ep at_ seq q p))
theorem body_len (fr ep at_ seq q : Int) (p : List UInt8) : (bodyF fr ep at_ seq q p).length = 61 + p.length := by
  simp only [bodyF, headF, restF, List.length_append, leK_len, List.length_cons, List.length_nil]; omega
theorem full_len (fr ep at_ seq q : Int) (p : List UInt8) : (fullF fr ep at_ seq q p).length = 69 + p.length := by
  simp only [fullF, List.length_append, leK_len, body_len]; omega
theorem numbersH_dc (v : Value) (x y z : Int) (F : Own) : ((0 ≤ x ∧ x ≤ 9223372036854775807) ∧ (0 ≤ y ∧ y ≤ 9223372036854775807) ∧ (0 ≤ z ∧ z ≤ 9223372036854775807)) → DC Tryz.prog 51 [.gs v [.int .u8 72, .int .u8 66, .int .u8 49, .int .u8 3], .sl [.int .i64 x, .int .i64 y, .int .i64 z]] ([.tail 1 v] ++ F) fun d G => ∃ v1, d = .gs v1 ((headF ++ (leK 8 x ++ (leK 8 y ++ leK 8 z))).map u8) ∧ G = .tail 1 v1 :: F := fun h =>
  numbers3_dc v headF x y z F ⟨by decide, h⟩
theorem u83 : IntKind.u8.wrap 3 = 3 := by decide
theorem sv_putf_dc {p : Prop} (h : p := by first | exact sv | (simp [u8, V.one]; omega) | (simp [u8, V.one] <;> fail) | (refine ⟨?_, ?_, ?_⟩ <;> first | omega | (simp [leK_len, head_len] <;> omega)) | (refine ⟨?_, ?_⟩ <;> first | omega | (simp [leK_len, head_len] <;> omega)) | (simp [leK_len, head_len] <;> omega) | fail) : p := h
section
attribute [local push_cast 2000] V.sl.injEq forall_eq' u83 head_len byteOf_map isU8_map leK_len
theorem putf_dc (fr ep at_ seq q : Int) (p : List UInt8) (F : Own) : (((0 ≤ fr ∧ fr ≤ 15) ∧ (1 ≤ ep ∧ ep ≤ 2147483647) ∧ (0 ≤ at_ ∧ at_ ≤ 1099511627776) ∧ (1 ≤ seq ∧ seq ≤ 2147483647) ∧ (0 ≤ q ∧ q ≤ 2)) ∧ p.length ≤ 999999990000) → DC Tryz.prog 17 [.agg [.int .i64 3, .int .i64 fr, .int .i64 ep, .int .i64 at_, .sl [], .sl [], .sl [], .sl [], .sl [], .sl [], .int .i64 seq, .str [97], .sl (p.map u8), .int .i64 q, .bool false]] (([] : Own) ++ F) fun d G => ((fullF fr ep at_ seq q p).length ≤ 1048576 ∧ ∃ v1, d = .tup [.gs v1 ((fullF fr ep at_ seq q p).map u8), .int .i64 0] ∧ G = .tail 1 v1 :: F) ∨ (1048576 < (fullF fr ep at_ seq q p).length ∧ d = .tup [.gs (.slice none 0 0) [], .int .i64 22] ∧ G = F) := by
  intro hA
  obtain ⟨⟨h1, h2, h3, h4, h5⟩, hp⟩ := hA
  refine DC.bodyS (n_ := 86) (show Tryz.prog.funcs[17]? = some Tryz.f17 by kernel_rfl) rfl rfl (by rfl) ?_
  simp only [env0, List.cons_append, List.nil_append]
  have kw := ksIs [0, 1, 2, 3, 4, 6, 9, 26, 27, 36, 37, 38, 39, 50, 56, 84]
  have ow := ownIs [10, 11]
  have dw3 := drIs 3 [0, 1, 6, 14] []
  have dw16 := drIs 16 [4, 8, 13, 18] [2]
  have hfl := full_len fr ep at_ seq q p; have hfb := fnv_b (bodyF fr ep at_ seq q p)
  repeat' (first
    | refine g_ ?_
    | ((with_reducible refine And.intro ?_ ?_); (exact sv_putf_dc))
    | (refine DW.cond (by rfl) ?_ ?_ <;> (first | exact i0_ | (refine ic_ ?_; intro hb)))
    | ((with_reducible first | refine FVg_cases ?_ ?_ | refine FDg_cases ?_ ?_) <;> (intro hb; rw [hb]; revert hb; (first | exact i0_ | (refine i_ ?_; intro hb))))
    | refine r_ ?_
    | refine d_ ?_
    | refine k_ ?_
    | ((refine dm_ ?_); (first | ((first | refine v_ (right1_dc _ _ _ _ _ _ _) ?_ (ha := by exact sv_putf_dc) | refine v_ (fnv_dc _ _) ?_ (ha := by exact sv_putf_dc)))))
    | refine vo_ ?_
    | ((first | refine q_ (right1_dc _ _ _ _ _ _ _) ?_ (ha := by exact sv_putf_dc) | refine q_ (fnv_dc _ _) ?_ (ha := by exact sv_putf_dc)))
    | (refine p_ (numbersH_dc _ _ _ _ _) ?_ (ha := by exact sv_putf_dc); rintro d H1 ⟨v1, rfl, rfl⟩ <;> refine s_ ?_)
    | ((first | refine p_ (number_dc _ _ _ _) ?_ (ha := by exact sv_putf_dc) | refine p_ (numbers1_dc _ _ _ _) ?_ (ha := by exact sv_putf_dc) | refine p_ (text_dc _ _ _ _) ?_ (ha := by exact sv_putf_dc)); rintro d H1 ⟨v1, rfl, rfl⟩ <;> refine s_ ?_)
    | refine o_ ?_
    | refine f_ ?_
    | refine vm_ ?_
    | with_reducible intro b)
  all_goals first
  | (refine ⟨_, _, le.rfl_, .inr ⟨by omega, rfl, rfl⟩, ?_⟩; (exact sub_); done)
  | (refine ⟨_, _, le.of_eq ?_, .inl ⟨by omega, v1, rfl, rfl⟩, SubP.refl⟩; simp [fullF, bodyF, restF, List.append_assoc]; done)
end
end Go.Proofs.YtfmjboanoojhcaaGreatDoor
