/- Which frame any bytes are. -/
import Derived.Test.YtfmjboanoojhcaaGreatDoorFm7x
import Derived.KernelRfl
namespace Go.Proofs.YtfmjboanoojhcaaGreatDoor
open Go.RowKit
set_option linter.unusedSimpArgs false
set_option linter.unusedVariables false
set_option linter.unusedSectionVars false
set_option maxHeartbeats 4000000
set_option maxRecDepth 100000
attribute [local irreducible] DW SeqD DV DOp DC DVX


theorem frame2_dc (b : Nat) (fr ep at_ seq q : Int) (p z : List UInt8) (F : Own) : (((0 ≤ fr ∧ fr ≤ 15) ∧ (1 ≤ ep ∧ ep ≤ 2147483647) ∧ (0 ≤ at_ ∧ at_ ≤ 1099511627776) ∧ (1 ≤ seq ∧ seq ≤ 2147483647) ∧ (0 ≤ q ∧ q ≤ 2)) ∧ p.length ≤ 10000000000 ∧ z.length ≤ 10000000000) → DC Tryz.prog 71 [.raw (.pointer (some ⟨b, 0, none⟩))] ([.blk b [.sl (u8 3 :: ((leK 8 fr ++ (leK 8 ep ++ (leK 8 at_ ++ (leK 8 seq ++ (leK 8 1 ++ 97 :: (leK 8 (p.length : Int) ++ (p ++ (leK 8 q ++ z))))))))).map u8), .bool false]] ++ F) fun d G => d = .agg [.int .i64 3, .int .i64 fr, .int .i64 ep, .int .i64 at_, .gs (.slice none 0 0) [], .gs (.slice none 0 0) [], .gs (.slice none 0 0) [], .gs (.slice none 0 0) [], .gs (.slice none 0 0) [], .gs (.slice none 0 0) [], .int .i64 seq, .str [97], .sl (p.map u8), .int .i64 q, .bool false] ∧ G = .blk b [.sl (z.map u8), .bool false] :: F := fun h => frame_dc b fr ep at_ seq q p z F h
theorem clone3_dc (l : List UInt8) (F : Own) : l.length ≤ 1000000000 → DC Tryz.prog 70 [.sl (u8 3 :: l.map u8)] (([] : Own) ++ F) fun d G => d = .sl (u8 3 :: l.map u8) ∧ G = [] ++ F := fun h => clone_dc (3 :: l) F ⟨by simp, by simp only [List.length_cons]; omega⟩
theorem rnum0_dc (b : Nat) (x : Int) (k : Bool) (F : Own) : (0 ≤ x ∧ x ≤ 18446744073709551615) → DC Tryz.prog 69 [.raw (.pointer (some ⟨b, 0, none⟩))] ([.blk b [.sl ((leK 8 x).map u8), .bool k]] ++ F) fun d G => d = .int .u64 x ∧ G = .blk b [.sl [], .bool k] :: F := fun h => by
  have := rnum_dc b x [] k F ⟨h, by decide⟩
  rwa [List.append_nil] at this
theorem full_take (fr ep at_ seq q : Int) (p : List UInt8) (n : Int) (h : n = 61 + p.length) : (fullF fr ep at_ seq q p).take n.toNat = bodyF fr ep at_ seq q p := by
  have e : n.toNat = (bodyF fr ep at_ seq q p).length := by rw [body_len]; omega
  rw [e, fullF, List.take_left]
theorem full_drop (fr ep at_ seq q : Int) (p : List UInt8) (n : Int) (h : n = 61 + p.length) : (fullF fr ep at_ seq q p).drop n.toNat = leK 8 (fnvV (bodyF fr ep at_ seq q p)) := by
  have e : n.toNat = (bodyF fr ep at_ seq q p).length := by rw [body_len]; omega
  rw [e, fullF, List.drop_left]
theorem body_drop (fr ep at_ seq q : Int) (p z : List UInt8) (hz : z = []) : (bodyF fr ep at_ seq q p).drop 3 = 3 :: (leK 8 fr ++ (leK 8 ep ++ (leK 8 at_ ++ (leK 8 seq ++ (leK 8 1 ++ 97 :: (leK 8 (p.length : Int) ++ (p ++ (leK 8 q ++ z)))))))) := by
  subst hz
  simp only [bodyF, headF, restF, List.append_assoc, List.cons_append, List.nil_append, List.drop_succ_cons, List.drop_zero]
def magicL : List UInt8 := [72, 66, 49]
theorem eqHB : (magicL == [72, 66, 49]) = true := rfl
theorem neHB (l : List UInt8) : ((byteOf (.int .u8 0) :: l) == ([72, 66, 49] : List UInt8)) = false := rfl
theorem toN3 : ((3 : Int)).toNat = 3 := rfl
theorem sv_read2_dc {p : Prop} (h : p := by first | exact sv | (simp [u8, V.one]; omega) | (simp [u8, V.one] <;> fail) | fail) : p := h
section
attribute [local push_cast 2000] toN3 takeMap isU8 isU8_map byteOf_map neHB
theorem read2_dc (l : List UInt8) (F : Own) : (12 ≤ l.length ∧ l.length ≤ 1048500) → DC Tryz.prog 21 [.sl (.int .u8 0 :: l.map u8)] (([] : Own) ++ F) fun d G => d = .tup [.agg [.int .i64 0, .int .i64 0, .int .i64 0, .int .i64 0, .gs (.slice none 0 0) [], .gs (.slice none 0 0) [], .gs (.slice none 0 0) [], .gs (.slice none 0 0) [], .gs (.slice none 0 0) [], .gs (.slice none 0 0) [], .int .i64 0, .str [], .gs (.slice none 0 0) [], .int .i64 0, .bool false], .int .i64 21] ∧ G = [] ++ F := by
  intro hA
  obtain ⟨h1, h2⟩ := hA
  refine DC.bodyS (n_ := 71) (show Tryz.prog.funcs[21]? = some Tryz.f21 by kernel_rfl) rfl rfl (by rfl) ?_
  simp only [env0, List.cons_append, List.nil_append]
  have kw := ksIs [0, 2, 3, 4, 5, 6, 7, 8, 12, 17, 28, 68]
  have ow := ownIs [33, 47]
  have dw6 := drIs 6 [4, 5, 10] []
  have rw_ := rsIs [.cell 2 33, .tmp 3]
  repeat' (first
    | refine g_ ?_
    | ((with_reducible refine And.intro ?_ ?_); (exact sv_read2_dc))
    | (refine DW.cond (by rfl) ?_ ?_ <;> (first | exact i0_ | (refine ic_ ?_; intro hb)))
    | ((with_reducible first | refine FVg_cases ?_ ?_ | refine FDg_cases ?_ ?_) <;> (intro hb; rw [hb]; revert hb; (first | exact i0_ | (refine i_ ?_; intro hb))))
    | refine r_ ?_
    | refine d_ ?_
    | refine k_ ?_
    | refine vo_ ?_
    | refine o_ ?_
    | refine f_ ?_
    | refine vm_ ?_
    | with_reducible intro b)
  all_goals first
  | ((first | exact fin_ | refine finq_ ?_); done)
  | (exfalso; omega)
end
theorem sv_read3_dc {p : Prop} (h : p := by first | exact sv | (simp [u8, V.one]; omega) | (simp [u8, V.one] <;> fail) | fail) : p := h
theorem s_read3_dc {P Q : Prop} (q : Q) (h : Hid Q → P := by (intro q; simp (maxSteps := 1000000) (disch := omega) only [push_cast, ↓reduceIte, reduceCtorEq, Nat.reduceAdd, Nat.reduceMul, Nat.reduceLT, Nat.reduceLeDiff, Nat.reduceEqDiff, Nat.reduceSub, Int.reduceToNat, Int.reduceLT, Int.reduceLE, Int.reduceAdd, Int.reduceSub, Int.reduceMul, Int.reduceNeg, Nat.reduceBEq, Int.reduceBEq, Int.reduceBNe, Nat.reduceBNe, Int.reduceEq, toN3, takeMap, dropMap, isU8_map, byteOf_map, hb0, hb1, hb2, eqHB, takeLen]; exact q.1)) : P := h ⟨q⟩
section
attribute [local push_cast 2000] toN3 takeMap dropMap isU8_map byteOf_map eqHB takeLen
theorem read3_dc (l c : List UInt8) (x : Int) (F : Own) : ((12 ≤ l.length ∧ l.length ≤ 1048576) ∧ l.take 3 = magicL ∧ l.drop ((l.length : Int) - 8).toNat = leK 8 x ∧ l.take ((l.length : Int) - 8).toNat = c ∧ x ≠ fnvV c ∧ (0 ≤ x ∧ x ≤ 18446744073709551615) ∧ c.length ≤ 1048576) → DC Tryz.prog 21 [.sl (l.map u8)] (([] : Own) ++ F) fun d G => d = .tup [.agg [.int .i64 0, .int .i64 0, .int .i64 0, .int .i64 0, .gs (.slice none 0 0) [], .gs (.slice none 0 0) [], .gs (.slice none 0 0) [], .gs (.slice none 0 0) [], .gs (.slice none 0 0) [], .gs (.slice none 0 0) [], .int .i64 0, .str [], .gs (.slice none 0 0) [], .int .i64 0, .bool false], .int .i64 27] ∧ G = [] ++ F := by
  intro hA
  obtain ⟨⟨h1, h2⟩, hb0, hb1, hb2, hne, hx, hc⟩ := hA
  refine DC.bodyS (n_ := 71) (show Tryz.prog.funcs[21]? = some Tryz.f21 by kernel_rfl) rfl rfl (by rfl) ?_
  simp only [env0, List.cons_append, List.nil_append]
  have kw := ksIs [0, 2, 3, 4, 5, 6, 7, 8, 12, 17, 28, 68]
  have ow := ownIs [33, 47]
  have dw6 := drIs 6 [4, 5, 10] []
  have rw_ := rsIs [.cell 2 33, .tmp 3]
  repeat' (first
    | refine g_ ?_
    | ((with_reducible refine And.intro ?_ ?_); (exact sv_read3_dc))
    | (refine DW.cond (by rfl) ?_ ?_ <;> (first | exact i0_ | (intro hb; (try simp only [↓reduceCtorEq, not_true_eq_false, not_false_eq_true, hbs, Int.reduceBEq, Int.reduceBNe, Int.reduceEq] at hb); (try refine s_read3_dc ?_))))
    | ((with_reducible first | refine FVg_cases ?_ ?_ | refine FDg_cases ?_ ?_) <;> (intro hb; rw [hb]; revert hb; (first | exact i0_ | (intro hb; (try simp only [↓reduceCtorEq, not_true_eq_false, not_false_eq_true, hbs, Int.reduceBEq, Int.reduceBNe, Int.reduceEq] at hb); (try refine s_read3_dc ?_)))))
    | ((first | refine rn_ ?_ | refine dn_ ?_ | refine kn_ ?_) <;> (refine s_read3_dc ?_))
    | ((refine dm_ ?_); (first | (refine v_ (fnv_dc _ _) ?_ (ha := by exact sv_read3_dc) (hk := fun q => q.1); refine s_read3_dc ?_)))
    | ((refine von_ ?_); refine s_read3_dc ?_)
    | (refine p_ (rnum0_dc _ _ _ _) ?_ (ha := by exact sv_read3_dc); rintro d H1 ⟨rfl, rfl⟩ <;> refine s_read3_dc ?_)
    | (refine q_ (fnv_dc _ _) ?_ (ha := by exact sv_read3_dc) (hk := fun q => q.1); refine s_read3_dc ?_)
    | ((refine on_ ?_); refine s_read3_dc ?_)
    | refine f_ ?_
    | refine vm_ ?_
    | with_reducible intro b)
  all_goals first
  | ((first | exact fin_ | refine finq_ ?_); done)
  | (exfalso; omega)
end
theorem sv_read4_dc {p : Prop} (h : p := by first | exact sv | (simp [u8, V.one]; omega) | (simp [u8, V.one] <;> fail) | (refine ⟨?_, ?_, ?_⟩ <;> first | omega | (simp [leK_len, head_len] <;> omega)) | (refine ⟨?_, ?_⟩ <;> first | omega | (simp [leK_len, head_len] <;> omega)) | (simp [leK_len, head_len] <;> omega) | fail) : p := h
theorem s_read4_dc {P Q : Prop} (q : Q) (h : Hid Q → P := by (intro q; simp (maxSteps := 1000000) (disch := omega) only [push_cast, ↓reduceIte, reduceCtorEq, Nat.reduceAdd, Nat.reduceMul, Nat.reduceLT, Nat.reduceLeDiff, Nat.reduceEqDiff, Nat.reduceSub, Int.reduceToNat, Int.reduceLT, Int.reduceLE, Int.reduceAdd, Int.reduceSub, Int.reduceMul, Int.reduceNeg, Nat.reduceBEq, Int.reduceBEq, Int.reduceBNe, Nat.reduceBNe, Int.reduceEq, toN3, takeMap, dropMap, isU8_map, byteOf_map, hb0, hb1, hb2, hb3, hb4, eqHB, takeLen, bneI]; exact q.1)) : P := h ⟨q⟩
section
attribute [local push_cast 2000] toN3 takeMap dropMap isU8_map byteOf_map eqHB takeLen
theorem read4_dc (fr ep at_ seq q : Int) (p l z : List UInt8) (F : Own) : (z = [] ∧ l = fullF fr ep at_ seq q p ∧ ((0 ≤ fr ∧ fr ≤ 15) ∧ (1 ≤ ep ∧ ep ≤ 2147483647) ∧ (0 ≤ at_ ∧ at_ ≤ 1099511627776) ∧ (1 ≤ seq ∧ seq ≤ 2147483647) ∧ (0 ≤ q ∧ q ≤ 2)) ∧ l.length ≤ 1048576) → DC Tryz.prog 21 [.sl (l.map u8)] (([] : Own) ++ F) fun d G => d = .tup [.agg [.int .i64 3, .int .i64 fr, .int .i64 ep, .int .i64 at_, .gs (.slice none 0 0) [], .gs (.slice none 0 0) [], .gs (.slice none 0 0) [], .gs (.slice none 0 0) [], .gs (.slice none 0 0) [], .gs (.slice none 0 0) [], .int .i64 seq, .str [97], .sl (p.map u8), .int .i64 q, .bool false], .int .i64 0] ∧ G = [] ++ F := by
  intro hA
  obtain ⟨hz, hl, hF, h2⟩ := hA
  refine DC.bodyS (n_ := 71) (show Tryz.prog.funcs[21]? = some Tryz.f21 by kernel_rfl) rfl rfl (by rfl) ?_
  simp only [env0, List.cons_append, List.nil_append]
  have kw := ksIs [0, 2, 3, 4, 5, 6, 7, 8, 12, 17, 28, 68]
  have ow := ownIs [33, 47]
  have dw6 := drIs 6 [4, 5, 10] []
  have rw_ := rsIs [.cell 2 33, .tmp 3]
  have hfl := full_len fr ep at_ seq q p
  have hll : l.length = 69 + p.length := by rw [hl]; exact hfl
  have hb0 : List.take 3 l = magicL := by rw [hl]; rfl
  have hb1 : List.drop ((l.length : Int) - 8).toNat l = leK 8 (fnvV (bodyF fr ep at_ seq q p)) := by rw [hl]; exact full_drop _ _ _ _ _ _ _ (by omega)
  have hb2 : List.take ((l.length : Int) - 8).toNat l = bodyF fr ep at_ seq q p := by rw [hl]; exact full_take _ _ _ _ _ _ _ (by omega)
  have hb3 := body_drop fr ep at_ seq q p z hz
  have hb4 : (fullF fr ep at_ seq q p == l) = true := by rw [hl]; simp
  have hbl := body_len fr ep at_ seq q p
  have hfb := fnv_b (bodyF fr ep at_ seq q p)
  have hzl : z.length = 0 := by rw [hz]; rfl
  repeat' (first
    | refine g_ ?_
    | ((with_reducible refine And.intro ?_ ?_); (exact sv_read4_dc))
    | (refine DW.cond (by rfl) ?_ ?_ <;> (first | exact i0_ | (intro hb; (try simp only [↓reduceCtorEq, not_true_eq_false, not_false_eq_true, hbs, Int.reduceBEq, Int.reduceBNe, Int.reduceEq] at hb); (try refine s_read4_dc ?_))))
    | ((with_reducible first | refine FVg_cases ?_ ?_ | refine FDg_cases ?_ ?_) <;> (intro hb; rw [hb]; revert hb; (first | exact i0_ | (intro hb; (try simp only [↓reduceCtorEq, not_true_eq_false, not_false_eq_true, hbs, Int.reduceBEq, Int.reduceBNe, Int.reduceEq] at hb); (try refine s_read4_dc ?_)))))
    | ((first | refine rn_ ?_ | refine dn_ ?_ | refine kn_ ?_) <;> (refine s_read4_dc ?_))
    | ((refine dm_ ?_); (first | ((first | refine v_ (fnv_dc _ _) ?_ (ha := by exact sv_read4_dc) (hk := fun q => q.1) | refine v_ (eqb_dc _ _ _) ?_ (ha := by exact sv_read4_dc) (hk := fun q => q.1)); refine s_read4_dc ?_) | (refine v_ (clone3_dc _ _) ?_ (ha := by exact sv_read4_dc) (hk := fun q => q.1); refine s_read4_dc ?_)))
    | ((refine von_ ?_); refine s_read4_dc ?_)
    | (refine p_ (rnum0_dc _ _ _ _) ?_ (ha := by exact sv_read4_dc); rintro d H1 ⟨rfl, rfl⟩ <;> refine s_read4_dc ?_)
    | ((first | refine q_ (fnv_dc _ _) ?_ (ha := by exact sv_read4_dc) (hk := fun q => q.1) | refine q_ (eqb_dc _ _ _) ?_ (ha := by exact sv_read4_dc) (hk := fun q => q.1)); refine s_read4_dc ?_)
    | (refine q_ (clone3_dc _ _) ?_ (ha := by exact sv_read4_dc) (hk := fun q => q.1); refine s_read4_dc ?_)
    | (refine p_ (frame2_dc _ _ _ _ _ _ _ _ _) ?_ (ha := by exact sv_read4_dc); rintro d H1 ⟨rfl, rfl⟩ <;> refine s_read4_dc ?_)
    | (refine p_ (putf_dc _ _ _ _ _ _ _) ?_ (ha := by exact sv_read4_dc); rintro d H1 (⟨g1, v1, rfl, rfl⟩ | ⟨g1, rfl, rfl⟩) <;> refine s_read4_dc ?_)
    | ((refine on_ ?_); refine s_read4_dc ?_)
    | refine f_ ?_
    | refine vm_ ?_
    | with_reducible intro b)
  all_goals first
  | ((first | exact fin_ | refine finq_ ?_); done)
  | (exfalso; omega)
end
end Go.Proofs.YtfmjboanoojhcaaGreatDoor
