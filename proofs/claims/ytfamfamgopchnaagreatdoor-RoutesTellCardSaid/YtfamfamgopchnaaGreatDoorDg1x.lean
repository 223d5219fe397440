/- Sums of texts, buckets, where two lists differ. -/
import Derived.Test.YtfamfamgopchnaaGreatDoorTysx
import Derived.KernelRfl
import Derived.Test.YtfamfamgopchnaaGreatDoorRa2x
import Derived.Test.YtfamfamgopchnaaGreatDoorEu
namespace Go.Proofs.YtfamfamgopchnaaGreatDoor
open Go.RowKit
set_option linter.unusedSimpArgs false
set_option linter.unusedVariables false
set_option linter.unusedSectionVars false
set_option maxHeartbeats 4000000
set_option maxRecDepth 100000
attribute [local irreducible] DW SeqD DV DOp DC DVX


/-- One round of the sum. -/
def fnvN (h : Int) (c : UInt8) : Int := IntKind.u64.wrap (IntKind.u64.wrap (BitVec.ofInt IntKind.u64.bits h ^^^ BitVec.ofInt IntKind.u64.bits (c.toNat : Int)).toNat * 1099511628211)
def fnvV (s : List UInt8) : Int := s.foldl fnvN 14695981039346656037
def bucketV (s : List UInt8) : Int := (fnvV s).tmod 8
theorem wrap_b (n : Int) : 0 ≤ IntKind.u64.wrap n ∧ IntKind.u64.wrap n ≤ 18446744073709551615 := by simp [IntKind.wrap, IntKind.bits, IntKind.signed]; omega
theorem fnvN_b (h : Int) (c : UInt8) : 0 ≤ fnvN h c ∧ fnvN h c ≤ 18446744073709551615 := wrap_b _
theorem fold_b : ∀ (s : List UInt8) (h : Int), 0 ≤ h ∧ h ≤ 18446744073709551615 → 0 ≤ s.foldl fnvN h ∧ s.foldl fnvN h ≤ 18446744073709551615
  | [], _, hh => hh
  | c :: s, h, _ => fold_b s _ (fnvN_b h c)
theorem fnv_b (s : List UInt8) : 0 ≤ fnvV s ∧ fnvV s ≤ 18446744073709551615 := fold_b s _ (by decide)
theorem fnv_snoc (s : List UInt8) (c : UInt8) : fnvV (s ++ [c]) = fnvN (fnvV s) c := by simp [fnvV]
theorem take_snoc (s : List UInt8) (k : Nat) (h : k < s.length) : s.take (k + 1) = s.take k ++ [s.getD k 0] := by
  rw [List.take_add_one]; simp [List.getD_eq_getElem?_getD, h]
theorem fnv_next (s : List UInt8) (k : Nat) (h : k < s.length) : fnvV (s.take (k + 1)) = fnvN (fnvV (s.take k)) (s.getD k 0) := by rw [take_snoc s k h, fnv_snoc]
theorem wrapU8 (b : UInt8) : IntKind.u64.wrap (b.toNat : Int) = (b.toNat : Int) := wrap_u64 _ (by omega) (by have := b.toNat_lt; omega)
theorem bucket_b (s : List UInt8) : 0 ≤ bucketV s ∧ bucketV s < 8 := ⟨Int.tmod_nonneg 8 (fnv_b s).1, Int.tmod_lt_of_pos _ (by decide)⟩
theorem byte_back (c : UInt8) : byteOf (.int .u8 (c.toNat : Int)) = c := byteOf_u8 c
theorem fnvUn (h : Int) (c : UInt8) : IntKind.u64.wrap (IntKind.u64.wrap (BitVec.ofInt IntKind.u64.bits h ^^^ BitVec.ofInt IntKind.u64.bits (c.toNat : Int)).toNat * 1099511628211) = fnvN h c := rfl
theorem fnv0 : fnvV [] = 14695981039346656037 := rfl
/-- Where two lists differ, as far as the k-th. -/
def differK (a b : List Int) (k : Nat) : List Int := ((List.range k).filter fun i => decide (a.length ≠ b.length) || a.getD i default != b.getD i default).map fun (i : Nat) => (i : Int)
theorem differ_more (a b : List Int) (k : Nat) : differK a b (k + 1) = differK a b k ++ if (decide (a.length ≠ b.length) || a.getD k default != b.getD k default) = true then [(k : Int)] else [] := by
  unfold differK
  rw [List.range_succ, List.filter_append, List.map_append]
  congr 1
  cases h : (decide (a.length ≠ b.length) || a.getD k default != b.getD k default) with
  | true => simp only [List.filter_cons, h, if_true, List.filter_nil, List.map_cons, List.map_nil]
  | false => simp only [List.filter_cons, h, List.filter_nil, Bool.false_eq_true, if_false, List.map_nil]
theorem differ_yes (a b : List Int) (k : Nat) (h : a.length ≠ b.length ∨ a.getD k default ≠ b.getD k default) : differK a b (k + 1) = differK a b k ++ [(k : Int)] := by
  rw [differ_more, if_pos]
  rw [Bool.or_eq_true]
  rcases h with h | h
  · exact .inl (decide_eq_true h)
  · exact .inr (bne_iff_ne.2 h)
theorem differ_no (a b : List Int) (k : Nat) (h : a.length = b.length) (h' : a.getD k default = b.getD k default) : differK a b (k + 1) = differK a b k := by
  rw [differ_more, if_neg, List.append_nil]
  rw [Bool.or_eq_true]
  rintro (h1 | h1)
  · exact of_decide_eq_true h1 h
  · exact bne_iff_ne.1 h1 h'
theorem differ_len (a b : List Int) (k : Nat) : (differK a b k).length ≤ k := by
  unfold differK; rw [List.length_map]; exact Nat.le_trans (List.length_filter_le _ _) (by simp)
def encI (x : Int) : V := .int .i64 x
def encU (x : Int) : V := .int .u64 x
/-- What ten empty builders hold. -/
abbrev z20 : List V := [.raw (.pointer none), .gs (.slice none 0 0) [], .raw (.pointer none), .gs (.slice none 0 0) [], .raw (.pointer none), .gs (.slice none 0 0) [], .raw (.pointer none), .gs (.slice none 0 0) [], .raw (.pointer none), .gs (.slice none 0 0) [], .raw (.pointer none), .gs (.slice none 0 0) [], .raw (.pointer none), .gs (.slice none 0 0) [], .raw (.pointer none), .gs (.slice none 0 0) [], .raw (.pointer none), .gs (.slice none 0 0) [], .raw (.pointer none), .gs (.slice none 0 0) []]
theorem z20_at (k : Nat) (h : k < 10) : z20.getD (k * 2 + 1) .any = .gs (.slice none 0 0) [] := by
  match k, h with
  | 0, _ => rfl
  | 1, _ => rfl
  | 2, _ => rfl
  | 3, _ => rfl
  | 4, _ => rfl
  | 5, _ => rfl
  | 6, _ => rfl
  | 7, _ => rfl
  | 8, _ => rfl
  | 9, _ => rfl
theorem z20_len : z20.length = 20 := rfl
theorem getD_drop' (l : List V) (n i : Nat) (d : V) : (l.drop n).getD i d = l.getD (n + i) d := by simp [List.getD_eq_getElem?_getD, List.getElem?_drop]
section
attribute [local push_cast 2000] u8 wrapU8
theorem fnv_dc (s : List UInt8) (F : Own) : (s.length ≤ 1000000000000) → DC Tryz.prog 53 [.str s] (([] : Own) ++ F) fun d G => d = .int .u64 (fnvV s) ∧ G = [] ++ F := by
  intro hA
  have hs := hA
  refine DC.bodyS (n_ := 19) (show Tryz.prog.funcs[53]? = some Tryz.f53 by kernel_rfl) rfl rfl (by rfl) ?_
  simp only [env0, List.cons_append, List.nil_append]
  have kw := ksIs [0, 2, 3, 4, 6, 7, 8]
  have ow := ownIs []
  repeat' (first
    | ((with_reducible refine DW.loopB 0 (X := Nat) (fun x => x ≤ s.length) (fun x => [(0, .str s), (3, .int .u64 (fnvV (s.take x))), (6, .int .i64 s.length), (7, .int .i64 x)]) (fun x => ([] : Own)) (fun x => s.length - x) (0) ?_ ?_ ?_); exact (Nat.zero_le _); (simp [Sub, get, keepL, fnv0] <;> fail); (try simp only [List.cons_append, List.nil_append]); refine pl_ ?_; intro k hk; (try simp only [List.cons_append, List.nil_append]))
    | refine g_ ?_
    | ((with_reducible refine And.intro ?_ ?_); (exact sv))
    | (refine DW.cond (by rfl) ?_ ?_ <;> (first | exact i0_ | (refine ic_ ?_; intro hb)))
    | ((with_reducible refine FVg_cases ?_ ?_) <;> (intro hb; rw [hb]; revert hb; (first | exact i0_ | (refine i_ ?_; intro hb))))
    | refine r_ ?_
    | refine k_ ?_
    | refine o_ ?_
    | refine f_ ?_
    | with_reducible intro b)
  all_goals first
  | (refine ⟨k + 1, ?_, ?_, ?_, ?_⟩; (((try simp only); omega)); (((try simp only); omega)); (simp [Sub, get, fnv_next s k (by omega), fnvN] <;> (fail)); (try dsimp only); (exact sub_))
  | ((first | exact fin_ | refine finq_ ?_); rw [List.take_of_length_le (by omega)])
end
end Go.Proofs.YtfamfamgopchnaaGreatDoor
/- Numbers and texts are laid down. -/
namespace Go.Proofs.YtfamfamgopchnaaGreatDoor
open Go.RowKit
set_option linter.unusedSimpArgs false
set_option linter.unusedVariables false
set_option linter.unusedSectionVars false
set_option maxHeartbeats 4000000
set_option maxRecDepth 100000
attribute [local irreducible] DW SeqD DV DOp DC DVX


/-- The lowest byte of a number; the number without it. -/
def byteI (x : Int) : UInt8 := UInt8.ofNat (x % 256).toNat
def shK : Nat → Int → Int
  | 0, x => x
  | k + 1, x => (shK k x).fdiv (2 ^ min 8 IntKind.u64.bits)
/-- A number's first k bytes, the lowest one first. -/
def leK (k : Nat) (x : Int) : List UInt8 := (List.range k).map fun i => byteI (shK i x)
theorem leK_0 (x : Int) : leK 0 x = [] := rfl
theorem leK_more (k : Nat) (x : Int) : leK (k + 1) x = leK k x ++ [byteI (shK k x)] := by simp [leK, List.range_succ]
theorem leK_len (k : Nat) (x : Int) : (leK k x).length = k := by simp [leK]
theorem u8_byteI (x : Int) : u8 (byteI x) = .int .u8 (IntKind.u8.wrap x) := by
  unfold u8 byteI
  congr 1
  simp [IntKind.wrap, IntKind.bits, IntKind.signed]
  omega
/-- Numbers, one behind another. -/
def numsL (l : List Int) : List UInt8 := (l.map fun x => leK 8 (IntKind.u64.wrap x)).flatten
theorem numsL_nil : numsL [] = [] := rfl
theorem numsL_snoc (l : List Int) (x : Int) : numsL (l ++ [x]) = numsL l ++ leK 8 (IntKind.u64.wrap x) := by simp [numsL]
theorem numsL_next (l : List Int) (k : Nat) (h : k < l.length) : numsL (l.take (k + 1)) = numsL (l.take k) ++ leK 8 (IntKind.u64.wrap (l.getD k default)) := by
  rw [List.take_add_one, ← numsL_snoc]; simp [List.getD_eq_getElem?_getD, h]
theorem numsL_len (l : List Int) : (numsL l).length = 8 * l.length := by
  induction l with
  | nil => rfl
  | cons x l ih => simp only [numsL, List.map_cons, List.flatten_cons, List.length_append, leK_len, List.length_cons] at ih ⊢; omega
theorem u64_nat (x : Int) (h : 0 ≤ x ∧ x ≤ 9223372036854775807) : IntKind.u64.wrap x = x := wrap_u64 _ h.1 (by omega)
theorem numsL_1 (x : Int) (h : 0 ≤ x ∧ x ≤ 9223372036854775807) : numsL [x] = leK 8 x := by simp [numsL, u64_nat x h]
theorem numsL_3 (x y z : Int) (h : (0 ≤ x ∧ x ≤ 9223372036854775807) ∧ (0 ≤ y ∧ y ≤ 9223372036854775807) ∧ (0 ≤ z ∧ z ≤ 9223372036854775807)) : numsL [x, y, z] = leK 8 x ++ (leK 8 y ++ leK 8 z) := by simp [numsL, u64_nat x h.1, u64_nat y h.2.1, u64_nat z h.2.2]
def encJ (x : Int) : V := .int .i64 x
theorem sv_number_dc {p : Prop} (h : p := by first | exact sv | (simp [u8, V.one]; omega) | (simp [u8, V.one] <;> fail) | fail) : p := h
section
attribute [local push_cast 2000] u8_byteI
theorem number_dc (v : Value) (l : List UInt8) (n : Int) (F : Own) : (l.length ≤ 1000000000000) → DC Tryz.prog 99 [.gs v (l.map u8), .int .u64 n] ([.tail 1 v] ++ F) fun d G => ∃ v1, d = .gs v1 ((l ++ leK 8 n).map u8) ∧ G = .tail 1 v1 :: F := by
  intro hA
  have hl := hA
  refine DC.bodyS (n_ := 16) (show Tryz.prog.funcs[99]? = some Tryz.f99 by kernel_rfl) rfl rfl (by rfl) ?_
  simp only [env0, List.cons_append, List.nil_append]
  have kw := ksIs [0, 1, 4, 5, 6]
  have ow := ownIs []
  repeat' (first
    | ((with_reducible refine DW.loopB 0 (X := Nat × Value) (fun x => x.1 ≤ 8) (fun x => [(0, .gs x.2 ((l ++ leK x.1 n).map u8)), (1, .int .u64 (shK x.1 n)), (5, .int .i64 x.1)]) (fun x => .tail 1 x.2 :: ([] : Own)) (fun x => 8 - x.1) ((0, v)) ?_ ?_ ?_); exact (Nat.zero_le _); (simp [Sub, get, keepL, leK_0, shK] <;> fail); (try simp only [List.cons_append, List.nil_append]); refine pl_ ?_; intro ⟨k, y⟩ hk; (try simp only [List.cons_append, List.nil_append]); have hkl := leK_len k n; simp only at hk)
    | refine g_ ?_
    | ((with_reducible refine And.intro ?_ ?_); (exact sv_number_dc))
    | (refine DW.cond (by rfl) ?_ ?_ <;> (first | exact i0_ | (refine ic_ ?_; intro hb)))
    | ((with_reducible refine FVg_cases ?_ ?_) <;> (intro hb; rw [hb]; revert hb; (first | exact i0_ | (refine i_ ?_; intro hb))))
    | refine r_ ?_
    | refine k_ ?_
    | refine o_ ?_
    | refine f_ ?_
    | with_reducible intro b)
  all_goals first
  | (refine ⟨(k + 1, b), ?_, ?_, ?_, ?_⟩; (((try simp only); omega)); (((try simp only); omega)); (simp [Sub, get, leK_more, shK, u8_byteI] <;> (fail)); (try dsimp only); (exact sub_); done)
  | (have hk : k = 8 := by omega
     subst hk
     refine ⟨_, _, le.rfl_, ⟨_, rfl, rfl⟩, ?_⟩; (exact sub_); done)
end
theorem sv_numbers_dc {p : Prop} (h : p := by first | exact sv | (simp [u8, V.one]; omega) | (simp [u8, V.one] <;> fail) | fail) : p := h
section
attribute [local push_cast 2000] encJ
theorem numbers_dc (v : Value) (l : List UInt8) (xs : List Int) (F : Own) : (l.length ≤ 999999999000 ∧ xs.length ≤ 100) → DC Tryz.prog 98 [.gs v (l.map u8), .sl (xs.map encJ)] ([.tail 1 v] ++ F) fun d G => ∃ v1, d = .gs v1 ((l ++ numsL xs).map u8) ∧ G = .tail 1 v1 :: F := by
  intro hA
  obtain ⟨hl, hx⟩ := hA
  refine DC.bodyS (n_ := 19) (show Tryz.prog.funcs[98]? = some Tryz.f98 by kernel_rfl) rfl rfl (by rfl) ?_
  simp only [env0, List.cons_append, List.nil_append]
  have kw := ksIs [0, 1, 4, 6, 7, 8, 9, 10]
  have ow := ownIs []
  repeat' (first
    | ((with_reducible refine DW.loopB 0 (X := Nat × Value) (fun x => x.1 ≤ xs.length) (fun x => [(0, .gs x.2 ((l ++ numsL (xs.take x.1)).map u8)), (7, .sl (xs.map encJ)), (8, .int .i64 xs.length), (9, .int .i64 x.1)]) (fun x => .tail 1 x.2 :: ([] : Own)) (fun x => xs.length - x.1) ((0, v)) ?_ ?_ ?_); exact (Nat.zero_le _); (simp [Sub, get, keepL, numsL_nil] <;> fail); (try simp only [List.cons_append, List.nil_append]); refine pl_ ?_; intro ⟨k, y⟩ hk; (try simp only [List.cons_append, List.nil_append]); have hkl := numsL_len (xs.take k); rw [List.length_take] at hkl; simp only at hk)
    | refine g_ ?_
    | ((with_reducible refine And.intro ?_ ?_); (exact sv_numbers_dc))
    | (refine DW.cond (by rfl) ?_ ?_ <;> (first | exact i0_ | (refine ic_ ?_; intro hb)))
    | ((with_reducible refine FVg_cases ?_ ?_) <;> (intro hb; rw [hb]; revert hb; (first | exact i0_ | (refine i_ ?_; intro hb))))
    | refine r_ ?_
    | refine k_ ?_
    | (refine p_ (number_dc _ _ _ _) ?_ (ha := by exact sv_numbers_dc); rintro d H1 ⟨v1, rfl, rfl⟩ <;> refine s_ ?_)
    | refine o_ ?_
    | refine f_ ?_
    | with_reducible intro b)
  all_goals first
  | (refine ⟨(k + 1, v1), ?_, ?_, ?_, ?_⟩; (((try simp only); omega)); (((try simp only); omega)); (simp [Sub, get, numsL_next xs k (by omega)] <;> (fail)); (try dsimp only); (exact sub_); done)
  | (have hk : k = xs.length := by omega
     subst hk
     rw [List.take_length]
     refine ⟨_, _, le.rfl_, ⟨_, rfl, rfl⟩, ?_⟩; (exact sub_); done)
end
theorem numbers1_dc (v : Value) (l : List UInt8) (x : Int) (F : Own) : (l.length ≤ 999999999000 ∧ 0 ≤ x ∧ x ≤ 9223372036854775807) → DC Tryz.prog 98 [.gs v (l.map u8), .sl [.int .i64 x]] ([.tail 1 v] ++ F) fun d G => ∃ v1, d = .gs v1 ((l ++ leK 8 x).map u8) ∧ G = .tail 1 v1 :: F := fun h => by
  have := numbers_dc v l [x] F ⟨h.1, by simp⟩
  rw [numsL_1 x h.2] at this
  exact this
theorem numbers3_dc (v : Value) (l : List UInt8) (x y z : Int) (F : Own) : (l.length ≤ 999999999000 ∧ (0 ≤ x ∧ x ≤ 9223372036854775807) ∧ (0 ≤ y ∧ y ≤ 9223372036854775807) ∧ (0 ≤ z ∧ z ≤ 9223372036854775807)) → DC Tryz.prog 98 [.gs v (l.map u8), .sl [.int .i64 x, .int .i64 y, .int .i64 z]] ([.tail 1 v] ++ F) fun d G => ∃ v1, d = .gs v1 ((l ++ (leK 8 x ++ (leK 8 y ++ leK 8 z))).map u8) ∧ G = .tail 1 v1 :: F := fun h => by
  have := numbers_dc v l [x, y, z] F ⟨h.1, by simp⟩
  rw [numsL_3 x y z h.2] at this
  exact this
theorem sv_text_dc {p : Prop} (h : p := by first | exact sv | (simp [u8, V.one]; omega) | (simp [u8, V.one] <;> fail) | fail) : p := h
section
attribute [local push_cast 2000] leK_len
theorem text_dc (v : Value) (l t : List UInt8) (F : Own) : (l.length ≤ 999999999000 ∧ t.length ≤ 1000000000000) → DC Tryz.prog 102 [.gs v (l.map u8), .str t] ([.tail 1 v] ++ F) fun d G => ∃ v1, d = .gs v1 ((l ++ (leK 8 t.length ++ t)).map u8) ∧ G = .tail 1 v1 :: F := by
  intro hA
  obtain ⟨hl, ht⟩ := hA
  refine DC.bodyS (n_ := 12) (show Tryz.prog.funcs[102]? = some Tryz.f102 by kernel_rfl) rfl rfl (by rfl) ?_
  simp only [env0, List.cons_append, List.nil_append]
  have kw := ksIs [0, 1, 4]
  have ow := ownIs []
  repeat' (first
    | refine g_ ?_
    | ((with_reducible refine And.intro ?_ ?_); (exact sv_text_dc))
    | (refine DW.cond (by rfl) ?_ ?_ <;> (first | exact i0_ | (refine ic_ ?_; intro hb)))
    | ((with_reducible refine FVg_cases ?_ ?_) <;> (intro hb; rw [hb]; revert hb; (first | exact i0_ | (refine i_ ?_; intro hb))))
    | refine r_ ?_
    | refine k_ ?_
    | (refine p_ (numbers1_dc _ _ _ _) ?_ (ha := by exact sv_text_dc); rintro d H1 ⟨v1, rfl, rfl⟩ <;> refine s_ ?_)
    | refine o_ ?_
    | refine f_ ?_
    | with_reducible intro b)
  all_goals first
  | (refine ⟨_, _, le.of_eq ?_, ⟨b, rfl, rfl⟩, SubP.refl⟩; simp)
end
end Go.Proofs.YtfamfamgopchnaaGreatDoor
/- What the walk of a story's tables asks. No statement of the program. -/
namespace Go.Proofs.YtfamfamgopchnaaGreatDoor
open Go.RowKit
set_option linter.unusedSimpArgs false
set_option linter.unusedVariables false
set_option linter.unusedSectionVars false

theorem deed_dflt : deedOk default := ⟨by decide, by decide, by decide, by decide⟩
theorem deed_at {l : List TDeed} (h : ∀ d ∈ l, deedOk d) (k : Nat) : deedOk (l.getD k default) := by
  by_cases hk : k < l.length
  · exact h _ (getD_mem hk)
  · rw [List.getD_eq_getElem?_getD, List.getElem?_eq_none (by omega)]; exact deed_dflt
theorem filterM_len (k : Int) : (filterM k).length ≤ 1000000000 := by
  unfold filterM
  have key : ∀ n, (filterL.getD n default).length ≤ 1000000000 := by
    intro n
    by_cases h : n < filterL.length
    · have := getD_mem h
      have key : ∀ f ∈ filterL, f.length ≤ 1000000000 := by decide
      exact key _ this
    · rw [List.getD_eq_getElem?_getD, List.getElem?_eq_none (by omega)]; exact Nat.zero_le _
  exact key _
theorem topicM_len (k : Int) : (topicM k).length ≤ 1000000000 := by
  unfold topicM
  have key : ∀ n, (topicL.getD n default).length ≤ 1000000000 := by
    intro n
    by_cases h : n < topicL.length
    · have := getD_mem h
      have key : ∀ f ∈ topicL, f.length ≤ 1000000000 := by decide
      exact key _ this
    · rw [List.getD_eq_getElem?_getD, List.getElem?_eq_none (by omega)]; exact Nat.zero_le _
  exact key _
theorem Story.lite {i : Nat} {s : TSt} (h : Story i s) (hi : i ≤ 20) {n : Int} (hn : 0 ≤ n ∧ n < 3) : Lite 3072 (s.ts.getD n.toNat default) := by
  obtain ⟨t1, t2, _⟩ := h.tab hn
  exact story_lite hi t1 t2
theorem Story.top {i : Nat} {s : TSt} (h : Story i s) (hi : i ≤ 20) {n : Int} (hn : 0 ≤ n ∧ n < 3) (m e : Int) : -1000000000000 ≤ topM (s.ts.getD n.toNat default).seen m e ∧ topM (s.ts.getD n.toNat default).seen m e ≤ 1000000000000 := by
  obtain ⟨t1, t2, _⟩ := h.tab hn
  have := top_le t1.seen (fun d hd => (t2.s d hd).2.2.2) m e
  exact ⟨by have := this.1; show _ ≤ topM (tabT s n).seen m e; omega, by have := this.2; show topM (tabT s n).seen m e ≤ _; omega⟩
theorem Story.pAdd {i : Nat} {s : TSt} (h : Story i s) (hi : i ≤ 20) {n : Int} (hn : 0 ≤ n ∧ n < 3) (m e k : Int) : Lite 1000000000 (s.ts.getD n.toNat default) ∧ (filterM k).length ≤ 1000000000 ∧ -1000000000000 ≤ topM (s.ts.getD n.toNat default).seen m e ∧ topM (s.ts.getD n.toNat default).seen m e ≤ 1000000000000 :=
  ⟨(h.lite hi hn).mono (by decide), filterM_len k, (h.top hi hn m e).1, (h.top hi hn m e).2⟩
theorem Story.pDrop {i : Nat} {s : TSt} (h : Story i s) (hi : i ≤ 20) {n : Int} (hn : 0 ≤ n ∧ n < 3) (m e : Int) : Lite 1000000000 (s.ts.getD n.toNat default) ∧ -1000000000000 ≤ topM (s.ts.getD n.toNat default).seen m e ∧ topM (s.ts.getD n.toNat default).seen m e ≤ 1000000000000 :=
  ⟨(h.lite hi hn).mono (by decide), (h.top hi hn m e).1, (h.top hi hn m e).2⟩
theorem Story.pPut {i : Nat} {s : TSt} (h : Story i s) (hi : i ≤ 20) {n : Int} (hn : 0 ≤ n ∧ n < 3) (m e k : Int) {x : Str} (hx : x.length ≤ 30) : Lite 1000000000 (s.ts.getD n.toNat default) ∧ ((topicM k).length ≤ 1000000000 ∧ x.length ≤ 1000000000) ∧ -1000000000000 ≤ topM (s.ts.getD n.toNat default).seen m e ∧ topM (s.ts.getD n.toNat default).seen m e ≤ 1000000000000 :=
  ⟨(h.lite hi hn).mono (by decide), ⟨topicM_len k, Nat.le_trans hx (by decide)⟩, (h.top hi hn m e).1, (h.top hi hn m e).2⟩
theorem Story.pFence {i : Nat} {s : TSt} (h : Story i s) (hi : i ≤ 20) {n : Int} (hn : 0 ≤ n ∧ n < 3) : Lite 100000000 (s.ts.getD n.toNat default) := (h.lite hi hn).mono (by decide)
theorem Story.pMerge {i : Nat} {s : TSt} (h : Story i s) (hi : i ≤ 20) {n m : Int} (hn : 0 ≤ n ∧ n < 3) (hm : 0 ≤ m ∧ m < 3) : Lite 4000000 (s.ts.getD n.toNat default) ∧ Lite 4000000 (s.ts.getD m.toNat default) := ⟨(h.lite hi hn).mono (by decide), (h.lite hi hm).mono (by decide)⟩
theorem add_fe (t : TTable) (n e : Int) (f : Str) : (routeAddM t n e f).fences = t.fences := by unfold routeAddM; split <;> rfl
theorem drop_fe (t : TTable) (n e : Int) (f : Str) : (routeDropM t n e f).fences = t.fences := by unfold routeDropM; split <;> rfl
theorem put_fe (t : TTable) (n e : Int) (s : TStamp) (m1 m2 : Str) (m3 : Int) : (cellPutM t n e s m1 m2 m3).fences = t.fences := by unfold cellPutM; split <;> rfl
theorem Story.f1 {i : Nat} {s : TSt} (h : Story i s) (hi : i ≤ 20) {n : Int} (hn : 0 ≤ n ∧ n < 3) : (s.ts.getD n.toNat default).fences.length ≤ 1000000000 := Nat.le_trans (h.lite hi hn).f (by decide)
theorem Story.f2 {i : Nat} {s : TSt} (h : Story i s) (hi : i ≤ 20) {n : Int} (hn : 0 ≤ n ∧ n < 3) (m e : Int) (f : Str) : (routeAddM (s.ts.getD n.toNat default) m e f).fences.length ≤ 1000000000 := by rw [add_fe]; exact h.f1 hi hn
theorem Story.f3 {i : Nat} {s : TSt} (h : Story i s) (hi : i ≤ 20) {n : Int} (hn : 0 ≤ n ∧ n < 3) (m e : Int) (f : Str) : (routeDropM (s.ts.getD n.toNat default) m e f).fences.length ≤ 1000000000 := by rw [drop_fe]; exact h.f1 hi hn
theorem Story.f4 {i : Nat} {s : TSt} (h : Story i s) (hi : i ≤ 20) {n : Int} (hn : 0 ≤ n ∧ n < 3) (m e : Int) (a : TStamp) (m1 m2 : Str) (m3 : Int) : (cellPutM (s.ts.getD n.toNat default) m e a m1 m2 m3).fences.length ≤ 1000000000 := by rw [put_fe]; exact h.f1 hi hn
theorem Story.f5 {i : Nat} {s : TSt} (h : Story i s) (hi : i ≤ 20) {n : Int} (hn : 0 ≤ n ∧ n < 3) (m e : Int) : (fenceM (s.ts.getD n.toNat default) m e).fences.length ≤ 1000000000 := by
  have h1 := (fenceM_facts (s.ts.getD n.toNat default) m e).2.2.1
  have h2 := (h.lite hi hn).f
  omega
theorem Story.f6 {i : Nat} {s : TSt} (h : Story i s) (hi : i ≤ 20) {n m : Int} (hn : 0 ≤ n ∧ n < 3) (hm : 0 ≤ m ∧ m < 3) : (mergeM (s.ts.getD n.toNat default) (s.ts.getD m.toNat default)).fences.length ≤ 1000000000 :=
  Nat.le_trans (merge_lite (h.lite hi hn) (h.lite hi hm)).f (by decide)
/-! A round of the story. -/
theorem step_of {s : TSt} {d : TDeed} {t : TTable} (h : actT s d (s.at_ + d.k.tmod 3) = t) : stepT s d = ⟨s.ts.set (d.who.tmod 3).toNat t, if fencedL t.fences (d.who.tmod 3) (s.es.getD (d.who.tmod 3).toNat default) = true then s.es.set (d.who.tmod 3).toNat (s.es.getD (d.who.tmod 3).toNat default + 1) else s.es, s.at_ + d.k.tmod 3⟩ := by
  rw [stepT, h]; rfl
theorem step_y {s : TSt} {d : TDeed} {t : TTable} (h : actT s d (s.at_ + d.k.tmod 3) = t) (hf : fencedL t.fences (d.who.tmod 3) (s.es.getD (d.who.tmod 3).toNat default) = true) : stepT s d = ⟨s.ts.set (d.who.tmod 3).toNat t, s.es.set (d.who.tmod 3).toNat (s.es.getD (d.who.tmod 3).toNat default + 1), s.at_ + d.k.tmod 3⟩ := by
  rw [step_of h, if_pos hf]
theorem step_n {s : TSt} {d : TDeed} {t : TTable} (h : actT s d (s.at_ + d.k.tmod 3) = t) (hf : fencedL t.fences (d.who.tmod 3) (s.es.getD (d.who.tmod 3).toNat default) = false) : stepT s d = ⟨s.ts.set (d.who.tmod 3).toNat t, s.es, s.at_ + d.k.tmod 3⟩ := by
  rw [step_of h, if_neg (by rw [hf]; simp)]
theorem act_1 {s : TSt} {d : TDeed} {a : Int} (h : d.what.tmod 8 = 0 ∨ d.what.tmod 8 = 1) : actT s d a = routeAddM (s.ts.getD (d.who.tmod 3).toNat default) (d.who.tmod 3) (s.es.getD (d.who.tmod 3).toNat default) (filterM d.k) := by rw [actT, if_pos h]; rfl
theorem act_2 {s : TSt} {d : TDeed} {a : Int} (h : d.what.tmod 8 = 2) : actT s d a = routeDropM (s.ts.getD (d.who.tmod 3).toNat default) (d.who.tmod 3) (s.es.getD (d.who.tmod 3).toNat default) (filterM d.k) := by rw [actT, if_neg (by omega), if_pos h]; rfl
theorem act_3 {s : TSt} {d : TDeed} {a : Int} (h : d.what.tmod 8 = 3 ∨ d.what.tmod 8 = 4) : actT s d a = cellPutM (s.ts.getD (d.who.tmod 3).toNat default) (d.who.tmod 3) (s.es.getD (d.who.tmod 3).toNat default) ⟨a, d.k.tmod 2, d.who.tmod 3⟩ (topicM d.k) d.x (d.k.tmod 3) := by rw [actT, if_neg (by omega), if_neg (by omega), if_pos h]; rfl
theorem act_5 {s : TSt} {d : TDeed} {a : Int} (h : d.what.tmod 8 = 5) (h4 : d.k.tmod 4 = 0) : actT s d a = fenceM (s.ts.getD (d.who.tmod 3).toNat default) ((d.k.tdiv 4).tmod 3) (s.es.getD ((d.k.tdiv 4).tmod 3).toNat default) := by rw [actT, if_neg (by omega), if_neg (by omega), if_neg (by omega), if_pos h, if_pos h4]; rfl
theorem act_0 {s : TSt} {d : TDeed} {a : Int} (h : d.what.tmod 8 = 5) (h4 : ¬ d.k.tmod 4 = 0) : actT s d a = s.ts.getD (d.who.tmod 3).toNat default := by rw [actT, if_neg (by omega), if_neg (by omega), if_neg (by omega), if_pos h, if_neg h4]; rfl
theorem act_6 {s : TSt} {d : TDeed} {a : Int} (h : 5 < d.what.tmod 8) : actT s d a = mergeM (s.ts.getD (d.who.tmod 3).toNat default) (s.ts.getD (d.k.tmod 3).toNat default) := by rw [actT, if_neg (by omega), if_neg (by omega), if_neg (by omega), if_neg (by omega)]; rfl
theorem set_same {α : Type} [Inhabited α] {l : List α} {k : Nat} (h : k < l.length) : l.set k (l.getD k default) = l := by
  rw [getD_get l k h, List.set_getElem_self]
theorem getD_set_same {α : Type} [Inhabited α] {l : List α} {k : Nat} {x : α} (h : k < l.length) : (l.set k x).getD k default = x := by
  rw [List.getD_eq_getElem?_getD, List.getElem?_set_self h]; rfl
/-! Cells of tables, of epochs. -/
theorem cells_flt {α : Type} (f : α → V) : ∀ l : List α, cells (l.map f) = flt (fun a => (f a).cs) l
  | [] => rfl
  | x :: l => by
    rw [List.map_cons, cells_cons, cells_flt f l]; rfl
theorem cells_tlen (ts : List TTable) : (cells (ts.map encTable)).length = ts.length * 4 := by rw [cells_len (sz := 4) _ (by intro y hy; obtain ⟨x, _, rfl⟩ := List.mem_map.1 hy; rfl), List.length_map]
theorem cells_tab {ts : List TTable} {k : Nat} (h : k < ts.length) : List.take 4 (List.drop (k * 4) (cells (ts.map encTable))) = [.sl ((ts.getD k default).seen.map encDot), .sl ((ts.getD k default).fences.map encFence), .sl ((ts.getD k default).routes.map encRoute), .sl ((ts.getD k default).cells.map encCell)] := by
  rw [cells_flt]
  exact flt_row (n := 4) (g := fun a => (encTable a).cs) (fun _ => rfl) ts k h
theorem cells_tset {ts : List TTable} {k : Nat} {x : TTable} (h : k < ts.length) : layV (cells (ts.map encTable)) (k * 4) [.sl (x.seen.map encDot), .sl (x.fences.map encFence), .sl (x.routes.map encRoute), .sl (x.cells.map encCell)] = cells ((ts.set k x).map encTable) := by
  rw [cells_flt, cells_flt]
  exact flt_set (n := 4) (g := fun a => (encTable a).cs) (fun _ => rfl) ts k x h
theorem ints_at {es : List Int} {k : Nat} (h : k < es.length) : (es.map encJ).getD k .any = .int .i64 (es.getD k default) := by
  rw [List.getD_eq_getElem?_getD, List.getElem?_map]
  simp [h, encJ]
theorem ints_drop {es : List Int} {k : Nat} (h : k < es.length) : (List.drop k (es.map encJ)).getD 0 .any = .int .i64 (es.getD k default) := by
  rw [dropD, Nat.add_zero, ints_at h]
theorem ints_set : ∀ {es : List Int} {k : Nat} {x : Int}, k < es.length → layV (es.map encJ) k [.int .i64 x] = (es.set k x).map encJ
  | [], k, x, h => absurd h (Nat.not_lt_zero _)
  | e :: es, 0, x, _ => rfl
  | e :: es, k + 1, x, h => by
    rw [List.map_cons, lay_cons, ints_set (by simpa using h)]; rfl
theorem ints_len (es : List Int) : (es.map encJ).length = es.length := List.length_map _
def tabG (s : TSt) : List V := cells (s.ts.map encTable)
def epsG (s : TSt) : List V := s.es.map encJ
theorem tabG_0 : tabG startT = [.sl [], .sl [], .sl [], .sl [], .sl [], .sl [], .sl [], .sl [], .sl [], .sl [], .sl [], .sl []] := rfl
theorem epsG_0 : epsG startT = [.int .i64 1, .int .i64 1, .int .i64 1] := rfl
end Go.Proofs.YtfamfamgopchnaaGreatDoor
/- Topics, filters of numbers. -/
namespace Go.Proofs.YtfamfamgopchnaaGreatDoor
open Go.RowKit
set_option linter.unusedSimpArgs false
set_option linter.unusedVariables false
set_option linter.unusedSectionVars false
set_option maxHeartbeats 4000000
set_option maxRecDepth 100000
attribute [local irreducible] DW SeqD DV DOp DC DVX

theorem s_topic_dc {P Q : Prop} (q : Q) (h : Hid Q → P := by (intro q; simp (maxSteps := 1000000) (disch := omega) only [push_cast, ↓reduceIte, reduceCtorEq, Nat.reduceAdd, Nat.reduceMul, Nat.reduceLT, Nat.reduceLeDiff, Nat.reduceEqDiff, Nat.reduceSub, Int.reduceToNat, Int.reduceLT, Int.reduceLE, Int.reduceAdd, Int.reduceSub, Int.reduceMul, Int.reduceNeg, Nat.reduceBEq, Int.reduceBEq, Int.reduceBNe, Nat.reduceBNe, Int.reduceEq, hkm]; exact q.1)) : P := h ⟨q⟩
theorem topic_dc (k : Int) (F : Own) : (0 ≤ k ∧ k ≤ 255) → DC Tryz.prog 35 [.int .u8 k] (([] : Own) ++ F) fun d G => d = .str (topicM k) ∧ G = [] ++ F := by
  intro hA
  obtain ⟨h0, h1⟩ := hA
  refine DC.bodyS (n_ := 8) (show Tryz.prog.funcs[35]? = some Tryz.f35 by kernel_rfl) rfl rfl (by rfl) ?_
  simp only [env0, List.cons_append, List.nil_append]
  have kw := ksIs [0, 2]
  have ow := ownIs []
  have q0 := Int.tmod_nonneg 7 h0; have q1 := Int.tmod_lt_of_pos k (show (0 : Int) < 7 by decide)
  rcases (show k.tmod 7 = 0 ∨ k.tmod 7 = 1 ∨ k.tmod 7 = 2 ∨ k.tmod 7 = 3 ∨ k.tmod 7 = 4 ∨ k.tmod 7 = 5 ∨ k.tmod 7 = 6 by omega) with hkm | hkm | hkm | hkm | hkm | hkm | hkm
  repeat' (first
    | refine g_ ?_
    | ((with_reducible refine And.intro ?_ ?_); (exact sv))
    | (refine DW.cond (by rfl) ?_ ?_ <;> (first | exact i0_ | (intro hb; (try simp only [↓reduceCtorEq, not_true_eq_false, not_false_eq_true, hbs, Int.reduceBEq, Int.reduceBNe, Int.reduceEq] at hb); (try refine s_topic_dc ?_))))
    | ((with_reducible refine FVg_cases ?_ ?_) <;> (intro hb; rw [hb]; revert hb; (first | exact i0_ | (intro hb; (try simp only [↓reduceCtorEq, not_true_eq_false, not_false_eq_true, hbs, Int.reduceBEq, Int.reduceBNe, Int.reduceEq] at hb); (try refine s_topic_dc ?_)))))
    | ((first | refine rn_ ?_ | refine kn_ ?_) <;> (refine s_topic_dc ?_))
    | ((refine on_ ?_); refine s_topic_dc ?_)
    | refine f_ ?_
    | with_reducible intro b)
  all_goals (refine ⟨_, _, le.of_eq ?_, ⟨rfl, rfl⟩, SubP.refl⟩; rw [topicM, hkm]; rfl)
theorem s_filter_dc {P Q : Prop} (q : Q) (h : Hid Q → P := by (intro q; simp (maxSteps := 1000000) (disch := omega) only [push_cast, ↓reduceIte, reduceCtorEq, Nat.reduceAdd, Nat.reduceMul, Nat.reduceLT, Nat.reduceLeDiff, Nat.reduceEqDiff, Nat.reduceSub, Int.reduceToNat, Int.reduceLT, Int.reduceLE, Int.reduceAdd, Int.reduceSub, Int.reduceMul, Int.reduceNeg, Nat.reduceBEq, Int.reduceBEq, Int.reduceBNe, Nat.reduceBNe, Int.reduceEq, hkm]; exact q.1)) : P := h ⟨q⟩
theorem filter_dc (k : Int) (F : Own) : (0 ≤ k ∧ k ≤ 255) → DC Tryz.prog 18 [.int .u8 k] (([] : Own) ++ F) fun d G => d = .str (filterM k) ∧ G = [] ++ F := by
  intro hA
  obtain ⟨h0, h1⟩ := hA
  refine DC.bodyS (n_ := 8) (show Tryz.prog.funcs[18]? = some Tryz.f18 by kernel_rfl) rfl rfl (by rfl) ?_
  simp only [env0, List.cons_append, List.nil_append]
  have kw := ksIs [0, 2]
  have ow := ownIs []
  have q0 := Int.tmod_nonneg 10 h0; have q1 := Int.tmod_lt_of_pos k (show (0 : Int) < 10 by decide)
  rcases (show k.tmod 10 = 0 ∨ k.tmod 10 = 1 ∨ k.tmod 10 = 2 ∨ k.tmod 10 = 3 ∨ k.tmod 10 = 4 ∨ k.tmod 10 = 5 ∨ k.tmod 10 = 6 ∨ k.tmod 10 = 7 ∨ k.tmod 10 = 8 ∨ k.tmod 10 = 9 by omega) with hkm | hkm | hkm | hkm | hkm | hkm | hkm | hkm | hkm | hkm
  repeat' (first
    | refine g_ ?_
    | ((with_reducible refine And.intro ?_ ?_); (exact sv))
    | (refine DW.cond (by rfl) ?_ ?_ <;> (first | exact i0_ | (intro hb; (try simp only [↓reduceCtorEq, not_true_eq_false, not_false_eq_true, hbs, Int.reduceBEq, Int.reduceBNe, Int.reduceEq] at hb); (try refine s_filter_dc ?_))))
    | ((with_reducible refine FVg_cases ?_ ?_) <;> (intro hb; rw [hb]; revert hb; (first | exact i0_ | (intro hb; (try simp only [↓reduceCtorEq, not_true_eq_false, not_false_eq_true, hbs, Int.reduceBEq, Int.reduceBNe, Int.reduceEq] at hb); (try refine s_filter_dc ?_)))))
    | ((first | refine rn_ ?_ | refine kn_ ?_) <;> (refine s_filter_dc ?_))
    | ((refine on_ ?_); refine s_filter_dc ?_)
    | refine f_ ?_
    | with_reducible intro b)
  all_goals (refine ⟨_, _, le.of_eq ?_, ⟨rfl, rfl⟩, SubP.refl⟩; rw [filterM, hkm]; rfl)
end Go.Proofs.YtfamfamgopchnaaGreatDoor
