/- Sums of texts, buckets, where two lists differ. -/
import Derived.Test.YtfmjboanoojhcaaGreatDoorEn
import Derived.KernelRfl
import Derived.Test.YtfmjboanoojhcaaGreatDoorRf1
namespace Go.Proofs.YtfmjboanoojhcaaGreatDoor
open Go.RowKit
set_option linter.unusedSimpArgs false
set_option linter.unusedVariables false
set_option linter.unusedSectionVars false
set_option maxHeartbeats 4000000
set_option maxRecDepth 100000
attribute [local irreducible] DW SeqD DV DOp DC DVX


/-- One round of the sum. -/
def fnvN (h : Int) (c : UInt8) : Int := IntKind.u64.wrap (IntKind.u64.wrap (BitVec.ofInt IntKind.u64.bits h ^^^ BitVec.ofInt IntKind.u64.bits (c.toNat : Int)).toNat * 1099511628211)
def fnvV (s : List UInt8) : Int := s.foldl fnvN 14695981039346656037
def bucketV (s : List UInt8) : Int := (fnvV s).tmod 8
theorem wrap_b (n : Int) : 0 ≤ IntKind.u64.wrap n ∧ IntKind.u64.wrap n ≤ 18446744073709551615 := by simp [IntKind.wrap, IntKind.bits, IntKind.signed]; omega
theorem fnvN_b (h : Int) (c : UInt8) : 0 ≤ fnvN h c ∧ fnvN h c ≤ 18446744073709551615 := wrap_b _
theorem fold_b : ∀ (s : List UInt8) (h : Int), 0 ≤ h ∧ h ≤ 18446744073709551615 → 0 ≤ s.foldl fnvN h ∧ s.foldl fnvN h ≤ 18446744073709551615
  | [], _, hh => hh
  | c :: s, h, _ => fold_b s _ (fnvN_b h c)
theorem fnv_b (s : List UInt8) : 0 ≤ fnvV s ∧ fnvV s ≤ 18446744073709551615 := fold_b s _ (by decide)
theorem fnv_snoc (s : List UInt8) (c : UInt8) : fnvV (s ++ [c]) = fnvN (fnvV s) c := by simp [fnvV]
theorem take_snoc (s : List UInt8) (k : Nat) (h : k < s.length) : s.take (k + 1) = s.take k ++ [s.getD k 0] := by
  rw [List.take_add_one]; simp [List.getD_eq_getElem?_getD, h]
theorem fnv_next (s : List UInt8) (k : Nat) (h : k < s.length) : fnvV (s.take (k + 1)) = fnvN (fnvV (s.take k)) (s.getD k 0) := by rw [take_snoc s k h, fnv_snoc]
theorem wrapU8 (b : UInt8) : IntKind.u64.wrap (b.toNat : Int) = (b.toNat : Int) := wrap_u64 _ (by omega) (by have := b.toNat_lt; omega)
theorem bucket_b (s : List UInt8) : 0 ≤ bucketV s ∧ bucketV s < 8 := ⟨Int.tmod_nonneg 8 (fnv_b s).1, Int.tmod_lt_of_pos _ (by decide)⟩
theorem fnv0 : fnvV [] = 14695981039346656037 := rfl
/-- Where two lists differ, as far as the k-th. -/
def differK (a b : List Int) (k : Nat) : List Int := ((List.range k).filter fun i => decide (a.length ≠ b.length) || a.getD i default != b.getD i default).map fun (i : Nat) => (i : Int)
def encI (x : Int) : V := .int .i64 x
def encU (x : Int) : V := .int .u64 x
/-- What ten empty builders hold. -/
abbrev z20 : List V := [.raw (.pointer none), .gs (.slice none 0 0) [], .raw (.pointer none), .gs (.slice none 0 0) [], .raw (.pointer none), .gs (.slice none 0 0) [], .raw (.pointer none), .gs (.slice none 0 0) [], .raw (.pointer none), .gs (.slice none 0 0) [], .raw (.pointer none), .gs (.slice none 0 0) [], .raw (.pointer none), .gs (.slice none 0 0) [], .raw (.pointer none), .gs (.slice none 0 0) [], .raw (.pointer none), .gs (.slice none 0 0) [], .raw (.pointer none), .gs (.slice none 0 0) []]
section
attribute [local push_cast 2000] u8 wrapU8
theorem fnv_dc (s : List UInt8) (F : Own) : (s.length ≤ 1000000000000) → DC Tryz.prog 56 [.str s] (([] : Own) ++ F) fun d G => d = .int .u64 (fnvV s) ∧ G = [] ++ F := by
  intro hA
  have hs := hA
  refine DC.bodyS (n_ := 19) (show Tryz.prog.funcs[56]? = some Tryz.f56 by kernel_rfl) rfl rfl (by rfl) ?_
  simp only [env0, List.cons_append, List.nil_append]
  have kw := ksIs [0, 2, 3, 4, 6, 7, 8]
  have ow := ownIs []
  repeat' (first
    | ((with_reducible refine DW.loopB 0 (X := Nat) (fun x => x ≤ s.length) (fun x => [(0, .str s), (3, .int .u64 (fnvV (s.take x))), (6, .int .i64 s.length), (7, .int .i64 x)]) (fun x => ([] : Own)) (fun x => s.length - x) (0) ?_ ?_ ?_); exact (Nat.zero_le _); (simp [Sub, get, keepL, fnv0] <;> fail); (try simp only [List.cons_append, List.nil_append]); refine pl_ ?_; intro k hk; (try simp only [List.cons_append, List.nil_append]))
    | refine g_ ?_
    | ((with_reducible refine And.intro ?_ ?_); (exact sv))
    | (refine DW.cond (by rfl) ?_ ?_ <;> (first | exact i0_ | (refine ic_ ?_; intro hb)))
    | ((with_reducible refine FVg_cases ?_ ?_) <;> (intro hb; rw [hb]; revert hb; (first | exact i0_ | (refine i_ ?_; intro hb))))
    | refine r_ ?_
    | refine k_ ?_
    | refine o_ ?_
    | refine f_ ?_
    | with_reducible intro b)
  all_goals first
  | (refine ⟨k + 1, ?_, ?_, ?_, ?_⟩; (((try simp only); omega)); (((try simp only); omega)); (simp [Sub, get, fnv_next s k (by omega), fnvN] <;> (fail)); (try dsimp only); (exact sub_))
  | ((first | exact fin_ | refine finq_ ?_); rw [List.take_of_length_le (by omega)])
end
section
attribute [local push_cast 2000] encU encI
end
end Go.Proofs.YtfmjboanoojhcaaGreatDoor
/- Which bytes are texts: from rune to rune. -/
namespace Go.Proofs.YtfmjboanoojhcaaGreatDoor
open Go.RowKit
set_option linter.unusedSimpArgs false
set_option linter.unusedVariables false
set_option linter.unusedSectionVars false
set_option maxHeartbeats 4000000
set_option maxRecDepth 100000
attribute [local irreducible] DW SeqD DV DOp DC DVX


def chkF : Nat → Str → Bool
  | 0, _ => true
  | f + 1, l => if l.length = 0 then true else (stepM l).2.2 && (stepM l).1 != 0 && chkF f (l.drop (stepM l).2.1.toNat)
def chkB (l : Str) : Bool := chkF l.length l
theorem chkF_nil : ∀ f, chkF f [] = true
  | 0 => rfl
  | f + 1 => by unfold chkF; simp
theorem chkF_more (f : Nat) {l : Str} (h : l.length ≠ 0) : chkF (f + 1) l = ((stepM l).2.2 && (stepM l).1 != 0 && chkF f (l.drop (stepM l).2.1.toNat)) := by
  conv => lhs; unfold chkF
  rw [if_neg h]
theorem dropM1 (n : Nat) (l : Str) : List.drop n (List.map u8 l) = List.map u8 (List.drop n l) := List.map_drop.symm
theorem takeM1 (n : Nat) (l : Str) : List.take n (List.map u8 l) = List.map u8 (List.take n l) := List.map_take.symm
theorem takeL1 (l : Str) : List.take l.length l = l := List.take_length
theorem chk_bad {l : Str} {f k : Nat} (hk : k < l.length) (hf : l.length - k ≤ f) (h : (stepM (l.drop k)).2.2 = false ∨ (stepM (l.drop k)).1 = 0) : chkF f (l.drop k) = false := by
  obtain ⟨g, rfl⟩ : ∃ g, f = g + 1 := ⟨f - 1, by omega⟩
  rw [chkF_more g (by rw [List.length_drop]; omega)]
  rcases h with h | h <;> rw [h] <;> simp
theorem chk_go {l : Str} {f k : Nat} (hk : k < l.length) (hf : l.length - k ≤ f) (h1 : (stepM (l.drop k)).2.2 = true) (h2 : ¬ (stepM (l.drop k)).1 = 0) : ∃ m g : Nat, ((stepM (l.drop k)).2.1 = (m : Int)) ∧ 1 ≤ m ∧ k + m ≤ l.length ∧ l.length - (k + m) ≤ g ∧ chkF f (l.drop k) = chkF g (l.drop (k + m)) := by
  obtain ⟨g, rfl⟩ : ∃ g, f = g + 1 := ⟨f - 1, by omega⟩
  have hne : l.drop k ≠ [] := fun e => by have := congrArg List.length e; rw [List.length_drop] at this; simp at this; omega
  obtain ⟨a1, a2⟩ := stepM_ok hne h1
  rw [List.length_drop] at a2
  refine ⟨(stepM (l.drop k)).2.1.toNat, g, by omega, by omega, by omega, by omega, ?_⟩
  rw [chkF_more g (by rw [List.length_drop]; omega), h1, List.drop_drop]
  have : ((stepM (l.drop k)).1 != 0) = true := by simpa using h2
  rw [this]
  rfl
theorem sv_check_dc {p : Prop} (h : p := by first | exact sv | (simp [u8]; omega) | (simp [u8] <;> omega) | (simp only [List.length_drop]; omega) | fail) : p := h
section
attribute [local push_cast 2000] dropM1 takeM1 takeL1 List.length_drop
theorem check_dc (l : Str) (F : Own) : (l.length ≤ 1000000000) → DC Tryz.prog 184 [.sl (l.map u8)] (([] : Own) ++ F) fun d G => ∃ i : Int, d = .int .i64 i ∧ decide (i < 0) = chkB l ∧ G = [] ++ F := by
  intro hA
  have hl := hA
  refine DC.bodyS (n_ := 29) (show Tryz.prog.funcs[184]? = some Tryz.f184 by kernel_rfl) rfl rfl (by rfl) ?_
  simp only [env0, List.cons_append, List.nil_append]
  have kw := ksIs [0, 2, 3, 4, 5, 6, 10, 24]
  have ow := ownIs []
  repeat' (first
    | ((with_reducible refine DW.loopB 0 (X := Nat) (fun x => x ≤ l.length ∧ ∃ f, l.length - x ≤ f ∧ chkB l = chkF f (l.drop x)) (fun x => [(0, .sl (l.map u8)), (3, .int .i64 x)]) (fun x => ([] : Own)) (fun x => l.length - x) (0) ?_ ?_ ?_); exact (⟨Nat.zero_le _, l.length, by omega, by rw [List.drop_zero]; rfl⟩); (simp [Sub, get, keepL] <;> fail); (try simp only [List.cons_append, List.nil_append]); refine pl_ ?_; intro k ⟨hk, f, hf, ha⟩; (try simp only [List.cons_append, List.nil_append]))
    | refine g_ ?_
    | ((with_reducible refine And.intro ?_ ?_); (exact sv_check_dc))
    | (refine DW.cond (by rfl) ?_ ?_ <;> (first | exact i0_ | (refine ic_ ?_; intro hb)))
    | ((with_reducible refine FVg_cases ?_ ?_) <;> (intro hb; rw [hb]; revert hb; (first | exact i0_ | (refine i_ ?_; intro hb))))
    | refine r_ ?_
    | refine k_ ?_
    | (refine q_ (step_dc _ _) ?_ (ha := by exact sv_check_dc))
    | refine o_ ?_
    | refine f_ ?_
    | with_reducible intro b)
  all_goals first
  | (have hkl : k = l.length := by omega
     subst hkl
     rw [List.drop_length, chkF_nil] at ha
     refine ⟨_, _, le.rfl_, ⟨-1, rfl, by rw [ha]; rfl, rfl⟩, SubP.refl⟩)
  | (have hb2 := chk_bad (show k < l.length by omega) hf (by first | (left; assumption) | (right; assumption))
     rw [hb2] at ha
     refine ⟨_, _, le.rfl_, ⟨(k : Int), rfl, by rw [ha]; exact decide_eq_false (by omega), rfl⟩, SubP.refl⟩)
  | (obtain ⟨m, g, e1, e2, e3, e4, e5⟩ := chk_go (show k < l.length by omega) hf (by assumption) (by assumption)
     refine ⟨k + m, ⟨e3, g, e4, by rw [ha, e5]⟩, by omega, ?_, ?_⟩; (simp [Sub, get, e1, wrap_i64 ((k : Int) + (m : Int)) (by omega) (by omega)] <;> fail); (exact sub_); done)
end
def textB (t : Str) : Bool := decide (1 ≤ t.length) && decide (t.length ≤ 65535) && chkB t
theorem rtext6_dc (t : Str) (F : Own) : (t.length ≤ 1000000000) → DC Tryz.prog 131 [.str t] (([] : Own) ++ F) fun d G => d = .bool (textB t) ∧ G = [] ++ F := by
  intro hA
  have ht := hA
  refine DC.bodyS (n_ := 17) (show Tryz.prog.funcs[131]? = some Tryz.f131 by kernel_rfl) rfl rfl (by rfl) ?_
  simp only [env0, List.cons_append, List.nil_append]
  have kw := ksIs [0, 2]
  have ow := ownIs []
  repeat' (first
    | refine g_ ?_
    | ((with_reducible refine And.intro ?_ ?_); (exact sv))
    | (refine DW.cond (by rfl) ?_ ?_ <;> (first | exact i0_ | (refine ic_ ?_; intro hb)))
    | ((with_reducible refine FVg_cases ?_ ?_) <;> (intro hb; rw [hb]; revert hb; (first | exact i0_ | (refine i_ ?_; intro hb))))
    | refine r_ ?_
    | refine k_ ?_
    | (refine p_ (check_dc _ _) ?_; rintro d H1 ⟨i1, rfl, hi1, rfl⟩ <;> refine s_ ?_)
    | refine o_ ?_
    | refine f_ ?_
    | with_reducible intro b)
  all_goals first
  | (have e : textB t = false := by unfold textB; first | (rw [decide_eq_false (by omega)]; rfl) | (rw [decide_eq_false (show ¬ t.length ≤ 65535 by omega)]; simp)
     rw [e]; refine ⟨_, _, le.rfl_, ⟨rfl, rfl⟩, ?_⟩; (exact sub_); done)
  | (have e : textB t = chkB t := by unfold textB; rw [decide_eq_true (by omega), decide_eq_true (by omega)]; rfl
     rw [e, ← hi1]; refine ⟨_, _, le.rfl_, ⟨rfl, rfl⟩, ?_⟩; (exact sub_); done)
def nameB (t : Str) : Bool := textB t && !hasC t 43 && !hasC t 35
theorem rname_dc (t : Str) (F : Own) : (t.length ≤ 1000000000) → DC Tryz.prog 68 [.str t] (([] : Own) ++ F) fun d G => d = .bool (nameB t) ∧ G = [] ++ F := by
  intro hA
  have ht := hA
  refine DC.bodyS (n_ := 15) (show Tryz.prog.funcs[68]? = some Tryz.f68 by kernel_rfl) rfl rfl (by rfl) ?_
  simp only [env0, List.cons_append, List.nil_append]
  have kw := ksIs [0, 2]
  have ow := ownIs []
  repeat' (first
    | refine g_ ?_
    | ((with_reducible refine And.intro ?_ ?_); (exact sv))
    | (refine DW.cond (by rfl) ?_ ?_ <;> (first | exact i0_ | (refine ic_ ?_; intro hb)))
    | ((with_reducible refine FVg_cases ?_ ?_) <;> (intro hb; rw [hb]; revert hb; (first | exact i0_ | (refine i_ ?_; intro hb))))
    | refine r_ ?_
    | refine k_ ?_
    | (refine q_ (rtext6_dc _ _) ?_)
    | (refine q_ (hasc_dc _ _ _) ?_)
    | refine o_ ?_
    | refine f_ ?_
    | with_reducible intro b)
  all_goals
    refine ⟨_, _, le.of_eq ?_, ⟨rfl, rfl⟩, SubP.refl⟩
    unfold nameB
    first | rfl | simp_all
end Go.Proofs.YtfmjboanoojhcaaGreatDoor
