/- A region that draws its order, walked once: whatever order is drawn, the walk in the order of the text serves. No statement of the program. -/
import Derived.Test.YtdplieimkphneaaRel
namespace Go.Proofs.Ytdplieimkphneaa
open Go.RowKit
set_option linter.unusedVariables false

/-- What is asked of the region's edges: n operations ahead of a tail that goes in its own order; those of pu look at no memory. -/
def lexRelB (ops : Array Oper) (n : Nat) (pu : List Nat) : Bool :=
  Region.noSelect ops && decide (n ≤ ops.size) &&
  ((List.range ops.size).all fun k => ((ops[k]?).map (·.after.all fun e => !Region.binds .any e || decide (e.on < k))).getD true) &&
  ((List.range ops.size).all fun i => (List.range i).all fun j => decide (n ≤ j) || Region.waitsFor .any ops i j ||
    (match ops[i]?, ops[j]? with | some oi, some oj => oi.apart ops oj | _, _ => true)) &&
  (decide (n = ops.size) || ((List.range n).all fun i => pu.contains i || (List.range (n + 1)).any fun j => decide (i < j) && Region.waitsFor .any ops j i && (decide (j = n) || !pu.contains j))) &&
  Region.chainB .any ops n && Region.seqB .any ops (ops.size - n) n ((Array.range ops.size).map fun j => decide (j < n))

structure LexOk (ops : Array Oper) (n : Nat) (pu : List Nat) : Prop where
  sel : Region.noSelect ops = true
  le : n ≤ ops.size
  up : ∀ k o, ops[k]? = some o → ∀ e ∈ o.after, Region.binds .any e = true → e.on < k
  pair : ∀ i j oi oj, j < i → j < n → ops[i]? = some oi → ops[j]? = some oj → Region.waitsFor .any ops i j = true ∨ oi.apart ops oj = true
  must : n < ops.size → ∀ i, i < n → pu.contains i = false → ∃ j, i < j ∧ j ≤ n ∧ Region.waitsFor .any ops j i = true ∧ (j = n ∨ pu.contains j = false)
  chain : Region.chainB .any ops n = true
  seq : Region.seqB .any ops (ops.size - n) n ((Array.range ops.size).map fun j => decide (j < n)) = true

theorem lexOk_of {ops : Array Oper} {n : Nat} {pu : List Nat} (h : lexRelB ops n pu = true) : LexOk ops n pu := by
  simp only [lexRelB, Bool.and_eq_true] at h
  obtain ⟨⟨⟨⟨⟨⟨h1, h2⟩, h3⟩, h4⟩, h5⟩, h6⟩, h7⟩ := h
  refine ⟨h1, by simpa using h2, fun k o ho e he hb => ?_, fun i j oi oj hji hjn hi hj => ?_, fun hn i hi hp => ?_, h6, h7⟩
  · have hk : k < ops.size := (Array.getElem?_eq_some_iff.1 ho).1
    have := List.all_eq_true.1 h3 k (List.mem_range.2 hk)
    simp only [ho, Option.map_some, Option.getD_some, Array.all_eq_true_iff_forall_mem, Bool.or_eq_true, Bool.not_eq_true', decide_eq_true_eq] at this
    exact (this e he).resolve_left (by simp [hb])
  · have hk : i < ops.size := (Array.getElem?_eq_some_iff.1 hi).1
    have := List.all_eq_true.1 (List.all_eq_true.1 h4 i (List.mem_range.2 hk)) j (List.mem_range.2 hji)
    simp only [hi, hj, Bool.or_eq_true, decide_eq_true_eq] at this
    rcases this with (h | h) | h
    · omega
    · exact .inl h
    · exact .inr h
  · simp only [Bool.or_eq_true, decide_eq_true_eq] at h5
    have := List.all_eq_true.1 (h5.resolve_left (by omega)) i (List.mem_range.2 hi)
    simp only [hp, Bool.false_or] at this
    obtain ⟨j, hj, hj2⟩ := List.any_eq_true.1 this
    simp only [Bool.and_eq_true, decide_eq_true_eq, Bool.or_eq_true, Bool.not_eq_true'] at hj2
    exact ⟨j, hj2.1.1, by have := List.mem_range.1 hj; omega, hj2.1.2, hj2.2⟩

section
variable {P : Program} {ops : Array Oper} {C : World → Prop} {Pre : Nat → World → Prop} {Rt : Nat → Option Told} {fresh pu : List Nat} {n : Nat} {Q : Exit → Act → World → Prop}

theorem wpAny_more : ∀ (f m : Nat) (listed : Array Bool) (a : Act) (w : World), wpAny P .any ops Q f listed a w → wpAny P .any ops Q (f + m) listed a w
  | 0, 0, _, _, _, h => h
  | 0, m + 1, listed, a, w, h => by
    rw [Nat.zero_add]
    exact ⟨fun _ => h.2, fun i hi => by rw [h.1] at hi; cases hi⟩
  | f + 1, m, listed, a, w, h => by
    rw [show f + 1 + m = (f + m) + 1 by omega]
    exact ⟨h.1, fun i hi => wpOp_mono (fun a' w' h' => wpAny_more f m _ a' w' h') (h.2 i hi)⟩
theorem wpAny_le {f g : Nat} {listed : Array Bool} {a : Act} {w : World} (h : wpAny P .any ops Q f listed a w) (hfg : f ≤ g) : wpAny P .any ops Q g listed a w := by
  have := wpAny_more f (g - f) listed a w h
  rwa [show f + (g - f) = g by omega] at this

/-- What stands of those that are listed. -/
structure Listed (ops : Array Oper) (n : Nat) (listed : Array Bool) : Prop where
  size : listed.size = ops.size
  closed : ∀ j oj, ops[j]? = some oj → listed.getD j false = true → ∀ e ∈ oj.after, Region.binds .any e = true → listed.getD e.on false = true
  tail : ∀ t, n ≤ t → t < ops.size → listed.getD t true = false

theorem Listed.set {i : Nat} {listed : Array Bool} (inv : Listed ops n listed) (hi : i ∈ Region.ready .any ops listed) (hin : i < n) : Listed ops n (listed.setIfInBounds i true) := by
  have := HeadInv.set (md := .any) ⟨inv.size, inv.closed, inv.tail⟩ hi hin
  exact ⟨this.size, this.closed, this.tail⟩

theorem Listed.not_waits {listed : Array Bool} (inv : Listed ops n listed) {i j : Nat} (hi : listed.getD i false = true) (hw : Region.waitsFor .any ops i j = true) : listed.getD j false = true := by
  obtain ⟨oj, hoj, e, he, hb, hon⟩ := Region.waitsFor_spec hw
  have := inv.closed i oj hoj hi e he hb
  rwa [hon] at this
theorem Listed.under {listed : Array Bool} (inv : Listed ops n listed) : ∀ (f i j : Nat), listed.getD i false = true → UnderN ops f i j → listed.getD j false = true
  | 0, i, j, hi, h => inv.not_waits hi h
  | f + 1, i, j, hi, ⟨m, h1, h2⟩ => inv.under f m j (inv.not_waits hi h1) h2
theorem ready_waits {listed : Array Bool} {i j : Nat} (hi : i ∈ Region.ready .any ops listed) (hw : Region.waitsFor .any ops i j = true) : listed.getD j false = true := by
  obtain ⟨_, oi, hoi, hall⟩ := mem_ready.1 hi
  obtain ⟨oj, hoj, e, he, hb, hon⟩ := Region.waitsFor_spec hw
  have : oj = oi := Option.some.inj (hoj.symm.trans hoi)
  subst this
  have := hall e he hb
  rwa [hon] at this
theorem Listed.ready_under {listed : Array Bool} (inv : Listed ops n listed) {i j : Nat} (hi : i ∈ Region.ready .any ops listed) (h : Under ops i j) : listed.getD j false = true := by
  obtain ⟨f, hf⟩ := h
  cases f with
  | zero => exact ready_waits hi hf
  | succ f =>
    obtain ⟨m, h1, h2⟩ := hf
    exact inv.under f m j (ready_waits hi h1) h2

theorem size_lt_of_un {listed : Array Bool} {i : Nat} (h : listed.getD i true = false) : i < listed.size := by
  rcases Nat.lt_or_ge i listed.size with h' | h'
  · exact h'
  · simp [Array.getElem?_eq_none h'] at h

/-- The first that is not listed may come up. -/
theorem first_ready (hok : LexOk ops n pu) {listed : Array Bool} (hs : listed.size = ops.size) {k : Nat} (hk : listed.getD k true = false) (hlow : ∀ j, j < k → listed.getD j false = true) : k ∈ Region.ready .any ops listed := by
  have hlt : k < ops.size := hs ▸ size_lt_of_un hk
  refine mem_ready.2 ⟨hk, ops[k], Array.getElem?_eq_getElem hlt, fun e he hb => hlow _ (hok.up k _ (Array.getElem?_eq_getElem hlt) e he hb)⟩

theorem count_set {listed : Array Bool} {i : Nat} (h : listed.getD i true = false) : (listed.setIfInBounds i true).toList.count false + 1 = listed.toList.count false := by
  have hlt := size_lt_of_un h
  have h0 : listed.toList[i]'(by simpa using hlt) = false := by simpa [hlt] using h
  have hpos : 0 < listed.toList.count false := List.count_pos_iff.2 (h0 ▸ List.getElem_mem _)
  have hc := List.count_set (a := true) (b := false) (l := listed.toList) (i := i) (by simpa using hlt)
  rw [h0] at hc
  rw [Array.toList_setIfInBounds, hc]
  simp only [BEq.rfl, if_true, show ((true == false) = true) = False by simp, if_false, Nat.add_zero]
  omega

theorem exists_first (listed : Array Bool) : ∀ m, (∀ j, j < m → listed.getD j false = true) ∨ ∃ k, k < m ∧ listed.getD k false = false ∧ ∀ j, j < k → listed.getD j false = true
  | 0 => .inl fun j hj => by omega
  | m + 1 => by
    rcases exists_first listed m with h | ⟨k, h1, h2, h3⟩
    · cases hm : listed.getD m false with
      | true =>
        refine .inl fun j hj => ?_
        rcases Nat.lt_or_ge j m with h' | h'
        · exact h j h'
        · rw [show j = m by omega]; exact hm
      | false => exact .inr ⟨m, by omega, hm, h⟩
    · exact .inr ⟨k, by omega, h2, h3⟩

/-- All operations that look at memory are listed: the rest, and the tail. -/
theorem tail_phase (hok : LexOk ops n pu) (hQ : ∀ c a d v w, Q (.panic c) (Act.put a d v) w → Q (.panic c) a w) : ∀ (l : List Oper) (k : Nat) (listed : Array Bool) (rs : List Fact) (a : Act) (w : World), (∀ j, j < l.length → l[j]? = ops[k + j]?) → k + l.length = n →
    Listed ops n listed → (∀ j, j < k → listed.getD j false = true) → (∀ j, k ≤ j → j < n → listed.getD j false = false → pu.contains j = true ∧ Rt j = none) →
    C w → (∀ r ∈ rs, r.holds w) → Apart fresh rs →
    wpLexL P ops C Pre Rt fresh pu (fun a w => wpList P ops Q (ops.toList.drop n) a w) listed k rs l a → wpAny P .any ops Q (listed.toList.count false) listed a w
  | [], k, listed, rs, a, w, _, hk, inv, hlow, _, hC, hr, hap, h => by
    have hkn : k = n := by simpa using hk
    subst hkn
    have hq := h w hC hr hap
    have el : listed = (Array.range ops.size).map fun j => decide (j < k) := by
      apply Array.ext
      · simp [inv.size]
      · intro i h1 h2
        simp only [Array.getElem_map, Array.getElem_range]
        rcases Nat.lt_or_ge i k with h' | h'
        · have := hlow i h'; simp [h1] at this; simp [this, h']
        · have := inv.tail i h' (by simpa [inv.size] using h1); simp [h1] at this; simp [this]; omega
    have hseq := hok.seq
    rw [← el] at hseq
    have hd : (ops.toList.drop k).length = ops.size - k := by simp
    have hw := wpAny_of_seq (md := .any) (Q' := Q) (ops.toList.drop k) k listed a w (fun j => by simp [List.getElem?_drop]) (by rw [hd]; exact hseq) hq
    refine wpAny_le hw ?_
    have h1 : (listed.toList.drop k).count false = (listed.toList.drop k).length := List.count_eq_length.2 fun b hb => by
      obtain ⟨j, hj, e⟩ := List.getElem_of_mem hb
      simp only [List.getElem_drop] at e
      have hj' : k + j < ops.size := by simp [inv.size] at hj; omega
      have := inv.tail (k + j) (by omega) hj'
      simp [inv.size, hj'] at this
      rw [← e]; simpa using this.symm
    have h2 : (listed.toList.drop k).count false ≤ listed.toList.count false := (List.drop_sublist k _).count_le _
    rw [h1] at h2
    simp [inv.size] at h2
    rw [hd]
    simpa using h2
  | o :: rest, k, listed, rs, a, w, hl, hk, inv, hlow, hpu, hC, hr, hap, h => by
    have h0 : ops[k]? = some o := by simpa using (hl 0 (by simp)).symm
    have hl' : ∀ j, j < rest.length → rest[j]? = ops[k + 1 + j]? := fun j hj => by have := hl (j + 1) (by simp; omega); simpa [Nat.add_assoc, Nat.add_comm 1 j] using this
    have hk' : k + 1 + rest.length = n := by simp at hk; omega
    have hkn : k < n := by omega
    have hks : k < listed.size := by rw [inv.size]; exact Nat.lt_of_lt_of_le hkn hok.le
    unfold wpLexL at h
    by_cases hlk : listed.getD k false = true
    · rw [if_pos hlk] at h
      exact tail_phase hok hQ rest (k + 1) listed rs a w hl' hk' inv (fun j hj => by
        rcases Nat.lt_or_ge j k with h' | h'
        · exact hlow j h'
        · rw [show j = k by omega]; exact hlk) (fun j hj => hpu j (by omega)) hC hr hap h
    · have hlk' : listed.getD k false = false := by simpa using hlk
      have hun : listed.getD k true = false := getD_in hks hlk'
      obtain ⟨hp, hRt⟩ := hpu k (Nat.le_refl _) hkn hlk'
      have hready := first_ready hok inv.size hun hlow
      have inv' := inv.set hready hkn
      have hlow' : ∀ j, j < k + 1 → (listed.setIfInBounds k true).getD j false = true := fun j hj => by
        rcases Nat.lt_or_ge j k with h' | h'
        · rw [getD_set_ne' false (by omega)]; exact hlow j h'
        · rw [show j = k by omega]; exact getD_set_at hks
      have hpu' : ∀ j, k + 1 ≤ j → j < n → (listed.setIfInBounds k true).getD j false = false → pu.contains j = true ∧ Rt j = none := fun j hj hjn hf => hpu j (by omega) hjn (by rw [getD_set_ne' false (by omega)] at hf; exact hf)
      have hfree : ∀ j oj, ops[j]? = some oj → j ≠ k → listed.getD j true = false → (∀ e ∈ oj.after, Region.binds .any e = true → e.on ≠ k) → o.apart ops oj = true := fun j oj hj hne hju hno => by
        rcases Nat.lt_or_ge j k with h' | h'
        · have := hlow j h'
          rw [getD_both hju] at this
          cases this
        · rcases hok.pair j k oj o (by omega) hkn hj h0 with h1 | h1
          · obtain ⟨oj', hoj, e, he, hb, hon⟩ := Region.waitsFor_spec h1
            have : oj' = oj := Option.some.inj (hoj.symm.trans hj)
            subst this
            exact absurd hon (hno e he hb)
          · exact apart_symm h1
      have step : ∀ v, Yields P ops o v a → wpLexL P ops C Pre Rt fresh pu (fun a w => wpList P ops Q (ops.toList.drop n) a w) listed (k + 1) rs rest (a.put o.dst v) → wpAny P .any ops Q (listed.toList.count false) listed a w := fun v hy h => by
        have ih := tail_phase hok hQ rest (k + 1) (listed.setIfInBounds k true) rs (a.put o.dst v) w hl' hk' inv' hlow' hpu' hC hr hap (wpLexL_congr rest _ _ _ (fun j hj => by rw [getD_set_ne' false (by omega)]) h)
        rw [← count_set hun]
        exact wpAny_first h0 (Region.noSelect_spec hok.sel) (fun c a w => hQ c a o.dst v w) _ listed a w hfree hready hy ih
      rw [if_neg hlk] at h
      by_cases hw : Region.wanted o (yielded ops a.tmps) = true
      · rw [if_pos hw] at h
        simp only [hRt] at h
        obtain ⟨v, h1, h2⟩ := h
        exact step v (.inl ⟨hw, fun w' => h1 w' fun hp' => by rw [hp] at hp'; cases hp'⟩) h2
      · rw [if_neg hw] at h
        exact step undef (.inr ⟨by simpa using hw, rfl⟩) h
where
  apart_symm {x y : Oper} (h : x.apart ops y = true) : y.apart ops x = true := by
    unfold Oper.apart at h ⊢
    cases hx : x.dst <;> cases hy : y.dst <;> simp [hx, hy] at h ⊢
    · exact h
    · exact h
    · exact ⟨⟨h.2, fun e => h.1.2 e.symm⟩, h.1.1⟩

theorem tail_not_ready (hok : LexOk ops n pu) {listed : Array Bool} (inv : Listed ops n listed) :
    ∀ (d i : Nat), n - i = d → i < n → listed.getD i false = false → pu.contains i = false → ∀ t, n ≤ t → t ∉ Region.ready .any ops listed := by
  intro d
  induction d using Nat.strongRecOn with
  | _ d ih =>
    intro i hd hi hun hp t ht hr
    obtain ⟨hrt, ot, hot, hall⟩ := mem_ready.1 hr
    have htlt : t < ops.size := (Array.getElem?_eq_some_iff.1 hot).1
    by_cases htn : t = n
    · subst htn
      obtain ⟨j, hij, hjn, hw, hor⟩ := hok.must htlt i hi hp
      rcases hor with e | hpj
      · subst e
        rw [ready_waits hr hw] at hun
        cases hun
      · by_cases hjt : j = t
        · subst hjt
          rw [ready_waits hr hw] at hun
          cases hun
        · cases hl : listed.getD j false with
          | true => rw [inv.not_waits hl hw] at hun; cases hun
          | false => exact ih (t - j) (by omega) j rfl (by omega) hl hpj t (Nat.le_refl _) hr
    · have h1 := List.all_eq_true.1 hok.chain t (List.mem_range.2 htlt)
      simp only [Bool.or_eq_true, decide_eq_true_eq] at h1
      rcases h1 with h1 | h1
      · omega
      · have h2 := ready_waits hr h1
        rw [getD_both (inv.tail (t - 1) (by omega) (by omega))] at h2
        cases h2

theorem gives_wp {S : Value → World → Prop} {o : Oper} {a : Act} {w : World} {K : Act → World → Prop} (h : gives P S ((execOp a.eval o).run P w)) (hK : ∀ v w', S v w' → K (a.put o.dst v) w') : o.wp P a w K Q := by
  unfold Oper.wp
  generalize (execOp a.eval o).run P w = r at *
  cases r with
  | ok x w' =>
    cases x <;> simp only [gives] at h <;> simp only [Oper.upon]
    case value v => exact hK v w' h
    case enter f args =>
      exact Calls.mono h fun e w'' ⟨v, he, hS⟩ => by subst he; exact hK v w'' hS
  | halt x w' => simp only [gives] at h

/-- The state of the rest of the region. -/
structure Going (C : World → Prop) (Pre : Nat → World → Prop) (Rt : Nat → Option Told) (fresh : List Nat) (listed : Array Bool) (rs : List Fact) (w : World) : Prop where
  cls : C w
  pre : ∀ k, listed.getD k false = false → Pre k w
  holds : ∀ r ∈ rs, r.holds w
  lst : ∀ r ∈ rs, listed.getD r.place false = true
  stable : ∀ r ∈ rs, ∀ k T, k ≠ r.place → Rt k = some T → ∀ w w', r.holds w → T.step w w' → r.holds w'
  size : ∀ r ∈ rs, fresh.contains r.place = true → ∃ g, blockOf r.val = some g ∧ g < w.heap.size
  apart : Apart fresh rs

theorem Going.next {listed : Array Bool} {rs : List Fact} {w w' : World} {i : Nat} {v : Value} {R : Told} (h : Going C Pre Rt fresh listed rs w) (hi : Rt i = some R) (hun : listed.getD i false = false) (hil : i < listed.size)
    (hst : ∀ j k Tj Tk, j ≠ k → Rt j = some Tj → Rt k = some Tk → ∀ v w w', Tj.holds v w → Tk.step w w' → Tj.holds v w')
    (hpre : ∀ k, k ≠ i → listed.getD k false = false → ∀ w w', Pre k w → R.step w w' → Pre k w')
    (hC : C w') (hS : R.step w w') (hsz : w.heap.size ≤ w'.heap.size)
    (hf : FreshAt fresh i w v w') (hR : R.holds v w') : Going C Pre Rt fresh (listed.setIfInBounds i true) (⟨i, v, R.holds v⟩ :: rs) w' where
  cls := hC
  pre k hk := by
    by_cases hki : k = i
    · subst hki; rw [getD_set_at hil] at hk; cases hk
    · rw [getD_set_ne' false (Ne.symm hki)] at hk
      exact hpre k hki hk _ _ (h.pre k hk) hS
  holds r hr := by
    rcases List.mem_cons.1 hr with e | hr
    · subst e; exact hR
    · refine h.stable r hr i R (fun e => ?_) hi _ _ (h.holds r hr) hS
      have := h.lst r hr
      rw [← e, hun] at this
      cases this
  lst r hr := by
    rcases List.mem_cons.1 hr with e | hr
    · subst e; exact getD_set_at hil
    · exact getD_set_true (h.lst r hr)
  stable r hr := by
    rcases List.mem_cons.1 hr with e | hr
    · subst e; exact fun k T hk hT => hst i k R T (Ne.symm hk) hi hT v
    · exact h.stable r hr
  size r hr hfr := by
    rcases List.mem_cons.1 hr with e | hr
    · subst e
      obtain ⟨g, h1, _, h3⟩ := hf hfr
      exact ⟨g, h1, h3⟩
    · obtain ⟨g, h1, h2⟩ := h.size r hr hfr
      exact ⟨g, h1, by omega⟩
  apart r hr r' hr' h1 h2 hne := by
    rcases List.mem_cons.1 hr with e | hr <;> rcases List.mem_cons.1 hr' with e' | hr'
    · subst e e'; exact absurd rfl hne
    · subst e
      obtain ⟨g, hg, hg2, _⟩ := hf h1
      obtain ⟨g', hg', hlt⟩ := h.size r' hr' h2
      intro he
      rw [show blockOf v = some g from hg, hg'] at he
      injection he with he
      omega
    · subst e'
      obtain ⟨g, hg, hg2, _⟩ := hf h2
      obtain ⟨g', hg', hlt⟩ := h.size r hr h1
      intro he
      rw [hg', show blockOf v = some g from hg] at he
      injection he with he
      omega
    · exact h.apart r hr r' hr' h1 h2 hne

/-- An operation has come up that tells nothing. -/
theorem Going.on {listed : Array Bool} {rs : List Fact} {w : World} (h : Going C Pre Rt fresh listed rs w) (i : Nat) : Going C Pre Rt fresh (listed.setIfInBounds i true) rs w where
  cls := h.cls
  pre k hk := h.pre k (by
    cases hl : listed.getD k false with
    | false => rfl
    | true => rw [getD_set_true hl] at hk; cases hk)
  holds := h.holds
  lst r hr := getD_set_true (h.lst r hr)
  stable := h.stable
  size := h.size
  apart := h.apart

theorem sim (hok : LexOk ops n pu) (hQ : ∀ c a d v w, Q (.panic c) (Act.put a d v) w → Q (.panic c) a w) (hpu : ∀ j, pu.contains j = true → Rt j = none)
    (hst : ∀ j k Tj Tk, j ≠ k → Rt j = some Tj → Rt k = some Tk → ∀ v w w', Tj.holds v w → Tk.step w w' → Tj.holds v w')
    (hpre : ∀ k i T, k ≠ i → Rt i = some T → Under ops i k ∨ ∀ w w', Pre k w → T.step w w' → Pre k w') :
    ∀ (fuel : Nat) (listed : Array Bool) (rs : List Fact) (a : Act) (w : World), listed.toList.count false = fuel → Listed ops n listed → Going C Pre Rt fresh listed rs w →
    wpLexL P ops C Pre Rt fresh pu (fun a w => wpList P ops Q (ops.toList.drop n) a w) listed 0 rs (ops.toList.take n) a → wpAny P .any ops Q fuel listed a w := by
  intro fuel
  induction fuel with
  | zero =>
    intro listed rs a w hc inv hg h
    rw [← hc]
    refine tail_phase hok hQ _ 0 listed rs a w (fun j hj => by
      have hj' : j < n := by simp at hj; omega
      simp [hj']) (by have := hok.le; simp; omega) inv (fun j hj => by omega) (fun j _ hjn hf => ?_) hg.cls hg.holds hg.apart h
    have hun : listed.getD j true = false := getD_in (by rw [inv.size]; exact Nat.lt_of_lt_of_le hjn hok.le) hf
    have := count_set hun
    omega
  | succ fuel ih =>
    intro listed rs a w hc inv hg h
    by_cases hnp : ∃ i, i < n ∧ listed.getD i false = false ∧ pu.contains i = false
    · obtain ⟨i0, hi0, hu0, hp0⟩ := hnp
      refine ⟨fun hr => ?_, fun i hi => ?_⟩
      · exfalso
        rcases exists_first listed (i0 + 1) with hall | ⟨k, hk, hkf, hlow⟩
        · rw [hall i0 (by omega)] at hu0; cases hu0
        · have := first_ready hok inv.size (getD_in (by rw [inv.size]; have := hok.le; omega) hkf) hlow
          rw [hr] at this
          cases this
      · have hin : i < n := by
          rcases Nat.lt_or_ge i n with h' | h'
          · exact h'
          · exact absurd hi (tail_not_ready hok inv _ i0 rfl hi0 hu0 hp0 i h')
        have hun : listed.getD i true = false := (mem_ready.1 hi).1
        have hun' := getD_both hun
        have hil : i < listed.size := size_lt_of_un hun
        have his : i < ops.size := by rw [← inv.size]; exact hil
        have hoi : ops[i]? = some ops[i] := Array.getElem?_eq_getElem his
        have hT := pull (P := P) (Pre := Pre) (Rt := Rt) (fresh := fresh) (pu := pu) (Q := fun a w => wpList P ops Q (ops.toList.drop n) a w) hun' hil hg.cls (hg.pre i hun') (Region.noSelect_spec hok.sel) hoi (fun j oj hji hj hju => by
          rcases hok.pair i j _ oj hji (by omega) hoi hj with h1 | h1
          · rw [ready_waits hi h1] at hju; cases hju
          · exact h1) (fun j hju hud => by rw [inv.ready_under hi hud] at hju; cases hju) (ops.toList.take n) 0 rs a (fun j hj => by
            have hj' : j < n := by simp at hj; omega
            simp [hj']) (Nat.zero_le _) (by have := hok.le; simp; omega) (fun r hr _ => hg.holds r hr) h
        have hcnt : (listed.setIfInBounds i true).toList.count false = fuel := by have := count_set hun; omega
        have inv' := inv.set hi hin
        unfold wpOp
        simp only [hoi]
        unfold Taken at hT
        split
        · rename_i hw
          rw [if_pos hw] at hT
          refine .inl ?_
          cases hR : Rt i with
          | none =>
            simp only [hR] at hT
            obtain ⟨v, ⟨h1, _⟩, h2⟩ := hT
            unfold Oper.wp
            rw [h1]
            exact ih _ rs _ w hcnt inv' (hg.on i) h2
          | some R =>
            simp only [hR] at hT
            refine gives_wp hT.1.2 fun v w' hS => ih _ _ _ w' hcnt inv' (hg.next hR hun' hil hst (fun k hki hk => (hpre k i R hki hR).resolve_left fun hu => by rw [inv.ready_under hi hu] at hk; cases hk) hS.2.1 hS.2.2.1 hS.2.2.2.1 hS.2.2.2.2.1 hS.2.2.2.2.2) (hT.2 v hS.1)
        · rename_i hw
          rw [if_neg hw] at hT
          exact ih _ rs _ w hcnt inv' (hg.on i) hT
    · rw [← hc]
      refine tail_phase hok hQ _ 0 listed rs a w (fun j hj => by
        have hj' : j < n := by simp at hj; omega
        simp [hj']) (by have := hok.le; simp; omega) inv (fun j hj => by omega) (fun j _ hjn hf => ?_) hg.cls hg.holds hg.apart h
      have hp : pu.contains j = true := by
        cases hpj : pu.contains j with
        | true => rfl
        | false => exact absurd ⟨j, hjn, hf, hpj⟩ hnp
      exact ⟨hp, hpu j hp⟩

/-- The walk in the order of the text. -/
def wpLex (P : Program) (ops : Array Oper) (C : World → Prop) (Pre : Nat → World → Prop) (Rt : Nat → Option Told) (fresh pu : List Nat) (Q : Act → World → Prop) : Nat → List Fact → List Oper → Act → Prop :=
  wpLexL P ops C Pre Rt fresh pu Q #[]

theorem wpLex_nil {Q : Act → World → Prop} {k : Nat} {rs : List Fact} {a : Act} (h : ∀ w, C w → (∀ r ∈ rs, r.holds w) → Apart fresh rs → Q a w) : wpLex P ops C Pre Rt fresh pu Q k rs [] a := h
theorem wpLex_skip {Q : Act → World → Prop} {k : Nat} {rs : List Fact} {o : Oper} {rest : List Oper} {a : Act} (hw : Region.wanted o (yielded ops a.tmps) = false) (h : wpLex P ops C Pre Rt fresh pu Q (k + 1) rs rest (a.put o.dst undef)) : wpLex P ops C Pre Rt fresh pu Q k rs (o :: rest) a := by
  unfold wpLex wpLexL
  rw [if_neg (by simp), if_neg (by rw [hw]; exact Bool.false_ne_true)]
  exact h
theorem wpLex_plain {Q : Act → World → Prop} {k : Nat} {rs : List Fact} {o : Oper} {rest : List Oper} {a : Act} (hw : Region.wanted o (yielded ops a.tmps) = true) (hR : Rt k = none)
    (h : ∃ v, PlainAt P ops C Pre pu rs k o a v ∧ wpLex P ops C Pre Rt fresh pu Q (k + 1) rs rest (a.put o.dst v)) : wpLex P ops C Pre Rt fresh pu Q k rs (o :: rest) a := by
  unfold wpLex wpLexL
  rw [if_neg (by simp), if_pos hw]
  simp only [hR]
  exact h
theorem wpLex_rel {Q : Act → World → Prop} {k : Nat} {rs : List Fact} {o : Oper} {rest : List Oper} {a : Act} (hw : Region.wanted o (yielded ops a.tmps) = true) (R : Told) (hR : Rt k = some R)
    (h1 : RelAt P ops C Pre fresh rs k o a R) (h : ∀ v, R.is_ v → wpLex P ops C Pre Rt fresh pu Q (k + 1) (⟨k, v, R.holds v⟩ :: rs) rest (a.put o.dst v)) : wpLex P ops C Pre Rt fresh pu Q k rs (o :: rest) a := by
  unfold wpLex wpLexL
  rw [if_neg (by simp), if_pos hw]
  simp only [hR]
  exact ⟨h1, h⟩

/-- THE REGION. -/
theorem wp_region_rel {id : Nat} {l : List Oper} {a : Act} {w : World} (n : Nat) (pu fresh : List Nat) (C : World → Prop) (Pre : Nat → World → Prop) (Rt : Nat → Option Told) (hm : P.follows .mixedOrders = true) (hB : lexRelB l.toArray n pu = true)
    (hpu : pu.all (fun j => (Rt j).isNone) = true) (hQ0 : ∀ c a t v w, Q (.panic c) (Act.put a (some t) v) w → Q (.panic c) a w) (hC : C w.drew)
    (hP : ∀ k, Pre k w.drew)
    (hst : ∀ j k Tj Tk, j ≠ k → Rt j = some Tj → Rt k = some Tk → ∀ v w w', Tj.holds v w → Tk.step w w' → Tj.holds v w')
    (hpre : ∀ k i T, k ≠ i → Rt i = some T → Under l.toArray i k ∨ ∀ w w', Pre k w → T.step w w' → Pre k w')
    (h : wpLex P l.toArray C Pre Rt fresh pu (fun a w => wpList P l.toArray Q (l.drop n) a w) 0 [] (l.take n) a) : (Code.region id l.toArray true).wp P Q a w := by
  refine wp_region_any hm ?_
  have hok := lexOk_of hB
  have hQ : ∀ c a d v w, Q (.panic c) (Act.put a d v) w → Q (.panic c) a w := fun c a d v w h => by
    cases d with
    | none => exact h
    | some t => exact hQ0 c a t v w h
  refine sim (C := C) (Pre := Pre) (Rt := Rt) (fresh := fresh) hok hQ (fun j hj => ?_) hst hpre _ _ [] a _ (by simp) ⟨by simp, fun j oj _ hl => (by rw [getD_replicate_false] at hl; cases hl), fun t _ ht => getD_in (by simpa using ht) (getD_replicate_false _ _)⟩ ⟨hC, fun k _ => hP k, fun r hr => (by cases hr), fun r hr => (by cases hr), fun r hr => (by cases hr), fun r hr => (by cases hr), fun r hr => (by cases hr)⟩ ?_
  · have := List.all_eq_true.1 hpu j (by simpa using hj)
    cases hR : Rt j with
    | none => rfl
    | some R => rw [hR] at this; cases this
  · refine wpLexL_congr (listed := #[]) _ _ _ _ (fun j _ => (by rw [getD_replicate_false]; rfl)) ?_
    exact h

/-- Below-steps: nothing that was there is written. -/
def bstep (x y : World) : Prop := Below x.heap.size x y
/-- Just this value, of whatever world. -/
def exactly (v : Value) : Told := ⟨fun u => u = v, fun _ _ => True, bstep⟩
/-- A pointer to a new block that holds cs. -/
def ptrTo (B : Nat) (t : TypeId) (cs : Array Value) : Told := ⟨fun v => ∃ g, v = .pointer (some ⟨g, 0, none⟩) ∧ B ≤ g, fun v w => ∀ g, v = .pointer (some ⟨g, 0, none⟩) → Blk w g t cs, bstep⟩

/-- Told, and told for good: what is told outlasts whatever writes nothing that was there. -/
def Lasts (T : Told) : Prop := (∀ v w w', T.holds v w → Below w.heap.size w w' → T.holds v w') ∧ T.step = bstep
theorem exactly_lasts (v : Value) : Lasts (exactly v) := ⟨fun _ _ _ h _ => h, rfl⟩
theorem ptrTo_lasts (B : Nat) (t : TypeId) (cs : Array Value) : Lasts (ptrTo B t cs) := ⟨fun _ _ _ h hb g e => Below.blk hb (h g e), rfl⟩

/-- The table of what is told, out of a list. -/
def table (l : List (Nat × Told)) (k : Nat) : Option Told := (l.find? fun x => x.1 == k).map (·.2)
theorem table_mem {l : List (Nat × Told)} {k : Nat} {T : Told} (h : table l k = some T) : (k, T) ∈ l := by
  unfold table at h
  cases hf : l.find? (fun x => x.1 == k) with
  | none => rw [hf] at h; cases h
  | some x =>
    rw [hf] at h
    have h1 := List.mem_of_find?_eq_some hf
    have h2 := List.find?_some hf
    simp only [beq_iff_eq] at h2
    simp only [Option.map_some, Option.some.injEq] at h
    obtain ⟨a, b⟩ := x
    simp only at h2 h
    subst h2 h
    exact h1

/-- THE REGION, with tables: what is told of the operations, and what is asked ahead of some. -/
theorem wp_region_tbl {id : Nat} {l : List Oper} {a : Act} {w : World} (n : Nat) (pu fresh : List Nat) (C : World → Prop) (pre : List (Nat × (World → Prop))) (tbl : List (Nat × Told)) (hm : P.follows .mixedOrders = true) (hB : lexRelB l.toArray n pu = true)
    (hpu : pu.all (fun j => (table tbl j).isNone) = true) (hQ0 : ∀ c a t v w, Q (.panic c) (Act.put a (some t) v) w → Q (.panic c) a w) (hC : C w.drew)
    (hP : ∀ p ∈ pre, p.2 w.drew) (hst : ∀ x ∈ tbl, ∀ y ∈ tbl, x.1 ≠ y.1 → ∀ v w w', x.2.holds v w → y.2.step w w' → x.2.holds v w')
    (hpre : ∀ p ∈ pre, ∀ y ∈ tbl, p.1 ≠ y.1 → Under l.toArray y.1 p.1 ∨ ∀ w w', p.2 w → y.2.step w w' → p.2 w')
    (h : wpLex P l.toArray C (fun k w => ∀ p ∈ pre, p.1 = k → p.2 w) (table tbl) fresh pu (fun a w => wpList P l.toArray Q (l.drop n) a w) 0 [] (l.take n) a) : (Code.region id l.toArray true).wp P Q a w :=
  wp_region_rel n pu fresh C _ (table tbl) hm hB hpu hQ0 hC (fun k p hp _ => hP p hp)
    (fun j k Tj Tk hne hj hk => hst _ (table_mem hj) _ (table_mem hk) hne)
    (fun k i T hne hi => by
      by_cases hu : Under l.toArray i k
      · exact .inl hu
      · refine .inr fun w w' h1 h2 p hp hpk => ?_
        subst hpk
        exact ((hpre p hp _ (table_mem hi) hne).resolve_left hu) w w' (h1 p hp rfl) h2) h

/-- THE REGION whose operations write nothing that was there. -/
theorem wp_region_below {id : Nat} {l : List Oper} {a : Act} {w : World} (n : Nat) (pu fresh : List Nat) (tbl : List (Nat × Told)) (hm : P.follows .mixedOrders = true) (hB : lexRelB l.toArray n pu = true)
    (hpu : pu.all (fun j => (table tbl j).isNone) = true) (hl : ∀ x ∈ tbl, Lasts x.2) (hQ0 : ∀ c a t v w, Q (.panic c) (Act.put a (some t) v) w → Q (.panic c) a w)
    (h : wpLex P l.toArray (fun wx => Below w.heap.size w wx) (fun _ _ => True) (table tbl) fresh pu (fun a w => wpList P l.toArray Q (l.drop n) a w) 0 [] (l.take n) a) : (Code.region id l.toArray true).wp P Q a w :=
  wp_region_rel n pu fresh _ _ (table tbl) hm hB hpu hQ0 (Below.refl _ _).drew (fun _ => trivial)
    (fun j k Tj Tk _ hj hk v w w' hv hs => (hl _ (table_mem hj)).1 v w w' hv (by
      have := (hl _ (table_mem hk)).2
      simp only at this
      rw [this] at hs
      exact hs))
    (fun _ _ _ _ _ => .inr fun _ _ _ _ => trivial) h

theorem relAt_below {B : World} {rs : List Fact} {k : Nat} {o : Oper} {a : Act} {R : Told} (hne : ∃ v, R.is_ v) (hst : R.step = bstep)
    (h : ∀ w, Below B.heap.size B w → Deps ops rs k w → gives P (fun v w' => R.is_ v ∧ Below w.heap.size w w' ∧ FreshAt fresh k w v w' ∧ R.holds v w') ((execOp a.eval o).run P w)) :
    RelAt P ops (fun wx => Below B.heap.size B wx) (fun _ _ => True) fresh rs k o a R := by
  refine ⟨hne, fun w hC _ hd => ?_⟩
  have := h w hC hd
  revert this
  generalize (execOp a.eval o).run P w = r
  have hall : ∀ v w', (R.is_ v ∧ Below w.heap.size w w' ∧ FreshAt fresh k w v w' ∧ R.holds v w') → (R.is_ v ∧ Below B.heap.size B w' ∧ R.step w w' ∧ w.heap.size ≤ w'.heap.size ∧ FreshAt fresh k w v w' ∧ R.holds v w') :=
    fun v w' ⟨h1, h2, h3, h4⟩ => ⟨h1, hC.trans (h2.mono hC.size), by rw [hst]; exact h2, h2.size, h3, h4⟩
  intro this
  cases r with
  | ok x w' =>
    cases x <;> simp only [gives] at this ⊢
    case value v => exact hall _ _ this
    case enter f args => exact this.mono fun e w'' ⟨v, he, hv⟩ => ⟨v, he, hall _ _ hv⟩
  | halt x w' => simp only [gives] at this

theorem ptrTo_new {B : Nat} {t : TypeId} {cs : Array Value} (w : World) : (ptrTo B t cs).holds (.pointer (some ⟨w.heap.size, 0, none⟩)) (w.alloc (.cells cs t)) := fun g e => by
  injection e with e; injection e with e; injection e with e
  subst e
  exact Blk.new _ _ _
def sliceTo (B : Nat) (n : Nat) (t : TypeId) (cs : Array Value) : Told := ⟨fun v => ∃ g, v = .slice (some ⟨g, 0, none⟩) n n ∧ B ≤ g, fun v w => ∀ g, v = .slice (some ⟨g, 0, none⟩) n n → Blk w g t cs, bstep⟩
theorem sliceTo_lasts (B n : Nat) (t : TypeId) (cs : Array Value) : Lasts (sliceTo B n t cs) := ⟨fun _ _ _ h hb g e => Below.blk hb (h g e), rfl⟩
theorem sliceTo_new {B n : Nat} {t : TypeId} {cs : Array Value} (w : World) : (sliceTo B n t cs).holds (.slice (some ⟨w.heap.size, 0, none⟩) n n) (w.alloc (.cells cs t)) := fun g e => by
  injection e with e; injection e with e; injection e with e
  subst e
  exact Blk.new _ _ _
theorem not_fresh {k : Nat} {w : World} {v : Value} {w' : World} (h : fresh.contains k = false) : FreshAt fresh k w v w' := fun h' => by rw [h] at h'; cases h'
end
end Go.Proofs.Ytdplieimkphneaa
