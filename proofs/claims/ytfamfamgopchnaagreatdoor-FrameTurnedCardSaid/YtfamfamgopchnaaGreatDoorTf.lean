/- What a story's tables are as frames: plain law. No statement of the program. -/
import Derived.Test.YtfamfamgopchnaaGreatDoorSp3
namespace Go.Proofs.YtfamfamgopchnaaGreatDoor
open Go.RowKit
set_option linter.unusedSimpArgs false
set_option linter.unusedVariables false
set_option linter.unusedSectionVars false
theorem getD_or {α : Type} [Inhabited α] (l : List α) (k : Nat) : l.getD k default ∈ l ∨ l.getD k default = default := by
  by_cases h : k < l.length
  · exact .inl (getD_mem h)
  · right; rw [List.getD_eq_getElem?_getD, List.getElem?_eq_none (by omega)]; rfl
theorem filterL_len {f : Str} (h : f ∈ filterL) : f.length ≤ 9 := by
  have : ∀ f ∈ filterL, f.length ≤ 9 := by decide
  exact this f h
theorem topicL_len {f : Str} (h : f ∈ topicL) : f.length ≤ 9 := by
  have : ∀ f ∈ topicL, f.length ≤ 9 := by decide
  exact this f h
theorem nat_0 : natIn 0 := ⟨by decide, by decide⟩
theorem dot_in {i : Nat} {t : TTable} (hi : i ≤ 20) (h : TR t) (hr : Rng i t) {d : TDot} (hd : d ∈ dotsOf t.routes t.cells) : dotIn d := by
  have hh := has_iff.1 (h.hasDots d hd)
  rcases top_cases h.seen d.node d.epoch with ⟨x, hx, h1, h2, h3⟩ | ⟨_, h3⟩
  · obtain ⟨a, b, c⟩ := hr.s x hx
    exact ⟨⟨by omega, by omega⟩, ⟨by omega, by omega⟩, ⟨by omega, by omega⟩⟩
  · omega
theorem story_neat {i : Nat} {t : TTable} (hi : i ≤ 20) (h : TR t) (hr : Rng i t) : Neat t := by
  obtain ⟨l1, l2, l3⟩ := story_len hi h hr
  have hd : ∀ d : TDot, d ∈ t.seen → dotIn d := fun d hd => by
    obtain ⟨a, b, c⟩ := hr.s d hd
    exact ⟨⟨by omega, by omega⟩, ⟨by omega, by omega⟩, ⟨by omega, by omega⟩⟩
  have hz : dotIn (default : TDot) := ⟨nat_0, nat_0, nat_0⟩
  refine ⟨by omega, by omega, by omega, by omega, fun k => ?_, fun k => ?_, fun k => ?_, fun k => ?_⟩
  · rcases getD_or t.seen k with e | e
    · exact hd _ e
    · rw [e]; exact hz
  · rcases getD_or t.fences k with e | e
    · obtain ⟨a, b⟩ := hr.f _ e
      exact ⟨⟨by omega, by omega⟩, ⟨by omega, by omega⟩⟩
    · rw [e]; exact ⟨nat_0, nat_0⟩
  · rcases getD_or t.routes k with e | e
    · have := filterL_len (hr.r _ e)
      exact ⟨dot_in hi h hr (by simp only [dotsOf, List.mem_append, List.mem_map]; exact .inl ⟨_, e, rfl⟩), by omega⟩
    · rw [e]; exact ⟨hz, Nat.zero_le _⟩
  · rcases getD_or t.cells k with e | e
    · obtain ⟨a1, a2, a3, a4, a5⟩ := hr.c _ e
      have := topicL_len a1
      have hc := (h.cok _ e).1
      simp only [cellB, stampedM, Bool.and_eq_true, decide_eq_true_eq] at hc
      exact ⟨dot_in hi h hr (by simp only [dotsOf, List.mem_append, List.mem_map]; exact .inr ⟨_, e, rfl⟩), ⟨⟨by omega, by omega⟩, ⟨by omega, by omega⟩, ⟨by omega, by omega⟩⟩, ⟨by omega, by omega⟩, by omega, by omega⟩
    · rw [e]; exact ⟨hz, ⟨nat_0, nat_0, nat_0⟩, nat_0, Nat.zero_le _, Nat.zero_le _⟩
theorem table_len {i : Nat} {t : TTable} (hi : i ≤ 20) (h : TR t) (hr : Rng i t) : (tableBy t).length ≤ 1000000 := by
  obtain ⟨l1, l2, l3⟩ := story_len hi h hr
  have hn := story_neat hi h hr
  have e1 : (flatBy fenceBy t.fences).length = 16 * t.fences.length := flatBy_len (fun x _ => fenceBy_len x)
  have e2 : (flatBy routeBy t.routes).length ≤ 41 * t.routes.length := flatBy_le fun x hx => by rw [routeBy_len]; have := filterL_len (hr.r _ hx); omega
  have e3 : (flatBy cellBy t.cells).length ≤ 119 * t.cells.length := flatBy_le fun x hx => by
    rw [cellBy_len]; obtain ⟨a1, a2, _⟩ := hr.c _ hx; have := topicL_len a1; omega
  simp only [tableBy, List.length_append, dotsBy_len, numsL_len, List.length_cons, List.length_nil, e1]
  omega
/-- What the tables of a story are: right, few, short. -/
theorem tables_at {l : List TDeed} (hn : l.length ≤ 20) (h : ∀ d ∈ l, deedOk d) {k : Int} (hk : 0 ≤ k ∧ k < 3) :
    (tablesM l).length = 3 ∧ TR ((tablesM l).getD k.toNat default) ∧ Neat ((tablesM l).getD k.toNat default) ∧ Lite 3072 ((tablesM l).getD k.toNat default) ∧ (tableBy ((tablesM l).getD k.toNat default)).length ≤ 1000000 := by
  have hs := Story.of h
  obtain ⟨t1, t2, _⟩ := hs.tab hk
  exact ⟨hs.lt, t1, story_neat hn t1 t2, story_lite hn t1 t2, table_len hn t1 t2⟩
/-! A byte that is turned. -/
def turnC (c : UInt8) (v : Int) : UInt8 := UInt8.ofNat (BitVec.ofInt 8 (c.toNat : Int) ^^^ BitVec.ofInt 8 v).toNat
theorem turn_u8 (c : UInt8) (v : Int) : u8 (turnC c v) = .int .u8 (IntKind.u8.wrap ((BitVec.ofInt IntKind.u8.bits (c.toNat : Int) ^^^ BitVec.ofInt IntKind.u8.bits v).toNat : Int)) := by
  unfold u8 turnC
  congr 1
theorem turn_ne {c : UInt8} {v : Int} (h : 0 < v ∧ v ≤ 255) : turnC c v ≠ c := by
  intro e
  have hc := c.toNat_lt
  have h1 := congrArg UInt8.toNat e
  have hl := (BitVec.ofInt 8 (c.toNat : Int) ^^^ BitVec.ofInt 8 v).isLt
  rw [turnC, UInt8.toNat_ofNat', Nat.mod_eq_of_lt (by simpa using hl)] at h1
  have h2 : (BitVec.ofInt 8 (c.toNat : Int) ^^^ BitVec.ofInt 8 v) = BitVec.ofInt 8 (c.toNat : Int) := by
    refine BitVec.eq_of_toNat_eq ?_
    rw [h1, BitVec.toNat_ofInt]
    omega
  have h3 : BitVec.ofInt 8 v = 0#8 := by
    have := congrArg (BitVec.ofInt 8 (c.toNat : Int) ^^^ ·) h2
    simpa [← BitVec.xor_assoc] using this
  have h4 := congrArg BitVec.toNat h3
  rw [BitVec.toNat_ofInt] at h4
  simp at h4
  omega
theorem full_split (f : TFrame) : fullBy f = bodyBy f ++ leK 8 (fnvV (bodyBy f)) := rfl
theorem body_take (f : TFrame) : (bodyBy f).take 3 = [72, 66, 49] := rfl
theorem body_len3 (f : TFrame) : 28 ≤ (bodyBy f).length := by rw [bodyBy, List.length_append, headBy_len]; omega
/-- What Read is told about the bytes behind the turn. -/
theorem full_turned (f : TFrame) {i : Nat} {c : UInt8} (hi : i < (fullBy f).length) (hc : c ≠ (fullBy f).getD i 0) {l : Str} (hl : l = (fullBy f).set i c) :
    l.length = (fullBy f).length ∧ (i < 3 → (l.take 3 == ([72, 66, 49] : Str)) = false) ∧
    (3 ≤ i → l.take 3 = magicL ∧ ∃ x : Int, (0 ≤ x ∧ x ≤ 18446744073709551615) ∧ l.drop ((l.length : Int) - 8).toNat = leK 8 x ∧ x ≠ fnvV (l.take ((l.length : Int) - 8).toNat)) := by
  subst hl
  have hb := body_len3 f
  have hfl : (fullBy f).length = (bodyBy f).length + 8 := by rw [full_split, List.length_append, leK_len]
  have e : ((((fullBy f).set i c).length : Int) - 8).toNat = (bodyBy f).length := by rw [List.length_set, hfl]; omega
  rw [e]
  obtain ⟨t1, t2⟩ := turned (body := bodyBy f) (i := i) (c := c) (by omega) (body_take f) (by omega) hc
  refine ⟨by rw [List.length_set], fun h3 => ?_, fun h3 => ?_⟩
  · have := t1 h3
    simpa [full_split] using this
  · obtain ⟨a, x, b1, b2, b3⟩ := t2 h3
    exact ⟨a, x, b1, b2, b3⟩
end Go.Proofs.YtfamfamgopchnaaGreatDoor
