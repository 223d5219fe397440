/- A table laid down. -/
import Derived.Test.YtfmjboanoojhcaaGreatDoorFp4x
import Derived.Test.YtfmjboanoojhcaaGreatDoorSd3x
import Derived.KernelRfl
import Derived.Test.YtfmjboanoojhcaaGreatDoorFm9x
import Derived.Test.YtfmjboanoojhcaaGreatDoorEu
import Derived.Test.YtfmjboanoojhcaaGreatDoorTc2x
namespace Go.Proofs.YtfmjboanoojhcaaGreatDoor
open Go.RowKit
set_option linter.unusedSimpArgs false
set_option linter.unusedVariables false
set_option linter.unusedSectionVars false
set_option maxHeartbeats 4000000
set_option maxRecDepth 100000
attribute [local irreducible] DW SeqD DV DOp DC DVX


theorem row_le {α : Type} [Inhabited α] {f : α → Str} {n m : Nat} {l : List α} (h : ∀ k, (f (l.getD k default)).length ≤ n) (hm : n * l.length ≤ m) (k : Nat) : (flatBy f (l.take k)).length ≤ m := by
  refine Nat.le_trans (flatBy_le (n := n) fun x hx => ?_) (Nat.le_trans (Nat.mul_le_mul_left n (by rw [List.length_take]; exact Nat.min_le_right _ _)) hm)
  obtain ⟨i, hi, rfl⟩ := List.getElem_of_mem (List.mem_of_mem_take hx)
  have := h i
  rwa [List.getD_eq_getElem?_getD, List.getElem?_eq_getElem hi] at this
theorem Neat.cl {t : TTable} (h : Neat t) (k : Nat) : (flatBy cellBy (t.cells.take k)).length ≤ 20000000 := row_le (n := 4000) (fun k => by rw [cellBy_len]; obtain ⟨_, _, _, h1, h2⟩ := h.c k; omega) (by have := h.lc; omega) k
section
attribute [local push_cast 2000] encFence encRoute encCell bytes_are bytes_back
end
end Go.Proofs.YtfmjboanoojhcaaGreatDoor
/- Which frames are right: those of the laws. -/
namespace Go.Proofs.YtfmjboanoojhcaaGreatDoor
open Go.RowKit
set_option linter.unusedSimpArgs false
set_option linter.unusedVariables false
set_option linter.unusedSectionVars false
set_option maxHeartbeats 4000000
set_option maxRecDepth 100000
attribute [local irreducible] DW SeqD DV DOp DC DVX

end Go.Proofs.YtfmjboanoojhcaaGreatDoor
/- What a story's tables are as frames: plain law. No statement of the program. -/
namespace Go.Proofs.YtfmjboanoojhcaaGreatDoor
open Go.RowKit
set_option linter.unusedSimpArgs false
set_option linter.unusedVariables false
set_option linter.unusedSectionVars false
theorem getD_or {α : Type} [Inhabited α] (l : List α) (k : Nat) : l.getD k default ∈ l ∨ l.getD k default = default := by
  by_cases h : k < l.length
  · exact .inl (getD_mem h)
  · right; rw [List.getD_eq_getElem?_getD, List.getElem?_eq_none (by omega)]; rfl
theorem filterL_len {f : Str} (h : f ∈ filterL) : f.length ≤ 9 := by
  have : ∀ f ∈ filterL, f.length ≤ 9 := by decide
  exact this f h
theorem topicL_len {f : Str} (h : f ∈ topicL) : f.length ≤ 9 := by
  have : ∀ f ∈ topicL, f.length ≤ 9 := by decide
  exact this f h
theorem nat_0 : natIn 0 := ⟨by decide, by decide⟩
theorem dot_in {i : Nat} {t : TTable} (hi : i ≤ 20) (h : TR t) (hr : Rng i t) {d : TDot} (hd : d ∈ dotsOf t.routes t.cells) : dotIn d := by
  have hh := has_iff.1 (h.hasDots d hd)
  rcases top_cases h.seen d.node d.epoch with ⟨x, hx, h1, h2, h3⟩ | ⟨_, h3⟩
  · obtain ⟨a, b, c⟩ := hr.s x hx
    exact ⟨⟨by omega, by omega⟩, ⟨by omega, by omega⟩, ⟨by omega, by omega⟩⟩
  · omega
theorem story_neat {i : Nat} {t : TTable} (hi : i ≤ 20) (h : TR t) (hr : Rng i t) : Neat t := by
  obtain ⟨l1, l2, l3⟩ := story_len hi h hr
  have hd : ∀ d : TDot, d ∈ t.seen → dotIn d := fun d hd => by
    obtain ⟨a, b, c⟩ := hr.s d hd
    exact ⟨⟨by omega, by omega⟩, ⟨by omega, by omega⟩, ⟨by omega, by omega⟩⟩
  have hz : dotIn (default : TDot) := ⟨nat_0, nat_0, nat_0⟩
  refine ⟨by omega, by omega, by omega, by omega, fun k => ?_, fun k => ?_, fun k => ?_, fun k => ?_⟩
  · rcases getD_or t.seen k with e | e
    · exact hd _ e
    · rw [e]; exact hz
  · rcases getD_or t.fences k with e | e
    · obtain ⟨a, b⟩ := hr.f _ e
      exact ⟨⟨by omega, by omega⟩, ⟨by omega, by omega⟩⟩
    · rw [e]; exact ⟨nat_0, nat_0⟩
  · rcases getD_or t.routes k with e | e
    · have := filterL_len (hr.r _ e)
      exact ⟨dot_in hi h hr (by simp only [dotsOf, List.mem_append, List.mem_map]; exact .inl ⟨_, e, rfl⟩), by omega⟩
    · rw [e]; exact ⟨hz, Nat.zero_le _⟩
  · rcases getD_or t.cells k with e | e
    · obtain ⟨a1, a2, a3, a4, a5⟩ := hr.c _ e
      have := topicL_len a1
      have hc := (h.cok _ e).1
      simp only [cellB, stampedM, Bool.and_eq_true, decide_eq_true_eq] at hc
      exact ⟨dot_in hi h hr (by simp only [dotsOf, List.mem_append, List.mem_map]; exact .inr ⟨_, e, rfl⟩), ⟨⟨by omega, by omega⟩, ⟨by omega, by omega⟩, ⟨by omega, by omega⟩⟩, ⟨by omega, by omega⟩, by omega, by omega⟩
    · rw [e]; exact ⟨hz, ⟨nat_0, nat_0, nat_0⟩, nat_0, Nat.zero_le _, Nat.zero_le _⟩
theorem table_len {i : Nat} {t : TTable} (hi : i ≤ 20) (h : TR t) (hr : Rng i t) : (tableBy t).length ≤ 1000000 := by
  obtain ⟨l1, l2, l3⟩ := story_len hi h hr
  have hn := story_neat hi h hr
  have e1 : (flatBy fenceBy t.fences).length = 16 * t.fences.length := flatBy_len (fun x _ => fenceBy_len x)
  have e2 : (flatBy routeBy t.routes).length ≤ 41 * t.routes.length := flatBy_le fun x hx => by rw [routeBy_len]; have := filterL_len (hr.r _ hx); omega
  have e3 : (flatBy cellBy t.cells).length ≤ 119 * t.cells.length := flatBy_le fun x hx => by
    rw [cellBy_len]; obtain ⟨a1, a2, _⟩ := hr.c _ hx; have := topicL_len a1; omega
  simp only [tableBy, List.length_append, dotsBy_len, numsL_len, List.length_cons, List.length_nil, e1]
  omega
/-- What the tables of a story are: right, few, short. -/
theorem tables_at {l : List TDeed} (hn : l.length ≤ 20) (h : ∀ d ∈ l, deedOk d) {k : Int} (hk : 0 ≤ k ∧ k < 3) :
    (tablesM l).length = 3 ∧ TR ((tablesM l).getD k.toNat default) ∧ Neat ((tablesM l).getD k.toNat default) ∧ Lite 3072 ((tablesM l).getD k.toNat default) ∧ (tableBy ((tablesM l).getD k.toNat default)).length ≤ 1000000 := by
  have hs := Story.of h
  obtain ⟨t1, t2, _⟩ := hs.tab hk
  exact ⟨hs.lt, t1, story_neat hn t1 t2, story_lite hn t1 t2, table_len hn t1 t2⟩
/-! A byte that is turned. -/
theorem full_split (f : TFrame) : fullBy f = bodyBy f ++ leK 8 (fnvV (bodyBy f)) := rfl
theorem body_take (f : TFrame) : (bodyBy f).take 3 = [72, 66, 49] := rfl
theorem body_len3 (f : TFrame) : 28 ≤ (bodyBy f).length := by rw [bodyBy, List.length_append, headBy_len]; omega
/-- What Read is told about the bytes behind the turn. -/
theorem full_turned (f : TFrame) {i : Nat} {c : UInt8} (hi : i < (fullBy f).length) (hc : c ≠ (fullBy f).getD i 0) {l : Str} (hl : l = (fullBy f).set i c) :
    l.length = (fullBy f).length ∧ (i < 3 → (l.take 3 == ([72, 66, 49] : Str)) = false) ∧
    (3 ≤ i → l.take 3 = magicL ∧ ∃ x : Int, (0 ≤ x ∧ x ≤ 18446744073709551615) ∧ l.drop ((l.length : Int) - 8).toNat = leK 8 x ∧ x ≠ fnvV (l.take ((l.length : Int) - 8).toNat)) := by
  subst hl
  have hb := body_len3 f
  have hfl : (fullBy f).length = (bodyBy f).length + 8 := by rw [full_split, List.length_append, leK_len]
  have e : ((((fullBy f).set i c).length : Int) - 8).toNat = (bodyBy f).length := by rw [List.length_set, hfl]; omega
  rw [e]
  obtain ⟨t1, t2⟩ := turned (body := bodyBy f) (i := i) (c := c) (by omega) (body_take f) (by omega) hc
  refine ⟨by rw [List.length_set], fun h3 => ?_, fun h3 => ?_⟩
  · have := t1 h3
    simpa [full_split] using this
  · obtain ⟨a, x, b1, b2, b3⟩ := t2 h3
    exact ⟨a, x, b1, b2, b3⟩
end Go.Proofs.YtfmjboanoojhcaaGreatDoor
/- The tables of a story are small. -/
namespace Go.Proofs.YtfmjboanoojhcaaGreatDoor
open Go.RowKit
set_option linter.unusedSimpArgs false
set_option linter.unusedVariables false
set_option linter.unusedSectionVars false
set_option maxHeartbeats 4000000
set_option maxRecDepth 100000


theorem filt_idx : ∀ a ∈ filterL, filterL.idxOf a < 10 ∧ ∀ b ∈ filterL, filterL.idxOf a = filterL.idxOf b → a = b := by decide
theorem top_idx : ∀ a ∈ topicL, topicL.idxOf a < 7 ∧ ∀ b ∈ topicL, topicL.idxOf a = topicL.idxOf b → a = b := by decide
theorem story_small {i : Nat} {t : TTable} (hi : i ≤ 20) (h : TR t) (hr : Rng i t) : t.routes.length ≤ 960 ∧ t.cells.length ≤ 7 := by
  have hin : ∀ r ∈ t.routes, (0 ≤ r.dot.node ∧ r.dot.node < 3) ∧ (1 ≤ r.dot.epoch ∧ r.dot.epoch ≤ 21) := fun r hrr => by
    have hh := has_iff.1 (h.rok r hrr).2.1
    rcases top_cases h.seen r.dot.node r.dot.epoch with ⟨x, hx, h1, h2, h3⟩ | ⟨_, h3⟩
    · have := hr.s x hx; omega
    · omega
  constructor
  · refine pigeon_map (fun r : TRoute => ((r.dot.node * 32 + r.dot.epoch) * 10 + (filterL.idxOf r.filter : Nat)).toNat) 960 (pw_mem h.rone fun a ha b hb hab => ?_) fun d hd => ?_
    · have h1 := hin a ha; have h2 := hin b hb
      have f1 := filt_idx _ (hr.r a ha); have f2 := filt_idx _ (hr.r b hb)
      show ((a.dot.node * 32 + a.dot.epoch) * 10 + ((filterL.idxOf a.filter : Nat) : Int)).toNat ≠ ((b.dot.node * 32 + b.dot.epoch) * 10 + ((filterL.idxOf b.filter : Nat) : Int)).toNat
      intro e
      have g1 := f1.1; have g2 := f2.1
      have he : filterL.idxOf a.filter = filterL.idxOf b.filter := by omega
      exact hab ⟨by omega, by omega, f1.2 _ (hr.r b hb) he⟩
    · have h1 := hin d hd
      have g1 := (filt_idx _ (hr.r d hd)).1
      show ((d.dot.node * 32 + d.dot.epoch) * 10 + ((filterL.idxOf d.filter : Nat) : Int)).toNat < 960
      omega
  · refine pigeon_map (fun c : TCell => topicL.idxOf c.topic) 7 (pw_mem h.csort fun a ha b hb hab => ?_) fun d hd => (top_idx _ (hr.c d hd).1).1
    intro e
    have := (top_idx _ (hr.c a ha).1).2 _ (hr.c b hb).1 e
    rw [this, bl_irrefl] at hab; cases hab
theorem table_small {i : Nat} {t : TTable} (hi : i ≤ 20) (h : TR t) (hr : Rng i t) : (tableBy t).length ≤ 60000 := by
  obtain ⟨l1, l2, _⟩ := story_len hi h hr
  obtain ⟨l3, l4⟩ := story_small hi h hr
  have e1 : (flatBy fenceBy t.fences).length = 16 * t.fences.length := flatBy_len (fun x _ => fenceBy_len x)
  have e2 : (flatBy routeBy t.routes).length ≤ 41 * t.routes.length := flatBy_le fun x hx => by rw [routeBy_len]; have := filterL_len (hr.r _ hx); omega
  have e3 : (flatBy cellBy t.cells).length ≤ 119 * t.cells.length := flatBy_le fun x hx => by
    rw [cellBy_len]; obtain ⟨a1, a2, _⟩ := hr.c _ hx; have := topicL_len a1; omega
  simp only [tableBy, List.length_append, dotsBy_len, numsL_len, List.length_cons, List.length_nil, e1]
  omega
theorem tables_small {l : List TDeed} (hn : l.length ≤ 20) (h : ∀ d ∈ l, deedOk d) {k : Int} (hk : 0 ≤ k ∧ k < 3) : (tableBy ((tablesM l).getD k.toNat default)).length ≤ 60000 := by
  obtain ⟨t1, t2, _⟩ := (Story.of h).tab hk
  exact table_small hn t1 t2
end Go.Proofs.YtfmjboanoojhcaaGreatDoor
/- Frames of the laws laid down. -/
namespace Go.Proofs.YtfmjboanoojhcaaGreatDoor
open Go.RowKit
set_option linter.unusedSimpArgs false
set_option linter.unusedVariables false
set_option linter.unusedSectionVars false
set_option maxHeartbeats 4000000
set_option maxRecDepth 100000
attribute [local irreducible] DW SeqD DV DOp DC DVX

section
attribute [local push_cast 2000] cells_cons cells_nil bytes_are bytes_back encU isU8_map byteOf_map
end
section
attribute [local push_cast 2000] cells_cons cells_nil bytes_are bytes_back encU isU8_map byteOf_map
end
section
attribute [local push_cast 2000] cells_cons cells_nil bytes_are bytes_back encU isU8_map byteOf_map
end
end Go.Proofs.YtfmjboanoojhcaaGreatDoor
/- Frames made of a story. -/
namespace Go.Proofs.YtfmjboanoojhcaaGreatDoor
open Go.RowKit
set_option linter.unusedSimpArgs false
set_option linter.unusedVariables false
set_option linter.unusedSectionVars false
set_option maxHeartbeats 4000000
set_option maxRecDepth 100000
attribute [local irreducible] DW SeqD DV DOp DC DVX

section
attribute [local push_cast 2000] encDeed
theorem few_dc (l : List TDeed) (F : Own) : (True) → DC Tryz.prog 14 [.sl (l.map encDeed)] (([] : Own) ++ F) fun d G => (d = .bool true ∧ (l.length ≤ 20 ∧ ∀ k, (l.getD k default).x.length ≤ 30) ∧ G = [] ++ F) ∨ (d = .bool false ∧ G = [] ++ F) := by
  intro hA
  refine DC.bodyS (n_ := 20) (show Tryz.prog.funcs[14]? = some Tryz.f14 by kernel_rfl) rfl rfl (by rfl) ?_
  simp only [env0, List.cons_append, List.nil_append]
  have kw := ksIs [0, 2, 3, 6, 10, 19]
  have ow := ownIs []
  repeat' (first
    | ((with_reducible refine DW.loopB 0 (X := Nat) (fun x => x ≤ l.length ∧ ∀ j, j < x → (l.getD j default).x.length ≤ 30) (fun x => [(0, .sl (l.map encDeed)), (3, .int .i64 x)]) (fun x => ([] : Own)) (fun x => l.length - x) (0) ?_ ?_ ?_); exact (⟨Nat.zero_le _, fun j h => absurd h (Nat.not_lt_zero _)⟩); (simp [Sub, get, keepL] <;> fail); (try simp only [List.cons_append, List.nil_append]); refine pl_ ?_; intro k ⟨hk, hj⟩; (try simp only [List.cons_append, List.nil_append]); try simp only at hk hj)
    | refine g_ ?_
    | ((with_reducible refine And.intro ?_ ?_); (exact sv))
    | (refine DW.cond (by rfl) ?_ ?_ <;> (first | exact i0_ | (refine ic_ ?_; intro hb)))
    | ((with_reducible refine FVg_cases ?_ ?_) <;> (intro hb; rw [hb]; revert hb; (first | exact i0_ | (refine i_ ?_; intro hb))))
    | refine r_ ?_
    | refine k_ ?_
    | refine o_ ?_
    | refine f_ ?_
    | with_reducible intro b)
  all_goals first
  | (exfalso; omega)
  | (refine ⟨_, _, le.rfl_, .inr ⟨rfl, rfl⟩, ?_⟩; (exact sub_); done)
  | (refine ⟨k + 1, ⟨by omega, fun j hj2 => ?_⟩, ?_, ?_, ?_⟩; (rcases Nat.lt_succ_iff_lt_or_eq.1 hj2 with h | rfl; (exact hj j h); (omega)); (omega); (simp [Sub, get] <;> fail); (try dsimp only); (exact sub_); done)
  | (refine ⟨_, _, le.rfl_, .inl ⟨rfl, ⟨by omega, fun j => ?_⟩, rfl⟩, ?_⟩; rotate_left; (exact sub_); (by_cases h : j < k; (exact hj j h); (rw [List.getD_eq_getElem?_getD, List.getElem?_eq_none (by omega)]; exact Nat.zero_le _)); done)
end
theorem story_dc (l : List TDeed) (F : Own) : (l.length ≤ 20 ∧ ∀ d ∈ l, deedOk d) → DC Tryz.prog 49 [.sl (l.map encDeed)] (([] : Own) ++ F) fun d G => d = .sl ((tablesM l).map encTable) ∧ G = [] ++ F := by
  intro hA
  have hA0 := hA
  refine DC.bodyS (n_ := 5) (show Tryz.prog.funcs[49]? = some Tryz.f49 by kernel_rfl) rfl rfl (by rfl) ?_
  simp only [env0, List.cons_append, List.nil_append]
  have kw := ksIs [0, 2]
  have ow := ownIs []
  repeat' (first
    | refine g_ ?_
    | ((with_reducible refine And.intro ?_ ?_); (exact sv))
    | (refine DW.cond (by rfl) ?_ ?_ <;> (first | exact i0_ | (refine ic_ ?_; intro hb)))
    | ((with_reducible refine FVg_cases ?_ ?_) <;> (intro hb; rw [hb]; revert hb; (first | exact i0_ | (refine i_ ?_; intro hb))))
    | refine r_ ?_
    | refine k_ ?_
    | (refine q_ (tables_dc _ _) ?_)
    | refine o_ ?_
    | refine f_ ?_
    | with_reducible intro b)
  (first | exact fin_ | refine finq_ ?_)
  all_goals rfl
theorem topic_name {k : Int} (h : 0 ≤ k) : nameB (topicM k) = true ∧ (topicM k).length ≤ 1000 := by
  have key : ∀ f ∈ topicL, nameB f = true ∧ f.length ≤ 1000 := by decide +kernel
  exact key _ (topicM_mem h)
section
attribute [local push_cast 2000] encTable
end
section
attribute [local push_cast 2000] toN3 takeMap isU8 isU8_map byteOf_map
end
end Go.Proofs.YtfmjboanoojhcaaGreatDoor
