/- Slices that read as lists of records, and append of one record to a row of the call's own. No statement of the program. -/
import Derived.Test.YtdplieimkphneaaOpen
import Derived.Test.YtdplieimkphneaaRelSim
import Derived.RegionTactic
namespace Go.Proofs.Ytdplieimkphneaa
open Go.RowKit
set_option linter.unusedVariables false

/-- The slice at A reads as the list l, each element C cells. -/
def SeqL {α : Type} (w : World) (A : Option Addr) (C : Nat) (f : α → List Value) (l : List α) : Prop :=
  ∀ i x, l[i]? = some x → ∃ b off, A = some ⟨b, off, none⟩ ∧ b < w.heap.size ∧ ∀ o v, (f x)[o]? = some v → w.cell? ⟨b, off + i * C + o, none⟩ = some v
/-- A slice value that reads as the list l. -/
def SliceL {α : Type} (w : World) (v : Value) (C : Nat) (f : α → List Value) (l : List α) : Prop :=
  ∃ A cap, v = .slice A l.length cap ∧ l.length ≤ cap ∧ SeqL w A C f l

section
variable {α : Type} {w w' : World} {A : Option Addr} {C : Nat} {f : α → List Value} {l : List α}
theorem SeqL.below (h : SeqL w A C f l) (hb : Below w.heap.size w w') : SeqL w' A C f l := fun i x hx => by
  obtain ⟨b, off, e, hlt, hc⟩ := h i x hx
  exact ⟨b, off, e, Nat.lt_of_lt_of_le hlt hb.size, fun o v hv => (hb.cell (p := ⟨b, off + i * C + o, none⟩) hlt).trans (hc o v hv)⟩
theorem SeqL.belowB {B : Nat} (h : SeqL w A C f l) (hb : Below w.heap.size w w') : SeqL w' A C f l := h.below hb
theorem SeqL.nil_ : SeqL w A C f [] := fun i x hx => by simp at hx
theorem SliceL.below {v : Value} (h : SliceL w v C f l) (hb : Below w.heap.size w w') : SliceL w' v C f l := by
  obtain ⟨A, cap, e, hl, hs⟩ := h
  exact ⟨A, cap, e, hl, hs.below hb⟩
theorem SliceL.nil_ : SliceL w (.slice none 0 0) C f [] := ⟨none, 0, rfl, Nat.le_refl _, SeqL.nil_⟩

theorem flatMap_at (hf : ∀ x, (f x).length = C) : ∀ (l : List α) (i : Nat) (x : α) (o : Nat), l[i]? = some x → o < C → (l.flatMap f)[i * C + o]? = (f x)[o]?
  | [], i, x, o, h, _ => by simp at h
  | y :: l, 0, x, o, h, ho => by
    simp at h
    subst h
    rw [List.flatMap_cons, Nat.zero_mul, Nat.zero_add, List.getElem?_append_left (by rw [hf]; exact ho)]
  | y :: l, i + 1, x, o, h, ho => by
    rw [List.flatMap_cons, List.getElem?_append_right (by rw [hf, Nat.add_mul]; omega), hf, show (i + 1) * C + o - C = i * C + o by rw [Nat.add_mul]; omega]
    exact flatMap_at hf l i x o (by simpa using h) ho
theorem flatMap_len (hf : ∀ x, (f x).length = C) : ∀ l : List α, (l.flatMap f).length = l.length * C
  | [] => by simp
  | y :: l => by rw [List.flatMap_cons, List.length_append, hf, flatMap_len hf l, List.length_cons, Nat.add_mul]; omega

/-- A row that the call owns reads as a list. -/
theorem SliceL.of_own {base : Nat} {e : TypeId} {v : Value} (hf : ∀ x, (f x).length = C) (h : w.ownsRow base e C v l.length (l.flatMap f)) : SliceL w v C f l := by
  rcases h.2 with ⟨rfl, h0⟩ | ⟨g, cap, cur, rfl, _, hh, hnc, _, hcs, htake⟩
  · obtain rfl : l = [] := List.eq_nil_of_length_eq_zero h0
    exact SliceL.nil_
  · refine ⟨some ⟨g, 0, none⟩, cap, rfl, hnc, fun i x hx => ⟨g, 0, rfl, ?_, fun o u hu => ?_⟩⟩
    · rcases Nat.lt_or_ge g w.heap.size with hlt | hge
      · exact hlt
      · rw [Array.getElem?_eq_none hge] at hh; cases hh
    · have ho : o < C := by rw [← hf x]; exact (List.getElem?_eq_some_iff.1 hu).1
      have h1 := flatMap_at hf l i x o hx ho
      rw [hu] at h1
      rw [cell_of_row w g _ cur e (0, 0) hh, ← Array.getElem?_toList]
      rw [← htake] at h1
      rw [Nat.zero_add]
      rw [List.getElem?_take] at h1
      split at h1
      · exact h1
      · cases h1
end

section
variable {P : Program}
/-- append of one record, made behind it, to a row of the call's own. -/
theorem run_append1 (w : World) (base : Nat) (t ty e : TypeId) (i : TypeInfo) (z : Value) (size bytes : Nat) (ht : P.underlying t = some (.slice e)) (hi : P.info? e = some i) (hz : i.zero = some z)
    (hsize : i.size = size) (hby : i.bytes = bytes) (hzs : z.cells.size = size) (hsz : 0 < size)
    (v : Value) (n : Nat) (xs : List Value) (hown : w.ownsRow base e size v n xs) (g m c : Nat) (news : List Value) (hl : news.length = m * size) (hg : Blk w g e news.toArray) (h1 : ∀ u ∈ news, u.oneCell' = true)
    (h63 : n + m ≤ maxLen) (hbytes : (n + m) * bytes ≤ 140737488355328) (hbase : base ≤ w.heap.size) :
    ∃ v' w', (Builtin.append_ #[t, t] ty #[v, .slice (some ⟨g, 0, none⟩) m c]).run P w = .ok v' w' ∧ w'.ownsRow base e size v' (n + m) (xs ++ news) ∧ w.grownBy w' v.ownBlock ∧
      (v'.ownBlock = v.ownBlock ∨ v'.ownBlock = some w.heap.size) := by
  have hcells : ∀ j u, news[j]? = some u → w.cell? ((Addr.mk g 0 none).add j) = some u := fun j u hu => by
    have e : (Addr.mk g 0 none).add j = ⟨g, j, none⟩ := by unfold Addr.add; by_cases hj : j = 0 <;> simp [hj]
    rw [e, Blk.cell hg j]
    simpa using hu
  obtain ⟨v', w', hrun, h2, h3, _, h5⟩ := run_append_own_at (P := P) w base t ty e i z size bytes ht hi hz hsize hby hzs hsz v n xs hown ⟨g, 0, none⟩ m c news hl hcells h1 h63 hbytes hbase
  exact ⟨v', w', hrun, h2, h3, h5⟩

theorem wpList_append1 {w : World} {ops : Array Oper} {rest : List Oper} {o : Oper} {a : Act} {Q : Exit → Act → World → Prop} (hgd : o.guard = none) (s x : Operand) (t : TypeId)
    (ho : o.op = .call { callee := .builtin .append, args := #[s, x], argTypes := #[t, t] })
    (base : Nat) (e : TypeId) (i : TypeInfo) (z : Value) (size bytes : Nat) (ht : P.underlying t = some (.slice e)) (hi : P.info? e = some i) (hz : i.zero = some z)
    (hsize : i.size = size) (hby : i.bytes = bytes) (hzs : z.cells.size = size) (hsz : 0 < size)
    (v : Value) (n : Nat) (xs : List Value) (hs : a.eval s = v) (hown : w.ownsRow base e size v n xs)
    (g m c : Nat) (news : List Value) (hx : a.eval x = .slice (some ⟨g, 0, none⟩) m c) (hl : news.length = m * size) (hg : Blk w g e news.toArray) (h1 : ∀ u ∈ news, u.oneCell' = true)
    (h63 : n + m ≤ maxLen) (hbytes : (n + m) * bytes ≤ 140737488355328) (hbase : base ≤ w.heap.size)
    (h : ∀ v' w', w'.ownsRow base e size v' (n + m) (xs ++ news) → w.grownBy w' v.ownBlock → (v'.ownBlock = v.ownBlock ∨ v'.ownBlock = some w.heap.size) → wpList P ops Q rest (a.put o.dst v') w') : wpList P ops Q (o :: rest) a w := by
  refine wpList_plain hgd fun K hK => ?_
  obtain ⟨v', w', hrun, h2, h3, h4⟩ := run_append1 (P := P) w base t o.type e i z size bytes ht hi hz hsize hby hzs hsz v n xs hown g m c news hl hg h1 h63 hbytes hbase
  unfold Oper.wp execOp
  simp only [ho, resolve, invoke, builtin, Sem.run_bind, Sem.run_pure, Result.andThen_ok, List.map_toArray, List.map_cons, List.map_nil, hs, hx, hrun]
  exact hK _ _ (h v' w' h2 h3 h4)

/-- What has turned by such an append lies from base on. -/
theorem Below.append1 {B base : Nat} {a w w' : World} {v : Value} {e size n : Nat} {xs : List Value} (h : Below B a w) (hg : w.grownBy w' v.ownBlock) (hB : B ≤ w.heap.size) (hown : w.ownsRow base e size v n xs) (hbase : B ≤ base) : Below B a w' :=
  h.grown hg hB (fun k hk => by
    rcases hown.2 with ⟨rfl, _⟩ | ⟨g, cap, cur, rfl, hbg, _⟩
    · simp [Value.ownBlock] at hk
    · simp [Value.ownBlock] at hk; omega)
end

section
variable {P : Program} {ops : Array Oper} {C : World → Prop} {Pre : Nat → World → Prop} {Rt : Nat → Option Told} {fresh pu : List Nat} {Q : Act → World → Prop}
theorem wpLex_move {k : Nat} {rs : List Fact} {o : Oper} {rest : List Oper} {a : Act} (hw : Region.wanted o (yielded ops a.tmps) = true) (hR : Rt k = none) (x : Operand) (ho : o.op = .move x ∨ o.op = .assign x) (v : Value) (hv : a.eval x = v)
    (h : wpLex P ops C Pre Rt fresh pu Q (k + 1) rs rest (a.put o.dst v)) : wpLex P ops C Pre Rt fresh pu Q k rs (o :: rest) a := by
  refine wpLex_plain hw hR ⟨v, fun w _ => ?_, h⟩
  subst hv
  rcases ho with e | e <;> (unfold execOp; simp [e])
theorem wpLex_nilc {k : Nat} {rs : List Fact} {o : Oper} {rest : List Oper} {a : Act} (hw : Region.wanted o (yielded ops a.tmps) = true) (hR : Rt k = none) (x : Operand) (ho : o.op = .nilCheck x) (p : Addr) (hv : a.eval x = .pointer (some p))
    (h : wpLex P ops C Pre Rt fresh pu Q (k + 1) rs rest (a.put o.dst (.pointer (some p)))) : wpLex P ops C Pre Rt fresh pu Q k rs (o :: rest) a := by
  refine wpLex_plain hw hR ⟨_, fun w _ => ?_, h⟩
  unfold execOp
  simp [ho, hv]
end
end Go.Proofs.Ytdplieimkphneaa
