/- Stores, appends and calls, over data. No statement of the program. -/
import Derived.Test.YtnnigbnlhhikjaaDoorEh
namespace Go.Proofs.YtnnigbnlhhikjaaDoor
open Go.RowKit
set_option linter.unusedSimpArgs false
set_option linter.unusedVariables false
set_option linter.unusedSectionVars false

theorem setCells_row (b : Nat) : ∀ (vs : List Value) (o : Nat) (w : World) (xs : Array Value) (T : TypeId) (fr : Nat × Nat), w.heap[b]? = some (.cells xs T fr) → o + vs.length ≤ xs.size →
    ∃ ys, (w.setCells b o vs).heap[b]? = some (.cells ys T fr) ∧ ys.size = xs.size ∧ ∀ k, ys.getD k undef = if o ≤ k ∧ k < o + vs.length then vs.getD (k - o) undef else xs.getD k undef
  | [], o, w, xs, T, fr, h, _ => ⟨xs, h, rfl, fun k => by rw [if_neg (by simp <;> omega)]⟩
  | v :: vs, o, w, xs, T, fr, h, hl => by
    have h1 : (w.setCell ⟨b, o, none⟩ v).heap[b]? = some (.cells (xs.setIfInBounds o v) T fr) := by simp [World.setCell, Array.getElem?_modify, h]
    obtain ⟨ys, g1, g2, g3⟩ := setCells_row b vs (o + 1) (w.setCell ⟨b, o, none⟩ v) _ T fr h1 (by simp at hl ⊢; omega)
    refine ⟨ys, g1, by simpa using g2, fun k => ?_⟩
    rw [g3 k]
    simp only [List.length_cons] at hl ⊢
    by_cases hk : k = o
    · subst hk
      rw [if_neg (by omega), if_pos (by omega)]
      simp [Array.getD_eq_getD_getElem?, Array.getElem?_setIfInBounds]
      rw [if_pos (by omega)]; rfl
    · by_cases hk2 : o + 1 ≤ k ∧ k < o + 1 + vs.length
      · rw [if_pos hk2, if_pos (by omega), show k - o = (k - (o + 1)) + 1 by omega]; rfl
      · rw [if_neg hk2, if_neg (by omega)]
        simp [Array.getD_eq_getD_getElem?, Array.getElem?_setIfInBounds, Ne.symm hk]
theorem setCells_other (b : Nat) : ∀ (vs : List Value) (o : Nat) (w : World) (k : Nat), k ≠ b → (w.setCells b o vs).heap[k]? = w.heap[k]?
  | [], _, _, _, _ => rfl
  | v :: vs, o, w, k, h => by rw [World.setCells, setCells_other b vs _ _ k h]; exact Below.heap_setCell _ _ _ _ h
theorem setCells_rest (b : Nat) : ∀ (vs : List Value) (o : Nat) (w : World), (w.setCells b o vs).os = w.os ∧ (w.setCells b o vs).tape = w.tape ∧ (w.setCells b o vs).output = w.output
  | [], _, _ => ⟨rfl, rfl, rfl⟩
  | v :: vs, o, w => by rw [World.setCells]; exact setCells_rest b vs (o + 1) _
theorem one_cell {S : Addr → Prop} {w : World} {v : Value} {d : V} (h : R S w v d) (hd : d.one = true) : v.oneCell' = true := by
  obtain ⟨h1, h2⟩ := h.one_ hd
  cases v <;> first | rfl | exact absurd rfl (h1 _) | exact absurd rfl (h2 _)
theorem cells_of {v : Value} : (∀ xs, v ≠ .agg xs) → v.cells = #[v] := fun h => by cases v <;> first | rfl | exact absurd rfl (h _)

section
variable {P : Program} {o : Oper} {f : Operand → V} {H : Own} {K : V → Own → Prop}
/-- A store into what is owned. -/
theorem DOp.store_ {t : TypeId} {p x : Operand} {b off : Nat} (hop : o.op = .store t p x) (hp : f p = .raw (.pointer (some ⟨b, off, none⟩)))
    (h : OnB H b fun cs C => (f x).solid = true ∧ (f x).cs.all V.one = true ∧ (ty P t).kind ≠ 0 ∧ (ty P t).kind ≠ 11 ∧ (f x).cs.length = (ty P t).size ∧ off + (ty P t).size ≤ cs.length ∧ K .any (C (.blk b (layV cs off (f x).cs)))) : DOp P o f H K := by
  obtain ⟨cs, L1, L2, rfl, h1, h2, h3, h4, h5, h6, hk⟩ := h
  refine DOp.skip_ fun a w hs hr => ?_
  have hv := hr p (by simp [hop, Op.operands])
  rw [hp] at hv
  have hv : a.eval p = .pointer (some ⟨b, off, none⟩) := by generalize a.eval p = v at hv; cases hv; rfl
  have hx := hr x (by simp [hop, Op.operands])
  obtain ⟨c1, c2⟩ := hx.solid h1
  obtain ⟨xs, T, fr, g1, g2, g3, g4, g5⟩ := blk_of hs
  have hone : ∀ u ∈ (a.eval x).cells.toList, u.oneCell' = true := fun u hu => by
    obtain ⟨i, hi, rfl⟩ := List.getElem_of_mem hu
    have hi' : i < (a.eval x).cells.size := by simpa using hi
    have := c2 i (by omega)
    have h1' := List.all_eq_true.1 h2 ((f x).cs[i]'(by omega)) (List.getElem_mem _)
    have e : (f x).cs.getD i .any = (f x).cs[i]'(by omega) := by
      have : i < (f x).cs.length := by omega
      simp [List.getD_eq_getElem?_getD, this]
    rw [e] at this
    have := one_cell this h1'
    simpa [Array.getD_eq_getD_getElem?, hi'] using this
  have hrun := run_storeCells_cells (P := P) b off (a.eval x).cells.toList 0 w (fun j hj => by
      simp only [Array.length_toList] at hj
      rw [Nat.add_zero, (g5 (off + j) (by omega)).1]; rfl) (fun j hj => by
      simp only [Array.length_toList] at hj
      rw [Nat.add_zero]; exact (g5 (off + j) (by omega)).2) hone
  rw [Nat.add_zero] at hrun
  obtain ⟨ys, y1, y2, y3⟩ := setCells_row b (a.eval x).cells.toList off w xs T fr g1 (by simp; omega)
  obtain ⟨r1, r2, r3⟩ := setCells_rest b (a.eval x).cells.toList off w
  obtain ⟨l1, l2⟩ := lay_at cs (f x).cs off (by omega)
  refine ⟨w.setCells b off (a.eval x).cells.toList, _, ?_, Sim.swap hs (e1 := .blk b (layV cs off (f x).cs)) r1 r2 r3 (by rw [setCells_size]; exact Nat.le_refl _) (fun k hk hn => setCells_other b _ _ _ k fun e => hn e) (fun q hq hn => World.cell?_setCells_out b _ _ _ q fun e _ => absurd e hn)
    (fun k h => .inl h) (fun q h => .inl h) (fun hst => ?_), hk⟩
  · unfold execOp
    rw [hop]
    simp [Instr.storeAt, hv, Instr.sureAddr, storeVar, run_sizeOf h3 h4, c1, h5, hrun]
  · refine ⟨ys, T, fr, y1, by rw [y2]; exact g2, by rw [y2, g3, l1], fun k hk => ?_⟩
    rw [y3 k, l2 k]
    rw [l1] at hk
    simp only [Array.length_toList]
    by_cases hk' : off ≤ k ∧ k < off + (f x).cs.length
    · rw [if_pos hk', if_pos (by omega)]
      have := (c2 (k - off) (by omega)).mono hst
      simpa [Array.getD_eq_getD_getElem?, List.getD_eq_getElem?_getD] using this
    · rw [if_neg hk', if_neg (by omega)]
      exact (g4 k hk).mono hst

/-- A call. -/
theorem DOp.call_ {c : Operand} {args : Array Operand} {ts : Array TypeId} {k : FuncId} {first caps : List V} (hop : o.op = .call { callee := .value c, args, argTypes := ts }) (hc : f c = .fn (.func k) first caps) (h : DC P k (first ++ args.toList.map f ++ caps) H K) : DOp P o f H K := by
  intro a w next Q hs hr hn
  have hcv := hr c (by simp [hop, Op.operands, Call.operands])
  rw [hc] at hcv
  generalize hv : a.eval c = v at hcv
  cases hcv with
  | fn _ xs ys _ _ n1 r1 n2 r2 =>
    obtain ⟨he, hcall⟩ := h
    unfold enterB at he
    cases hf : P.funcs[k]? with
    | none => rw [hf] at he; cases he
    | some fn =>
      rw [hf] at he
      simp only [Bool.and_eq_true, bne_iff_ne, ne_eq] at he
      have hrun : (execOp a.eval o).run P w = .ok (.enter k (xs ++ args.map a.eval ++ ys)) w := by
        unfold execOp
        rw [hop]
        have hb : fn.body ≠ none := fun e => by rw [e] at he; cases he.1
        simp [resolve, hv, Deferred.ofValue, invoke, callFunc, program, Sem.run, hf, he.2, hb]
      unfold Oper.wp
      rw [hrun]
      refine (hcall (xs ++ args.map a.eval ++ ys) w hs (by simp; omega) fun j hj => ?_).mono fun e w' ⟨v, d, H', e1, s, x, r, k'⟩ => ?_
      · simp only [List.append_assoc] at hj ⊢
        by_cases h1 : j < first.length
        · have := r1 j h1
          simp only [Array.getD_eq_getD_getElem?, List.getD_eq_getElem?_getD] at this ⊢
          rw [List.getElem?_append_left h1, Array.append_assoc, Array.getElem?_append_left (by omega)]
          exact this
        · by_cases h2 : j - first.length < args.size
          · have := hr args[j - first.length] (by simp [hop, Op.operands, Call.operands])
            simp only [Array.getD_eq_getD_getElem?, List.getD_eq_getElem?_getD] at this ⊢
            rw [List.getElem?_append_right (by omega), List.getElem?_append_left (by simp; exact h2), Array.append_assoc, Array.getElem?_append_right (by omega), Array.getElem?_append_left (by simp; omega)]
            rw [n1]
            simpa [h2] using this
          · have := r2 (j - first.length - args.size) (by simp at hj; omega)
            simp only [Array.getD_eq_getD_getElem?, List.getD_eq_getElem?_getD] at this ⊢
            rw [List.getElem?_append_right (by omega), List.getElem?_append_right (by simp; omega), Array.append_assoc, Array.getElem?_append_right (by omega), Array.getElem?_append_right (by simp; omega)]
            rw [n1]
            simpa using this
      · subst e1
        exact hn v w' d H' s x r k'

theorem Sim.tail0 {w : World} (sz : Nat) (hs : Sim w H) : Sim w (.tail sz (.slice none 0 0) :: H) ∧ Ext w H w (.tail sz (.slice none 0 0) :: H) :=
  hs.add rfl rfl rfl (Nat.le_refl _) (fun _ _ => rfl) (fun _ h => h.elim) fun _ => ⟨rfl, rfl⟩
theorem DOp.tail0 (sz : Nat) (h : DOp P o f (.tail sz (.slice none 0 0) :: H) K) : DOp P o f H K := fun a w next Q hs hr hn => by
  obtain ⟨g1, g2⟩ := hs.tail0 sz
  exact h a w next Q g1 (fun x hx => g2.rel (hr x hx)) fun v w' d H' s x r k => hn v w' d H' s (g2.trans x) r k

/-- What is appended. -/
def srcL : V → Option (List V)
  | .sl l => some l
  | .gs _ l => some l
  | .str s => some (s.map u8)
  | _ => none
theorem src_run {S : Addr → Prop} {w : World} {v : Value} {d : V} {xs : List V} {sz : Nat} (hS : ∀ a, S a → (w.cell? a).isSome = true) (h : R S w v d) (hx : srcL d = some xs) (hz : ∀ y ∈ xs, y.n = sz) :
    (Builtin.lenOf v).run P w = .ok xs.length w ∧ ∃ news : List Value, (Builtin.firstCells sz xs.length v).run P w = .ok news.toArray w ∧ news.length = xs.length * sz ∧
      ∀ i k, i < xs.length → k < sz → R S w (news.getD (i * sz + k) undef) ((xs.getD i .any).cell k) := by
  have sl : ∀ l, R S w v (.sl l) → l = xs → (Builtin.lenOf v).run P w = .ok xs.length w ∧ ∃ news : List Value, (Builtin.firstCells sz xs.length v).run P w = .ok news.toArray w ∧ news.length = xs.length * sz ∧
      ∀ i k, i < xs.length → k < sz → R S w (news.getD (i * sz + k) undef) ((xs.getD i .any).cell k) := fun l h e => by
    subst e
    obtain ⟨a, cap, sz', rfl, hc, ha, g1, g2, g3, g4⟩ := h.slc
    refine ⟨by simp [Builtin.lenOf], ?_⟩
    cases a with
    | none =>
      rw [ha rfl]
      exact ⟨[], by simp [Builtin.firstCells], by simp, fun i k hi => absurd hi (Nat.not_lt_zero _)⟩
    | some b =>
      have hsz : ∀ i, i < l.length → sz' = sz := fun i hi => by
        have := g2 i hi
        rw [show l.getD i .any = l[i] by simp [List.getD_eq_getElem?_getD, hi]] at this
        rw [← this]; exact hz _ (List.getElem_mem hi)
      refine ⟨(List.range (l.length * sz)).map fun j => cellAt w ⟨b.block, b.off + j, none⟩, ?_, by simp, fun i k hi hk => ?_⟩
      · refine run_firstCells_some (P := P) w sz l.length b l.length cap _ (by simp) fun j u hj => ?_
        have hj' : j < l.length * sz := by
          have := (List.getElem?_eq_some_iff.1 hj).1
          simpa using this
        rw [addr_add b j (g1 b rfl (fun h => by rw [h] at hj'; simp at hj'))]
        have hpos : 0 < sz := by
          rcases Nat.eq_zero_or_pos sz with h0 | h0
          · rw [h0] at hj'; simp at hj'
          · exact h0
        have hi : j / sz < l.length := Nat.div_lt_of_lt_mul (by rw [Nat.mul_comm]; exact hj')
        have e1 := hsz _ hi
        have := hS _ (g3 b (j / sz) (j % sz) rfl hi (by rw [e1]; exact Nat.mod_lt _ hpos))
        rw [e1] at this
        rw [Nat.add_assoc, show j / sz * sz + j % sz = j by rw [Nat.mul_comm]; exact Nat.div_add_mod j sz] at this
        obtain ⟨u', hu'⟩ := Option.isSome_iff_exists.1 this
        rw [List.getElem?_map] at hj
        simp [hj'] at hj
        rw [← hj, cellAt, hu']; rfl
      · have hlt : i * sz + k < l.length * sz := by
          calc i * sz + k < i * sz + sz := by omega
            _ = (i + 1) * sz := by rw [Nat.add_mul]; omega
            _ ≤ l.length * sz := Nat.mul_le_mul_right _ hi
        have e1 := hsz i hi
        have := g4 b i k rfl hi (by omega)
        rw [e1] at this
        simpa [List.getD_eq_getElem?_getD, hlt, Nat.add_assoc] using this
  cases d with
  | sl l => exact sl l h (by injection hx)
  | gs u l => exact sl l (by cases h with | gs v l h => exact h) (by injection hx)
  | str s =>
    injection hx with hx
    subst hx
    have hv : v = .string (bs s) := by cases h; rfl
    subst hv
    refine ⟨by simp [Builtin.lenOf, bs_size], ?_⟩
    refine ⟨s.map fun b => .int .u8 (b.toNat : Nat), ?_, ?_, fun i k hi hk => ?_⟩
    · have : (bs s).extract 0 (s.map u8).length = bs s := by
        rw [List.length_map, ← bs_size s]; exact ByteArray.extract_zero_size
      simp only [Builtin.firstCells, this, Sem.run_pure]
      congr 1
      simp [bs]
    · by_cases h0 : s = []
      · subst h0; simp
      · have : sz = 1 := by
          obtain ⟨c, s', rfl⟩ := List.exists_cons_of_ne_nil h0
          exact (hz (u8 c) (by simp)).symm
        subst this; simp
    · have hi' : i < s.length := by simpa using hi
      have : sz = 1 := (hz (u8 s[i]) (List.mem_map_of_mem (List.getElem_mem hi'))).symm.trans rfl
      subst this
      have hk0 : k = 0 := by omega
      subst hk0
      simp [List.getD_eq_getElem?_getD, hi', u8, V.cell]
      exact .int _ _
  | _ => cases hx

theorem frozen_of {w : World} {b k : Nat} {xs : Array Value} {T : TypeId} {fr : Nat × Nat} (h : w.heap[b]? = some (.cells xs T fr)) (hk : ¬ (fr.1 ≤ k ∧ k < fr.2)) : w.frozen? ⟨b, k, none⟩ = false := by
  obtain ⟨lo, hi⟩ := fr
  unfold World.frozen?
  simp only [h]
  simp at hk ⊢
  exact hk
/-- What is asked of an append. -/
structure AppS (P : Program) (sT xT : TypeId) (l xs : List V) : Prop where
  k : (ty P sT).kind = 4
  e0 : (ty P (ty P sT).elem).kind ≠ 0
  e1 : (ty P (ty P sT).elem).kind ≠ 11
  x0 : (ty P xT).kind ≠ 0
  x1 : (ty P xT).kind ≠ 11
  x2 : (ty P xT).kind ≠ 2
  pos : 0 < (ty P (ty P sT).elem).size
  zero : (ty P (ty P sT).elem).zero.length = (ty P (ty P sT).elem).size
  room : (l.length + xs.length) * (ty P (ty P sT).elem).bytes ≤ 140737488355328
  len : l.length + xs.length ≤ 4611686018427387904
  old : ∀ y ∈ l, y.n = (ty P (ty P sT).elem).size
  new : ∀ y ∈ xs, y.n = (ty P (ty P sT).elem).size ∧ y.cs.all V.one = true
theorem idx_lt {i k n sz : Nat} (hi : i < n) (hk : k < sz) : i * sz + k < n * sz := by
  calc i * sz + k < i * sz + sz := by omega
    _ = (i + 1) * sz := by rw [Nat.add_mul]; omega
    _ ≤ n * sz := Nat.mul_le_mul_right _ hi
theorem not_int {t : TypeId} {w : World} (h0 : (ty P t).kind ≠ 0) (h1 : (ty P t).kind ≠ 11) (h2 : (ty P t).kind ≠ 2) : ∃ d, P.underlying t = some d ∧ ∀ k, d ≠ .int k := by
  obtain ⟨i, d, hi, hd, he, _⟩ := ty_info (t := t) rfl h0 h1
  exact ⟨d, hd, fun k e => by subst e; rw [he] at h2; exact h2 rfl⟩
theorem DOp.append_ {s x : Operand} {sT xT : TypeId} {v : Value} {l xs : List V} {d : V} (hop : o.op = .call { callee := .builtin .append, args := #[s, x], argTypes := #[sT, xT] }) (hfs : f s = .gs v l) (hfx : srcL (f x) = some xs)
    (h : On H (.tail (ty P (ty P sT).elem).size v) fun C => AppS P sT xT l xs ∧ ∀ v', K (.gs v' (l ++ xs)) (C (.tail (ty P (ty P sT).elem).size v'))) : DOp P o f H K := by
  obtain ⟨L1, L2, rfl, hA, hk⟩ := h
  generalize hE : (ty P sT).elem = E at *
  refine DOp.step fun a w hs hr => ?_
  have hS : ∀ q, stable w (L1 ++ .tail (ty P E).size v :: L2) q → (w.cell? q).isSome = true := fun q hq => hq.1
  have hvs := hr s (by simp [hop, Op.operands, Call.operands])
  rw [hfs] at hvs
  have hvv : a.eval s = v := by generalize a.eval s = u at hvs; cases hvs; rfl
  rw [hvv] at hvs
  have hvs : R (stable w (L1 ++ .tail (ty P E).size v :: L2)) w v (.sl l) := by cases hvs with | gs v l h => exact h
  obtain ⟨base, cap, sz0, hv, hcap, hnil, b1, b2, b3, b4⟩ := hvs.slc
  subst hv
  obtain ⟨hA0, hA1, hA2, hA3, hA4, hA5, hA6, hA7, hA8, hA9, hA10, hA11⟩ := hA
  rw [hE] at hA1 hA2 hA6 hA7 hA8 hA10 hA11
  generalize hsz : (ty P E).size = sz at *
  obtain ⟨x1, news, x2, x3, x4⟩ := src_run (P := P) hS (hr x (by simp [hop, Op.operands, Call.operands])) hfx (fun y hy => (hA11 y hy).1)
  have hsz0 : ∀ i, i < l.length → sz0 = sz := fun i hi => by
    have := b2 i hi
    rw [show l.getD i .any = l[i] by simp [List.getD_eq_getElem?_getD, hi]] at this
    rw [← this]; exact hA10 _ (List.getElem_mem hi)
  have hu := und_slice hA0
  rw [hE] at hu
  have hEsz : (sizeOf E).run P w = .ok sz w := by rw [run_sizeOf hA1 hA2, hsz]
  obtain ⟨dx, hdx, hdi⟩ := not_int (w := w) hA3 hA4 hA5
  have hm : (dx matches .int _) = false := by cases dx <;> first | rfl | exact absurd rfl (hdi _)
  -- the elements of what comes
  have hget : ∀ i, (l ++ xs).getD i .any = if i < l.length then l.getD i .any else xs.getD (i - l.length) .any := fun i => by
    simp only [List.getD_eq_getElem?_getD]
    split
    · rename_i hi; rw [List.getElem?_append_left hi]
    · rename_i hi; rw [List.getElem?_append_right (by omega)]
  have hall : ∀ i, i < (l ++ xs).length → ((l ++ xs).getD i .any).n = sz := fun i hi => by
    rw [hget]
    simp only [List.length_append] at hi
    split
    · rename_i h; rw [show l.getD i .any = l[i] by simp [List.getD_eq_getElem?_getD, h]]; exact hA10 _ (List.getElem_mem h)
    · rename_i h
      have h' : i - l.length < xs.length := by omega
      rw [show xs.getD (i - l.length) .any = xs[i - l.length] by simp [List.getD_eq_getElem?_getD, h']]
      exact (hA11 _ (List.getElem_mem h')).1
  by_cases hfit : l.length + xs.length ≤ cap
  · -- there is room
    cases base with
    | none =>
      -- nothing is appended to nothing
      have hl0 := hnil rfl
      have htail := hs.holds (.tail sz (.slice none l.length cap)) (by simp)
      obtain ⟨t1, t2⟩ := htail
      subst t2
      have hx0 : xs = [] := List.eq_nil_of_length_eq_zero (by omega)
      subst hx0
      subst hl0
      refine ⟨_, w, .gs _ ([] ++ []), _, ?_, ⟨hs, .refl _ _⟩, .gs _ _ (by simpa using hvs), hk _⟩
      unfold execOp
      rw [hop]
      have hn0 : news = [] := List.eq_nil_of_length_eq_zero (by simpa using x3)
      subst hn0
      have x1' : (Builtin.lenOf (a.eval x)).run P w = .ok 0 w := x1
      have x2' : (Builtin.firstCells sz 0 (a.eval x)).run P w = .ok #[] w := x2
      simp [resolve, invoke, Go.builtin, Builtin.append_, hvv, run_underlying hu, run_underlying hdx, hm, hEsz, x1', x2']
    | some b =>
      have htail := hs.holds (.tail sz (.slice (some b) l.length cap)) (by simp)
      obtain ⟨t1, t2, ys, T, fr, g1, g2, g3⟩ := htail
      obtain ⟨bb, bo, bs'⟩ := b
      simp only at t1
      subst t1
      have g3 : bo + cap * sz ≤ ys.size := g3
      have hone : ∀ u ∈ news, u.oneCell' = true := fun u hu' => by
        obtain ⟨j, hj, rfl⟩ := List.getElem_of_mem hu'
        rw [x3] at hj
        have hi : j / sz < xs.length := Nat.div_lt_of_lt_mul (by rw [Nat.mul_comm]; exact hj)
        have hm' := Nat.mod_lt j hA6
        have := x4 (j / sz) (j % sz) hi hm'
        rw [show j / sz * sz + j % sz = j by rw [Nat.mul_comm]; exact Nat.div_add_mod j sz] at this
        have hin := hA11 _ (List.getElem_mem hi)
        have e : xs.getD (j / sz) .any = xs[j / sz] := by simp [List.getD_eq_getElem?_getD, hi]
        rw [e] at this
        have hlt : j % sz < (xs[j / sz]).cs.length := by rw [cs_n, hin.1]; exact hm'
        rw [cs_cell _ _ hlt] at this
        have e2 : (xs[j / sz]).cs.getD (j % sz) .any = (xs[j / sz]).cs[j % sz] := by simp [List.getD_eq_getElem?_getD, hlt]
        rw [e2] at this
        have h1 := one_cell this (List.all_eq_true.1 hin.2 _ (List.getElem_mem hlt))
        have e3 : news.getD j undef = news[j]'(by rw [x3]; exact hj) := by simp [List.getD_eq_getElem?_getD, x3, hj]
        rw [e3] at h1
        exact h1
      have hcells : ∀ j, j < news.length → bo + l.length * sz + j < ys.size ∧ bo + l.length * sz + j < bo + cap * sz := fun j hj => by
        rw [x3] at hj
        have : l.length * sz + xs.length * sz ≤ cap * sz := by rw [← Nat.add_mul]; exact Nat.mul_le_mul_right _ hfit
        omega
      have hc1 : ∀ k, k < ys.size → w.cell? ⟨bb, k, none⟩ = some (ys.getD k undef) := fun k hk => by simp [World.cell?, g1, Array.getD_eq_getD_getElem?, hk]
      have hrun := run_storeCells_cells (P := P) bb (bo + l.length * sz) news 0 w (fun j hj => by
          rw [Nat.add_zero, hc1 _ (hcells j hj).1]; rfl) (fun j hj => by
          rw [Nat.add_zero]
          exact frozen_of g1 (g2.at (bo + l.length * sz + j) (by simp only; omega) (hcells j hj).2)) hone
      rw [Nat.add_zero] at hrun
      obtain ⟨zs, z1, z2, z3⟩ := setCells_row bb news (bo + l.length * sz) w ys T fr g1 (by
        have : l.length * sz + xs.length * sz ≤ cap * sz := by rw [← Nat.add_mul]; exact Nat.mul_le_mul_right _ hfit
        rw [x3]; omega)
      obtain ⟨r1, r2, r3⟩ := setCells_rest bb news (bo + l.length * sz) w
      have hsw := Sim.swap (w' := w.setCells bb (bo + l.length * sz) news) hs (e1 := .tail sz (.slice (some ⟨bb, bo, none⟩) (l.length + xs.length) cap)) r1 r2 r3 (by rw [setCells_size]; exact Nat.le_refl _)
        (fun k hk hn => setCells_other bb _ _ _ k fun e => hn e) (fun q hq hn => World.cell?_setCells_out bb _ _ _ q fun e1 e2 => by
          have hn' : ¬ (q.block = bb ∧ bo + l.length * sz ≤ q.off ∧ q.off < bo + cap * sz) := hn
          have : l.length * sz + xs.length * sz ≤ cap * sz := by rw [← Nat.add_mul]; exact Nat.mul_le_mul_right _ hfit
          rw [x3]; omega)
        (fun k h => .inl h) (fun q h => .inl (by
          have h' : q.block = bb ∧ bo + (l.length + xs.length) * sz ≤ q.off ∧ q.off < bo + cap * sz := h
          rw [Nat.add_mul] at h'
          exact ⟨h'.1, by simp only; omega, h'.2.2⟩)) (fun hst => by
          refine ⟨rfl, hfit, zs, T, fr, z1, g2, by rw [z2]; exact g3⟩)
      refine ⟨_, _, .gs (.slice (some ⟨bb, bo, none⟩) (l.length + xs.length) cap) (l ++ xs), _, ?_, hsw, .gs _ _ ?_, hk _⟩
      · unfold execOp
        rw [hop]
        have hadd : (⟨bb, bo, none⟩ : Addr).add (l.length * sz) = ⟨bb, bo + l.length * sz, none⟩ := addr_add _ _ rfl
        simp [resolve, invoke, Go.builtin, Builtin.append_, hvv, run_underlying hu, run_underlying hdx, hm, hEsz, x1, x2, hfit, hadd, hrun]
      · have hcell2 : ∀ k, k < ys.size → (w.setCells bb (bo + l.length * sz) news).cell? ⟨bb, k, none⟩ = some (zs.getD k undef) := fun k hk => by
          simp [World.cell?, z1, Array.getD_eq_getD_getElem?, z2, hk]
        have hfree : ∀ k, k < bo + (l.length + xs.length) * sz → k < ys.size → bo ≤ k → stable (w.setCells bb (bo + l.length * sz) news) (L1 ++ .tail sz (.slice (some ⟨bb, bo, none⟩) (l.length + xs.length) cap) :: L2) ⟨bb, k, none⟩ := fun k hk hky hbk => by
          refine ⟨by rw [hcell2 k hky]; rfl, fun e he ho => ?_⟩
          have hap := hs.apart
          rw [List.pairwise_append, List.pairwise_cons] at hap
          obtain ⟨p1, ⟨p2, p3⟩, p4⟩ := hap
          have htb : Ent.touches (.tail sz (.slice (some ⟨bb, bo, none⟩) l.length cap)) bb := rfl
          rcases List.mem_append.1 he with he | he
          · exact p4 e he _ (by simp) bb (Ent.touch ho) htb
          · rcases List.mem_cons.1 he with he | he
            · subst he
              have ho' : bb = bb ∧ bo + (l.length + xs.length) * sz ≤ k ∧ k < bo + cap * sz := ho
              omega
            · exact p2 e he bb htb (Ent.touch ho)
        have hbnd : ∀ i k, i < (l ++ xs).length → k < sz → bo + i * sz + k < bo + (l.length + xs.length) * sz ∧ bo + i * sz + k < ys.size := fun i k hi hk => by
          rw [List.length_append] at hi
          have := idx_lt hi hk
          have h2 : (l.length + xs.length) * sz ≤ cap * sz := Nat.mul_le_mul_right _ hfit
          omega
        refine .sl _ _ _ _ sz (by simp) hfit (fun h => nomatch h) (fun b hb _ => by injection hb with hb; subst hb; rfl) hall (fun b i k hb hi hk => ?_) (fun b i k hb hi hk => ?_)
        · injection hb with hb; subst hb
          have := hbnd i k hi hk
          exact hfree (bo + i * sz + k) this.1 this.2 (by omega)
        · injection hb with hb; subst hb
          have hb2 := hbnd i k hi hk
          simp only
          rw [cellAt, hcell2 _ hb2.2, Option.getD_some, z3, hget]
          by_cases hil : i < l.length
          · have h1 := idx_lt hil hk
            rw [if_neg (by omega), if_pos hil]
            have := b4 ⟨bb, bo, none⟩ i k rfl hil (by rw [hsz0 i hil]; exact hk)
            rw [hsz0 i hil, cellAt, hc1 _ hb2.2, Option.getD_some] at this
            exact hsw.2.rel this
          · rw [List.length_append] at hi
            have hi2 : i - l.length < xs.length := by omega
            have h1 := idx_lt hi2 hk
            have e1 : i * sz = l.length * sz + (i - l.length) * sz := by rw [← Nat.add_mul]; congr 1; omega
            rw [if_pos (by rw [x3]; omega), if_neg hil]
            have := x4 (i - l.length) k hi2 hk
            rw [show bo + i * sz + k - (bo + l.length * sz) = (i - l.length) * sz + k by omega]
            exact hsw.2.rel this
  · -- a new row
    have hneed : cap < l.length + xs.length := by omega
    have hgrow := growslice_fits hneed hA8
    obtain ⟨i, d', hi, _, _, _, hby, hz⟩ := ty_info (t := E) rfl hA1 hA2
    cases hzz : i.zero with
    | none => rw [hzz] at hz; simp [hz] at hA7; omega
    | some z =>
      obtain ⟨zr1, zr2⟩ := zero_rel (P := P) (S := stable w (L1 ++ .tail sz (.slice base l.length cap) :: L2)) (w := w) hi hzz hz
      have hzr : ∀ w, (zeroValue E).run P w = .ok z w := fun w => by simp [zeroValue, typeInfo, program, Sem.run, hi, hzz]
      have hti : ∀ w, (typeInfo E).run P w = .ok i w := fun w => by simp [typeInfo, program, Sem.run, hi]
      -- the old cells
      have hold : ∃ olds : List Value, (Builtin.firstCells sz l.length (.slice base l.length cap)).run P w.drew = .ok olds.toArray w.drew ∧ olds.length = l.length * sz ∧
          ∀ i k, i < l.length → k < sz → R (stable w (L1 ++ .tail sz (.slice base l.length cap) :: L2)) w (olds.getD (i * sz + k) undef) ((l.getD i .any).cell k) := by
        cases base with
        | none =>
          have h0 := hnil rfl
          subst h0
          exact ⟨[], by simp [Builtin.firstCells], by simp, fun i k hi => absurd hi (Nat.not_lt_zero _)⟩
        | some b =>
          refine ⟨(List.range (l.length * sz)).map fun j => cellAt w ⟨b.block, b.off + j, none⟩, ?_, by simp, fun i k hi hk => ?_⟩
          · refine run_firstCells_some (P := P) w.drew sz l.length b l.length cap _ (by simp) fun j u hj => ?_
            have hj' : j < l.length * sz := by
              have := (List.getElem?_eq_some_iff.1 hj).1
              simpa using this
            rw [addr_add b j (b1 b rfl (fun h => by rw [h] at hj'; simp at hj'))]
            have hii : j / sz < l.length := Nat.div_lt_of_lt_mul (by rw [Nat.mul_comm]; exact hj')
            have e1 := hsz0 _ hii
            have hst := b3 b (j / sz) (j % sz) rfl hii (by rw [e1]; exact Nat.mod_lt _ hA6)
            rw [e1] at hst
            rw [Nat.add_assoc, show j / sz * sz + j % sz = j by rw [Nat.mul_comm]; exact Nat.div_add_mod j sz] at hst
            obtain ⟨u', hu'⟩ := Option.isSome_iff_exists.1 hst.1
            rw [List.getElem?_map] at hj
            simp [hj'] at hj
            rw [World.cell?_drew, ← hj, cellAt, hu']; rfl
          · have hlt := idx_lt hi hk
            have e1 := hsz0 i hi
            have := b4 b i k rfl hi (by omega)
            rw [e1] at this
            simpa [List.getD_eq_getElem?_getD, hlt, Nat.add_assoc] using this
      obtain ⟨olds, o1, o2, o3⟩ := hold
      have hdr := hs.drew
      obtain ⟨_, news', x2', x3', x4'⟩ := src_run (P := P) (fun q (hq : stable w.drew _ q) => hq.1) (hdr.2.rel (hr x (by simp [hop, Op.operands, Call.operands]))) hfx (fun y hy => (hA11 y hy).1)
      have hge := grownCap_ge w (l.length + xs.length) cap E
      generalize hcapn : grownCap w (l.length + xs.length) cap E = newCap at *
      have hrest := size_zeroCells z.cells (newCap - (l.length + xs.length))
      generalize hrs : Builtin.zeroCells z.cells (newCap - (l.length + xs.length)) = rest at *
      have hzc : z.cells.size = sz := zr1.trans hA7
      have hsize : (olds.toArray ++ news'.toArray ++ rest).size = newCap * sz := by
        simp only [Array.size_append, List.size_toArray, o2, x3', hrest, hzc, ← Nat.add_mul]
        congr 1; omega
      have hv1 : ∀ i k, i < l.length → k < sz → (olds.toArray ++ news'.toArray ++ rest).getD (i * sz + k) undef = olds.getD (i * sz + k) undef := fun i k hi hk => by
        have := idx_lt hi hk
        simp only [Array.getD_eq_getD_getElem?, List.getD_eq_getElem?_getD]
        rw [Array.append_assoc, Array.getElem?_append_left (by simp; omega)]
        simp
      have hv2 : ∀ i k, i < xs.length → k < sz → (olds.toArray ++ news'.toArray ++ rest).getD ((l.length + i) * sz + k) undef = news'.getD (i * sz + k) undef := fun i k hi hk => by
        have := idx_lt hi hk
        have e1 : (l.length + i) * sz + k = l.length * sz + (i * sz + k) := by rw [Nat.add_mul]; omega
        simp only [Array.getD_eq_getD_getElem?, List.getD_eq_getElem?_getD]
        rw [Array.append_assoc, e1, Array.getElem?_append_right (by simp; omega), Array.getElem?_append_left (by simp; omega)]
        simp [o2]
      generalize hA : olds.toArray ++ news'.toArray ++ rest = row at *
      have hin : ∀ b e, e ∈ L1 ++ .tail sz (.slice base l.length cap) :: L2 → e.touches b → b < w.heap.size := fun b e he ht => touches_lt hs he ht
      have hsw := Sim.swap (w' := w.drew.alloc (.cells row E)) hs (e1 := .tail sz (.slice (some ⟨w.heap.size, 0, none⟩) (l.length + xs.length) newCap)) rfl rfl rfl (by simp) (fun b hb _ => Below.heap_alloc w.drew _ b hb)
        (fun q hq _ => by
          obtain ⟨u, hu⟩ := Option.isSome_iff_exists.1 hq
          exact World.cell?_of_block (w := w) (Below.heap_alloc w.drew _ q.block (World.block_lt_of_cell? w q hu)))
        (fun b h => .inr (Nat.le_of_eq h.symm)) (fun q h => .inr (Nat.le_of_eq h.1.symm)) (fun hst => ⟨rfl, hge, row, E, (0, 0), heap_alloc_new w.drew _, .inl rfl, by simp only [hsize, Nat.zero_add]; exact Nat.le_refl _⟩)
      refine ⟨.slice (some ⟨w.heap.size, 0, none⟩) (l.length + xs.length) newCap, w.drew.alloc (.cells row E), .gs _ (l ++ xs), _, ?_, hsw, .gs _ _ ?_, hk _⟩
      · unfold execOp
        rw [hop]
        have hg2 : ¬ 281474976710656 < Builtin.nextslicecap (l.length + xs.length) cap * i.bytes := by rw [← hby]; omega
        have hzd : (zeroValue E).run P w.drew = .ok z w.drew := hzr w.drew
        have htd : (typeInfo E).run P w.drew = .ok i w.drew := hti w.drew
        have hask : (askRoom (newCap * i.bytes)).run P w.drew = .ok () w.drew := by unfold askRoom; split <;> rfl
        unfold grownCap at hcapn
        simp [resolve, invoke, Go.builtin, Builtin.append_, hvv, run_underlying hu, run_underlying hdx, hm, hEsz, x1, hfit, hti, hg2, Question.forced, hcapn, hask, o1, x2', hzd, hrs, newRow]
        rw [if_neg fun h => by have := h.1; omega, ← hA, Array.append_assoc]
      · have hcell : ∀ k, k < row.size → (w.drew.alloc (.cells row E)).cell? ⟨w.heap.size, k, none⟩ = some (row.getD k undef) := fun k hk => by
          rw [show w.heap.size = w.drew.heap.size from rfl, World.cell?_alloc_new]
          simp [Array.getD_eq_getD_getElem?, hk]
        have hlt : ∀ i k, i < (l ++ xs).length → k < sz → i * sz + k < row.size ∧ i * sz + k < (l.length + xs.length) * sz := fun i k hi hk => by
          rw [List.length_append] at hi
          have h1 := idx_lt hi hk
          have h2 : (l.length + xs.length) * sz ≤ newCap * sz := Nat.mul_le_mul_right _ hge
          rw [hsize]; omega
        refine .sl _ _ _ _ sz (by simp) hge (fun h => nomatch h) (fun b hb _ => by injection hb with hb; subst hb; rfl) hall (fun b i k hb hi hk => ?_) (fun b i k hb hi hk => ?_)
        · injection hb with hb; subst hb
          have h1 := hlt i k hi hk
          simp only [Nat.zero_add]
          refine ⟨by rw [hcell _ h1.1]; rfl, fun e he ho => ?_⟩
          rcases List.mem_append.1 he with he | he
          · exact absurd (hin _ e (by simp [he]) (Ent.touch ho)) (Nat.lt_irrefl _)
          · rcases List.mem_cons.1 he with he | he
            · subst he
              have h2 : 0 + (l.length + xs.length) * sz ≤ i * sz + k := ho.2.1
              omega
            · exact absurd (hin _ e (by simp [he]) (Ent.touch ho)) (Nat.lt_irrefl _)
        · injection hb with hb; subst hb
          have h1 := hlt i k hi hk
          simp only [Nat.zero_add]
          rw [cellAt, hcell _ h1.1, Option.getD_some, hget]
          by_cases hil : i < l.length
          · rw [if_pos hil, hv1 i k hil hk]
            exact hsw.2.rel (o3 i k hil hk)
          · rw [List.length_append] at hi
            have hi2 : i - l.length < xs.length := by omega
            rw [if_neg hil]
            have e := hv2 (i - l.length) k hi2 hk
            rw [show l.length + (i - l.length) = i by omega] at e
            rw [e]
            have := x4' (i - l.length) k hi2 hk
            exact this.mono fun q hq => hsw.2.cells q hq

/-- An append to nothing. -/
theorem DOp.append0_ {s x : Operand} {sT xT : TypeId} {xs : List V} (hop : o.op = .call { callee := .builtin .append, args := #[s, x], argTypes := #[sT, xT] }) (hfs : f s = .gs (.slice none 0 0) []) (hfx : srcL (f x) = some xs)
    (h : AppS P sT xT [] xs ∧ ∀ v', K (.gs v' xs) (.tail (ty P (ty P sT).elem).size v' :: H)) : DOp P o f H K :=
  DOp.tail0 (ty P (ty P sT).elem).size (DOp.append_ (d := .any) hop hfs hfx (On.here h))
/-- A list of the call's own, to be appended to. -/
theorem DOp.list_ {t : TypeId} {n : Nat} {parts : Array (Nat × Operand)} (hop : o.op = .buildSlice t n parts)
    (h : side P o f ∧ ∀ v l, val P o f = .sl l → K (.gs v l) (.tail (ty P (ty P t).elem).size v :: H)) : DOp P o f H K := by
  obtain ⟨hsd, h⟩ := h
  obtain ⟨l, hl⟩ : ∃ l, val P o f = .sl l := ⟨_, by unfold val; rw [hop]⟩
  refine DOp.step fun a w hs hr => ?_
  obtain ⟨ys, E, h1, h2, h3⟩ := list_run hop hsd hs hr
  rw [hl] at h3
  have hx := hs.add (w' := w.alloc (.cells ys E)) (e1 := .tail (ty P (ty P t).elem).size (.slice (some ⟨w.heap.size, 0, none⟩) n n)) rfl rfl rfl (by simp) (fun b hb => Below.heap_alloc w _ b hb) (fun b hb => Nat.le_of_eq hb.symm) (fun _ =>
    ⟨rfl, Nat.le_refl _, ys, E, (0, 0), heap_alloc_new w _, .inl rfl, by simp only [h2, Nat.zero_add]; exact Nat.le_refl _⟩)
  refine ⟨_, _, .gs (.slice (some ⟨w.heap.size, 0, none⟩) n n) l, _, h1, hx, .gs _ _ (h3.mono fun q hq => ⟨⟨hq.1, fun e he ho => ?_⟩, rfl⟩), h _ l hl⟩
  rcases List.mem_cons.1 he with he | he
  · subst he
    have ho' : q.block = w.heap.size ∧ 0 + n * (ty P (ty P t).elem).size ≤ q.off ∧ q.off < 0 + n * (ty P (ty P t).elem).size := ho
    omega
  · exact hq.2 e he ho
end
end Go.Proofs.YtnnigbnlhhikjaaDoor
