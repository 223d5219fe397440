/- Slices whose elements are owned: loads, stores, appends; how they are let go. No statement of the program. -/
import Derived.Test.YtnnigbnlhhikjaaDoorEi
namespace Go.Proofs.YtnnigbnlhhikjaaDoor
open Go.RowKit
set_option linter.unusedSimpArgs false
set_option linter.unusedVariables false
set_option linter.unusedSectionVars false

/-- The cells of a row of data. -/
def cells (l : List V) : List V := (l.map V.cs).flatten
theorem cells_nil : cells [] = [] := rfl
theorem cells_cons (d : V) (l : List V) : cells (d :: l) = d.cs ++ cells l := rfl
theorem cells_append (l m : List V) : cells (l ++ m) = cells l ++ cells m := by simp [cells]
theorem cells_len {sz : Nat} : ∀ l : List V, (∀ y ∈ l, y.n = sz) → (cells l).length = l.length * sz
  | [], _ => by simp [cells_nil]
  | d :: l, h => by
    rw [cells_cons, List.length_append, cells_len l fun y hy => h y (List.mem_cons_of_mem _ hy), cs_n, h d (by simp), List.length_cons, Nat.add_mul]; omega
theorem cells_at {sz : Nat} : ∀ (l : List V) (i k : Nat), (∀ y ∈ l, y.n = sz) → i < l.length → k < sz → (cells l).getD (i * sz + k) .any = (l.getD i .any).cell k
  | [], i, k, _, h, _ => absurd h (Nat.not_lt_zero _)
  | d :: l, 0, k, h, _, hk => by
    have hd : d.cs.length = sz := by rw [cs_n, h d (by simp)]
    rw [cells_cons, Nat.zero_mul, Nat.zero_add, List.getD_eq_getElem?_getD, List.getElem?_append_left (by omega), ← List.getD_eq_getElem?_getD, List.getD_cons_zero, cs_cell d k (by omega)]
  | d :: l, i + 1, k, h, hi, hk => by
    have hd : d.cs.length = sz := by rw [cs_n, h d (by simp)]
    have := cells_at l i k (fun y hy => h y (List.mem_cons_of_mem _ hy)) (by simpa using hi) hk
    rw [cells_cons, List.getD_cons_succ, ← this, List.getD_eq_getElem?_getD, List.getElem?_append_right (by rw [Nat.add_mul]; omega), ← List.getD_eq_getElem?_getD, hd]
    congr 1
    rw [Nat.add_mul]; omega

def OnA (H : Own) (v : Value) (G : Nat → List V → (Ent → Own) → Prop) : Prop := ∃ sz cs, On H (.arr sz v cs) (G sz cs)
theorem OnA.here {H : Own} {sz : Nat} {v : Value} {cs : List V} {G : Nat → List V → (Ent → Own) → Prop} (h : G sz cs fun x => x :: H) : OnA (.arr sz v cs :: H) v G := ⟨sz, cs, On.here h⟩
theorem OnA.next {H : Own} {v : Value} {y : Ent} {G : Nat → List V → (Ent → Own) → Prop} (h : OnA H v fun sz cs C => G sz cs fun x => y :: C x) : OnA (y :: H) v G := by
  obtain ⟨sz, cs, h⟩ := h
  exact ⟨sz, cs, On.next h⟩

theorem arr_of {w : World} {L1 L2 : Own} {sz n cap : Nat} {p : Addr} {cs : List V} (hs : Sim w (L1 ++ .arr sz (.slice (some p) n cap) cs :: L2)) : p.spot = none ∧ n ≤ cap ∧ cs.length = n * sz ∧ ∃ xs T fr, w.heap[p.block]? = some (.cells xs T fr) ∧ free fr p.off (p.off + cap * sz) ∧ p.off + cap * sz ≤ xs.size ∧
    (∀ k, k < cs.length → R (stable w (L1 ++ .arr sz (.slice (some p) n cap) cs :: L2)) w (xs.getD (p.off + k) undef) (cs.getD k .any)) ∧
    (∀ k, p.off ≤ k → k < p.off + cap * sz → w.cell? ⟨p.block, k, none⟩ = some (xs.getD k undef) ∧ w.frozen? ⟨p.block, k, none⟩ = false) ∧ cs.length ≤ cap * sz := by
  obtain ⟨h0, h1, h2, xs, T, fr, h3, h4, h5, h6⟩ := hs.holds (.arr sz (.slice (some p) n cap) cs) (by simp)
  refine ⟨h0, h1, h2, xs, T, fr, h3, h4, h5, h6, fun k hk hk' => ⟨?_, ?_⟩, by rw [h2]; exact Nat.mul_le_mul_right _ h1⟩
  · have hk' : k < xs.size := by omega
    simp [World.cell?, h3, Array.getD_eq_getD_getElem?, hk']
  · exact frozen_of h3 (h4.at k hk hk')

section
variable {P : Program} {o : Oper} {f : Operand → V} {H : Own} {K : V → Own → Prop}
/-- A load of an element that is owned. -/
theorem DOp.loada_ {t : TypeId} {x : Operand} {v : Value} {k : Nat} (hop : o.op = .load t x) (hx : f x = .ep v k) (h : OnA H v fun _ cs _ => partS (ty P t) (cs.drop k) 0 ∧ K (partV (ty P t) (cs.drop k) 0) H) : DOp P o f H K := by
  obtain ⟨sz, cs, L1, L2, rfl, hp, hk⟩ := h
  refine DOp.step fun a w hs hr => ?_
  have hv := hr x (by simp [hop, Op.operands])
  rw [hx] at hv
  generalize hva : a.eval x = u at hv
  cases hv with
  | ep b n cap k =>
    obtain ⟨s0, hnc, hl, xs, T, fr, h1, h2, h3, h4, h5, h6⟩ := arr_of hs
    have hva : a.eval x = .pointer (some ⟨b.block, b.off + k, none⟩) := by rw [hva, addr_add b k s0]
    obtain ⟨v, e1, e2⟩ := loadVar_run (P := P) (S := stable w (L1 ++ .arr sz (.slice (some b) n cap) cs :: L2)) (w := w) (t := t) (b := ⟨b.block, b.off + k, none⟩) (cs := cs.drop k) rfl (fun j hj => by
      rw [List.length_drop] at hj
      simp only
      rw [(h5 (b.off + k + j) (by omega) (by omega)).1]; rfl) (fun j hj => by
      rw [List.length_drop] at hj
      have := h4 (k + j) (by omega)
      simp only
      rw [cellAt, (h5 (b.off + k + j) (by omega) (by omega)).1]
      simpa [List.getD_eq_getElem?_getD, List.getElem?_drop, Nat.add_assoc] using this) hp
    refine ⟨v, w, _, _, ?_, ⟨hs, .refl _ _⟩, e2, hk⟩
    unfold execOp
    rw [hop]
    simp [Instr.loadAt, hva, Instr.sureAddr, e1]
/-- A store into an element that is owned. -/
theorem DOp.storea_ {t : TypeId} {p x : Operand} {v : Value} {off : Nat} (hop : o.op = .store t p x) (hp : f p = .ep v off)
    (h : OnA H v fun sz cs C => (f x).solid = true ∧ (f x).cs.all V.one = true ∧ (ty P t).kind ≠ 0 ∧ (ty P t).kind ≠ 11 ∧ (f x).cs.length = (ty P t).size ∧ off + (ty P t).size ≤ cs.length ∧ K .any (C (.arr sz v (layV cs off (f x).cs)))) : DOp P o f H K := by
  obtain ⟨sz, cs, L1, L2, rfl, h1, h2, h3, h4, h5, h6, hk⟩ := h
  refine DOp.skip_ fun a w hs hr => ?_
  have hv := hr p (by simp [hop, Op.operands])
  rw [hp] at hv
  have hx := hr x (by simp [hop, Op.operands])
  obtain ⟨c1, c2⟩ := hx.solid h1
  generalize hva : a.eval p = u at hv
  cases hv with
  | ep b n cap off =>
  obtain ⟨s0, hnc, hl, xs, T, fr, g1, g2, g3, g4, g5, g6⟩ := arr_of hs
  have hva : a.eval p = .pointer (some ⟨b.block, b.off + off, none⟩) := by rw [hva, addr_add b off s0]
  obtain ⟨bb, bo, bsp⟩ := b
  simp only at s0
  subst s0
  simp only at *
  have hone : ∀ u ∈ (a.eval x).cells.toList, u.oneCell' = true := fun u hu => by
    obtain ⟨i, hi, rfl⟩ := List.getElem_of_mem hu
    have hi' : i < (a.eval x).cells.size := by simpa using hi
    have := c2 i (by omega)
    have h1' := List.all_eq_true.1 h2 ((f x).cs[i]'(by omega)) (List.getElem_mem _)
    have e : (f x).cs.getD i .any = (f x).cs[i]'(by omega) := by
      have : i < (f x).cs.length := by omega
      simp [List.getD_eq_getElem?_getD, this]
    rw [e] at this
    have := one_cell this h1'
    simpa [Array.getD_eq_getD_getElem?, hi'] using this
  have hrun := run_storeCells_cells (P := P) bb (bo + off) (a.eval x).cells.toList 0 w (fun j hj => by
      simp only [Array.length_toList] at hj
      rw [Nat.add_zero, (g5 (bo + off + j) (by omega) (by omega)).1]; rfl) (fun j hj => by
      simp only [Array.length_toList] at hj
      rw [Nat.add_zero]; exact (g5 (bo + off + j) (by omega) (by omega)).2) hone
  rw [Nat.add_zero] at hrun
  obtain ⟨ys, y1, y2, y3⟩ := setCells_row bb (a.eval x).cells.toList (bo + off) w xs T fr g1 (by simp; omega)
  obtain ⟨r1, r2, r3⟩ := setCells_rest bb (a.eval x).cells.toList (bo + off) w
  obtain ⟨l1, l2⟩ := lay_at cs (f x).cs off (by omega)
  refine ⟨w.setCells bb (bo + off) (a.eval x).cells.toList, _, ?_, Sim.swap hs (e1 := .arr sz (.slice (some ⟨bb, bo, none⟩) n cap) (layV cs off (f x).cs)) r1 r2 r3 (by rw [setCells_size]; exact Nat.le_refl _) (fun k hk hn => setCells_other bb _ _ _ k fun e => hn e) (fun q hq hn => World.cell?_setCells_out bb _ _ _ q fun e1 e2 => by
      have hn' : ¬ (q.block = bb ∧ bo ≤ q.off ∧ q.off < bo + cap * sz) := hn
      simp only [Array.length_toList]
      omega)
    (fun k h => .inl h) (fun q h => .inl h) (fun hst => ?_), hk⟩
  · unfold execOp
    rw [hop]
    simp [Instr.storeAt, hva, Instr.sureAddr, storeVar, run_sizeOf h3 h4, c1, h5, hrun]
  · refine ⟨rfl, hnc, by rw [l1]; exact hl, ys, T, fr, y1, g2, by rw [y2]; exact g3, fun k hk => ?_⟩
    simp only
    rw [y3 (bo + k), l2 k]
    rw [l1] at hk
    simp only [Array.length_toList]
    by_cases hk' : off ≤ k ∧ k < off + (f x).cs.length
    · rw [if_pos hk', if_pos (by omega)]
      have := (c2 (k - off) (by omega)).mono hst
      rw [show bo + k - (bo + off) = k - off by omega]
      simpa [Array.getD_eq_getD_getElem?, List.getD_eq_getElem?_getD] using this
    · rw [if_neg hk', if_neg (by omega)]
      exact (g4 k hk).mono hst
end

/-- A slice whose elements are owned is let go: its elements count as they are from here on. -/
theorem Sim.frz {w : World} {L1 L2 : Own} {sz : Nat} {v : Value} {l : List V} (hs : Sim w (L1 ++ .arr sz v (cells l) :: L2)) (hz : 0 < sz) (hl : ∀ y ∈ l, y.n = sz) :
    (Sim w (L1 ++ .tail sz v :: L2) ∧ Ext w (L1 ++ .arr sz v (cells l) :: L2) w (L1 ++ .tail sz v :: L2)) ∧ R (stable w (L1 ++ .tail sz v :: L2)) w v (.gs v l) := by
  have hh := hs.holds (.arr sz v (cells l)) (by simp)
  have hlen := cells_len l hl
  cases v with
  | slice a n cap =>
    cases a with
    | none =>
      obtain ⟨rfl, rfl, h0⟩ := hh
      refine ⟨Sim.swap hs (e1 := .tail sz (.slice none 0 0)) rfl rfl rfl (Nat.le_refl _) (fun _ _ _ => rfl) (fun _ _ _ => rfl) (fun b h => h.elim) (fun q h => h.elim) (fun _ => ⟨rfl, rfl⟩), ?_⟩
      have h1 : l.length * sz = 0 := by rw [← hlen, h0]; rfl
      have : l = [] := by
        rcases Nat.mul_eq_zero.1 h1 with h | h
        · exact List.eq_nil_of_length_eq_zero h
        · omega
      subst this
      exact R.nil _ _
    | some p =>
      obtain ⟨s0, hnc, h2, xs, T, fr, h3, h4, h5, h6, h7, h8⟩ := arr_of hs
      have hln : l.length = n := Nat.eq_of_mul_eq_mul_right hz (by rw [← hlen, h2])
      subst hln
      have hsub : ∀ q, Ent.owns (.tail sz (.slice (some p) l.length cap)) q → Ent.owns (.arr sz (.slice (some p) l.length cap) (cells l)) q := fun q h => by
        have h' : q.block = p.block ∧ p.off + l.length * sz ≤ q.off ∧ q.off < p.off + cap * sz := h
        exact ⟨h'.1, by omega, h'.2.2⟩
      have hsw := Sim.swap hs (e1 := .tail sz (.slice (some p) l.length cap)) rfl rfl rfl (Nat.le_refl _) (fun _ _ _ => rfl) (fun _ _ _ => rfl) (fun b h => .inl h) (fun q h => .inl (hsub q h)) (fun _ => ⟨s0, hnc, xs, T, fr, h3, h4, h5⟩)
      refine ⟨hsw, .gs _ _ (.sl _ _ _ _ sz rfl hnc (fun h => nomatch h) (fun b hb _ => by injection hb with hb; subst hb; exact s0) (fun i hi => ?_) (fun b i k hb hi hk => ?_) (fun b i k hb hi hk => ?_))⟩
      · rw [show l.getD i .any = l[i] by simp [List.getD_eq_getElem?_getD, hi]]; exact hl _ (List.getElem_mem hi)
      · injection hb with hb; subst hb
        have h1 := idx_lt hi hk
        refine ⟨by rw [(h7 (p.off + i * sz + k) (by omega) (by omega)).1]; rfl, fun e he ho => ?_⟩
        have hap := hs.apart
        rw [List.pairwise_append, List.pairwise_cons] at hap
        obtain ⟨p1, ⟨p2, p3⟩, p4⟩ := hap
        have htb : Ent.touches (.arr sz (.slice (some p) l.length cap) (cells l)) p.block := rfl
        rcases List.mem_append.1 he with he | he
        · exact p4 e he _ (by simp) p.block (Ent.touch (a := ⟨p.block, p.off + i * sz + k, none⟩) ho) htb
        · rcases List.mem_cons.1 he with he | he
          · subst he
            have ho' : p.block = p.block ∧ p.off + l.length * sz ≤ p.off + i * sz + k ∧ p.off + i * sz + k < p.off + cap * sz := ho
            omega
          · exact p2 e he p.block htb (Ent.touch (a := ⟨p.block, p.off + i * sz + k, none⟩) ho)
      · injection hb with hb; subst hb
        have h1 := idx_lt hi hk
        rw [cellAt, (h7 (p.off + i * sz + k) (by omega) (by omega)).1, Option.getD_some, ← cells_at l i k hl hi hk, Nat.add_assoc]
        exact hsw.2.rel (h6 _ (by omega))
  | _ => exact hh.elim

/-- A datum whose slice v is read as l from here on. -/
inductive Cv (v : Value) (l : List V) : V → V → Prop
  | rfl (d : V) : Cv v l d d
  | hit (n : Nat) : Cv v l (.ar v n) (.gs v l)
  | agg (cs ds : List V) (hn : cs.length = ds.length) (h : ∀ k, k < cs.length → Cv v l (cs.getD k .any) (ds.getD k .any)) : Cv v l (.agg cs) (.agg ds)
  | tup (cs ds : List V) (hn : cs.length = ds.length) (h : ∀ k, k < cs.length → Cv v l (cs.getD k .any) (ds.getD k .any)) : Cv v l (.tup cs) (.tup ds)
inductive CvL (v : Value) (l : List V) : List V → List V → Prop
  | nil : CvL v l [] []
  | cons {a b : V} {x y : List V} (h : Cv v l a b) (t : CvL v l x y) : CvL v l (a :: x) (b :: y)
theorem CvL.len {v : Value} {l x y : List V} (h : CvL v l x y) : x.length = y.length := by induction h with | nil => rfl | cons _ _ ih => simp [ih]
theorem CvL.at {v : Value} {l x y : List V} (h : CvL v l x y) (k : Nat) : Cv v l (x.getD k .any) (y.getD k .any) := by
  induction h generalizing k with
  | nil => exact .rfl _
  | cons h t ih => cases k with
    | zero => exact h
    | succ k => exact ih k
theorem Cv.aggL {v : Value} {l cs ds : List V} (h : CvL v l cs ds) : Cv v l (.agg cs) (.agg ds) := .agg _ _ h.len fun k _ => h.at k
theorem Cv.tupL {v : Value} {l cs ds : List V} (h : CvL v l cs ds) : Cv v l (.tup cs) (.tup ds) := .tup _ _ h.len fun k _ => h.at k
theorem R.cv {S : Addr → Prop} {w : World} {v : Value} {l : List V} (hv : R S w v (.gs v l)) : ∀ {d d' : V}, Cv v l d d' → ∀ {u : Value}, R S w u d → R S w u d' := by
  intro d d' h
  induction h with
  | rfl d => exact fun h => h
  | hit n => intro u h; cases h; exact hv
  | agg cs ds hn _ ih => intro u h; cases h with | agg xs _ h1 h2 => exact .agg _ _ (h1.trans hn) fun k hk => ih k (by omega) (h2 k (by omega))
  | tup cs ds hn _ ih => intro u h; cases h with | tup xs _ h1 h2 => exact .tup _ _ (h1.trans hn) fun k hk => ih k (by omega) (h2 k (by omega))
/-- A frame whose slice v is read as l from here on. -/
inductive CvE (v : Value) (l : List V) : Env → Env → Prop
  | nil : CvE v l [] []
  | cons {k : Nat} {a b : V} {x y : Env} (h : Cv v l a b) (t : CvE v l x y) : CvE v l ((k, a) :: x) ((k, b) :: y)
theorem CvE.get {v : Value} {l : List V} {e e' : Env} (h : CvE v l e e') (t : Nat) : Cv v l (get e t) (get e' t) := by
  induction h with
  | nil => exact .rfl _
  | cons h _ ih =>
    simp only [Go.Proofs.YtnnigbnlhhikjaaDoor.get]
    split
    · exact h
    · exact ih
theorem DW.frzA {P : Program} {n : Nat} {Q : Exit → Env → Own → Prop} {e e' : Env} {H : Own} {c : Code} (v : Value) {l : List V}
    (h : OnA H v fun sz cs C => cs = cells l ∧ 0 < sz ∧ (∀ y ∈ l, y.n = sz) ∧ CvE v l e e' ∧ DW P n c Q e' (C (.tail sz v))) : DW P n c Q e H := by
  obtain ⟨sz, cs, L1, L2, rfl, rfl, hz, hl, hc, h⟩ := h
  intro a w hs hr
  obtain ⟨⟨g1, g2⟩, g3⟩ := hs.frz hz hl
  exact wp_mono (h a w g1 ⟨hr.size, fun t => R.cv g3 (hc.get t) (g2.rel (hr.slot t))⟩) fun x a1 w1 ⟨hd, e1, H1, s, r, x1, q⟩ => ⟨hd, e1, H1, s, r, g2.trans x1, q⟩
/-- Nothing yet, to be owned. -/
theorem Sim.arr0 {w : World} {H : Own} (sz : Nat) (hs : Sim w H) : Sim w (.arr sz (.slice none 0 0) [] :: H) ∧ Ext w H w (.arr sz (.slice none 0 0) [] :: H) :=
  hs.add rfl rfl rfl (Nat.le_refl _) (fun _ _ => rfl) (fun _ h => h.elim) fun _ => ⟨rfl, rfl, rfl⟩
theorem DW.own0 (sz : Nat) (t : Nat) {P : Program} {n : Nat} {Q : Exit → Env → Own → Prop} {e : Env} {H : Own} {c : Code} (ht : get e t = .gs (.slice none 0 0) [])
    (h : DW P n c Q (put e t (.ar (.slice none 0 0) 0)) (.arr sz (.slice none 0 0) [] :: H)) : DW P n c Q e H := fun a w hs hr => by
  obtain ⟨g1, g2⟩ := hs.arr0 sz
  refine wp_mono (h a w g1 ⟨hr.size, fun u => ?_⟩) fun x a1 w1 ⟨hd, e1, H1, s, r, x1, q⟩ => ⟨hd, e1, H1, s, r, g2.trans x1, q⟩
  by_cases hu : u = t
  · subst hu
    rw [get_put_same]
    have := hr.slot u
    rw [ht] at this
    generalize a.tmps.getD u undef = y at this ⊢
    cases this
    exact .ar _ _ _ (Nat.le_refl _) (fun _ => rfl)
  · rw [get_put_ne _ _ _ _ hu]
    exact g2.rel (hr.slot u)
/-- What is asked of an append to a slice whose elements are owned. -/
structure AppA (P : Program) (sT xT : TypeId) (n : Nat) (xs : List V) : Prop where
  k : (ty P sT).kind = 4
  e0 : (ty P (ty P sT).elem).kind ≠ 0
  e1 : (ty P (ty P sT).elem).kind ≠ 11
  x0 : (ty P xT).kind ≠ 0
  x1 : (ty P xT).kind ≠ 11
  x2 : (ty P xT).kind ≠ 2
  pos : 0 < (ty P (ty P sT).elem).size
  zero : (ty P (ty P sT).elem).zero.length = (ty P (ty P sT).elem).size
  room : (n + xs.length) * (ty P (ty P sT).elem).bytes ≤ 140737488355328
  len : n + xs.length ≤ 4611686018427387904
  new : ∀ y ∈ xs, y.n = (ty P (ty P sT).elem).size ∧ y.cs.all V.one = true
theorem AppA_iff {P : Program} {sT xT : TypeId} {n : Nat} {xs : List V} : AppA P sT xT n xs ↔ (ty P sT).kind = 4 ∧ (ty P (ty P sT).elem).kind ≠ 0 ∧ (ty P (ty P sT).elem).kind ≠ 11 ∧ (ty P xT).kind ≠ 0 ∧ (ty P xT).kind ≠ 11 ∧ (ty P xT).kind ≠ 2 ∧ 0 < (ty P (ty P sT).elem).size ∧
    (ty P (ty P sT).elem).zero.length = (ty P (ty P sT).elem).size ∧ (n + xs.length) * (ty P (ty P sT).elem).bytes ≤ 140737488355328 ∧ n + xs.length ≤ 4611686018427387904 ∧ ∀ y ∈ xs, y.n = (ty P (ty P sT).elem).size ∧ y.cs.all V.one = true :=
  ⟨fun ⟨a, b, c, d, e, f, g, h, i, j, l⟩ => ⟨a, b, c, d, e, f, g, h, i, j, l⟩, fun ⟨a, b, c, d, e, f, g, h, i, j, l⟩ => ⟨a, b, c, d, e, f, g, h, i, j, l⟩⟩
section
variable {P : Program} {o : Oper} {f : Operand → V} {H : Own} {K : V → Own → Prop}
theorem DOp.appa_ {s x : Operand} {sT xT : TypeId} {v : Value} {n : Nat} {xs : List V} (hop : o.op = .call { callee := .builtin .append, args := #[s, x], argTypes := #[sT, xT] }) (hfs : f s = .ar v n) (hfx : srcL (f x) = some xs)
    (h : OnA H v fun sz cs C => sz = (ty P (ty P sT).elem).size ∧ AppA P sT xT n xs ∧ ∀ v', K (.ar v' (n + xs.length)) (C (.arr sz v' (cs ++ cells xs)))) : DOp P o f H K := by
  obtain ⟨sz, cs, L1, L2, rfl, rfl, hA, hk⟩ := h
  generalize hE : (ty P sT).elem = E at *
  refine DOp.step fun a w hs hr => ?_
  have hS : ∀ q, stable w (L1 ++ .arr (ty P E).size v cs :: L2) q → (w.cell? q).isSome = true := fun q hq => hq.1
  have hvs := hr s (by simp [hop, Op.operands, Call.operands])
  rw [hfs] at hvs
  generalize hvv : a.eval s = u at hvs
  cases hvs with
  | ar base n cap hcap hnil =>
  obtain ⟨hA0, hA1, hA2, hA3, hA4, hA5, hA6, hA7, hA8, hA9, hA11⟩ := hA
  rw [hE] at hA1 hA2 hA6 hA7 hA8 hA11
  generalize hsz : (ty P E).size = sz at *
  obtain ⟨x1, news, x2, x3, x4⟩ := src_run (P := P) hS (hr x (by simp [hop, Op.operands, Call.operands])) hfx (fun y hy => (hA11 y hy).1)
  have hcx := cells_len xs fun y hy => (hA11 y hy).1
  have split : ∀ j, j < xs.length * sz → j / sz < xs.length ∧ j % sz < sz ∧ j / sz * sz + j % sz = j := fun j hj =>
    ⟨Nat.div_lt_of_lt_mul (by rw [Nat.mul_comm]; exact hj), Nat.mod_lt j hA6, by rw [Nat.mul_comm]; exact Nat.div_add_mod j sz⟩
  have flat : ∀ (S : Addr → Prop) (W : World) (nw : List Value), (∀ i k, i < xs.length → k < sz → R S W (nw.getD (i * sz + k) undef) ((xs.getD i .any).cell k)) → ∀ j, j < xs.length * sz → R S W (nw.getD j undef) ((cells xs).getD j .any) := fun S W nw hx j hj => by
    obtain ⟨q1, q2, q3⟩ := split j hj
    have := hx _ _ q1 q2
    rw [← cells_at xs (j / sz) (j % sz) (fun y hy => (hA11 y hy).1) q1 q2, q3] at this
    exact this
  have hu := und_slice hA0
  rw [hE] at hu
  have hEsz : (sizeOf E).run P w = .ok sz w := by rw [run_sizeOf hA1 hA2, hsz]
  obtain ⟨dx, hdx, hdi⟩ := not_int (w := w) hA3 hA4 hA5
  have hm : (dx matches .int _) = false := by cases dx <;> first | rfl | exact absurd rfl (hdi _)
  by_cases hfit : n + xs.length ≤ cap
  · -- there is room
    cases base with
    | none =>
      have hc0 := hnil rfl
      have hh := hs.holds (.arr sz (.slice none n cap) cs) (by simp)
      obtain ⟨t1, t2, t3⟩ := hh
      subst t1
      subst t2
      subst t3
      have hx0 : xs = [] := List.eq_nil_of_length_eq_zero (by omega)
      subst hx0
      refine ⟨_, w, .ar (.slice none 0 0) 0, _, ?_, ⟨hs, .refl _ _⟩, .ar _ _ _ (Nat.le_refl _) (fun _ => rfl), by simpa [cells] using hk (.slice none 0 0)⟩
      unfold execOp
      rw [hop]
      have hn0 : news = [] := List.eq_nil_of_length_eq_zero (by simpa using x3)
      subst hn0
      have x1' : (Builtin.lenOf (a.eval x)).run P w = .ok 0 w := x1
      have x2' : (Builtin.firstCells sz 0 (a.eval x)).run P w = .ok #[] w := x2
      simp [resolve, invoke, Go.builtin, Builtin.append_, hvv, run_underlying hu, run_underlying hdx, hm, hEsz, x1', x2']
    | some b =>
      obtain ⟨s0, hnc, hl, ys, T, fr, g1, g2, g3, g4, g5, g6⟩ := arr_of hs
      obtain ⟨bb, bo, bs'⟩ := b
      simp only at s0
      subst s0
      simp only at g1 g2 g3 g4 g5
      have hone : ∀ u ∈ news, u.oneCell' = true := fun u hu' => by
        obtain ⟨j, hj, rfl⟩ := List.getElem_of_mem hu'
        rw [x3] at hj
        obtain ⟨hi, hm', hjj⟩ := split j hj
        have := x4 (j / sz) (j % sz) hi hm'
        rw [hjj] at this
        have hin := hA11 _ (List.getElem_mem hi)
        have e : xs.getD (j / sz) .any = xs[j / sz] := by simp [List.getD_eq_getElem?_getD, hi]
        rw [e] at this
        have hlt : j % sz < (xs[j / sz]).cs.length := by rw [cs_n, hin.1]; exact hm'
        rw [cs_cell _ _ hlt] at this
        have e2 : (xs[j / sz]).cs.getD (j % sz) .any = (xs[j / sz]).cs[j % sz] := by simp [List.getD_eq_getElem?_getD, hlt]
        rw [e2] at this
        have h1 := one_cell this (List.all_eq_true.1 hin.2 _ (List.getElem_mem hlt))
        have e3 : news.getD j undef = news[j]'(by rw [x3]; exact hj) := by simp [List.getD_eq_getElem?_getD, x3, hj]
        rw [e3] at h1
        exact h1
      have hmul : n * sz + xs.length * sz ≤ cap * sz := by rw [← Nat.add_mul]; exact Nat.mul_le_mul_right _ hfit
      have hrun := run_storeCells_cells (P := P) bb (bo + n * sz) news 0 w (fun j hj => by
          rw [Nat.add_zero, (g5 (bo + n * sz + j) (by omega) (by omega)).1]; rfl) (fun j hj => by
          rw [Nat.add_zero]; exact (g5 (bo + n * sz + j) (by omega) (by omega)).2) hone
      rw [Nat.add_zero] at hrun
      obtain ⟨zs, z1, z2, z3⟩ := setCells_row bb news (bo + n * sz) w ys T fr g1 (by omega)
      obtain ⟨r1, r2, r3⟩ := setCells_rest bb news (bo + n * sz) w
      have hsw := Sim.swap (w' := w.setCells bb (bo + n * sz) news) hs (e1 := .arr sz (.slice (some ⟨bb, bo, none⟩) (n + xs.length) cap) (cs ++ cells xs)) r1 r2 r3 (by rw [setCells_size]; exact Nat.le_refl _)
        (fun k hk hn => setCells_other bb _ _ _ k fun e => hn e) (fun q hq hn => World.cell?_setCells_out bb _ _ _ q fun e1 e2 => by
          have hn' : ¬ (q.block = bb ∧ bo ≤ q.off ∧ q.off < bo + cap * sz) := hn
          omega)
        (fun k h => .inl h) (fun q h => .inl h) (fun hst => by
          refine ⟨rfl, hfit, by rw [List.length_append, hl, hcx, Nat.add_mul], zs, T, fr, z1, g2, by rw [z2]; exact g3, fun k hk => ?_⟩
          simp only
          rw [z3]
          rw [List.length_append, hcx] at hk
          by_cases hkc : k < cs.length
          · rw [if_neg (by omega), List.getD_eq_getElem?_getD, List.getElem?_append_left hkc, ← List.getD_eq_getElem?_getD]
            exact (g4 k hkc).mono hst
          · rw [if_pos (by omega), List.getD_eq_getElem?_getD (l := cs ++ cells xs), List.getElem?_append_right (by omega), ← List.getD_eq_getElem?_getD]
            rw [show bo + k - (bo + n * sz) = k - cs.length by omega]
            exact (flat _ _ news x4 (k - cs.length) (by omega)).mono hst)
      refine ⟨_, _, .ar (.slice (some ⟨bb, bo, none⟩) (n + xs.length) cap) (n + xs.length), _, ?_, hsw, .ar _ _ _ hfit (fun h => nomatch h), hk _⟩
      unfold execOp
      rw [hop]
      have hadd : (⟨bb, bo, none⟩ : Addr).add (n * sz) = ⟨bb, bo + n * sz, none⟩ := addr_add _ _ rfl
      simp [resolve, invoke, Go.builtin, Builtin.append_, hvv, run_underlying hu, run_underlying hdx, hm, hEsz, x1, x2, hfit, hadd, hrun]
  · -- a new row
    have hneed : cap < n + xs.length := by omega
    have hgrow := growslice_fits hneed hA8
    obtain ⟨i, d', hi, _, _, _, hby, hz⟩ := ty_info (t := E) rfl hA1 hA2
    cases hzz : i.zero with
    | none => rw [hzz] at hz; simp [hz] at hA7; omega
    | some z =>
      obtain ⟨zr1, zr2⟩ := zero_rel (P := P) (S := stable w (L1 ++ .arr sz (.slice base n cap) cs :: L2)) (w := w) hi hzz hz
      have hzr : ∀ w, (zeroValue E).run P w = .ok z w := fun w => by simp [zeroValue, typeInfo, program, Sem.run, hi, hzz]
      have hti : ∀ w, (typeInfo E).run P w = .ok i w := fun w => by simp [typeInfo, program, Sem.run, hi]
      have hold : ∃ olds : List Value, (Builtin.firstCells sz n (.slice base n cap)).run P w.drew = .ok olds.toArray w.drew ∧ olds.length = n * sz ∧ cs.length = n * sz ∧
          ∀ j, j < n * sz → R (stable w (L1 ++ .arr sz (.slice base n cap) cs :: L2)) w (olds.getD j undef) (cs.getD j .any) := by
        cases base with
        | none =>
          have h0 := hnil rfl
          have hn0 : n = 0 := by omega
          have hh := hs.holds (.arr sz (.slice none n cap) cs) (by simp)
          obtain ⟨t1, t2, t3⟩ := hh
          subst hn0
          subst t3
          exact ⟨[], by simp [Builtin.firstCells], by simp, by simp, fun i hi => by simp at hi⟩
        | some b =>
          obtain ⟨s0, hnc, hl, ys, T, fr, g1, g2, g3, g4, g5, g6⟩ := arr_of hs
          refine ⟨(List.range (n * sz)).map fun j => cellAt w ⟨b.block, b.off + j, none⟩, ?_, by simp, hl, fun j hj => ?_⟩
          · refine run_firstCells_some (P := P) w.drew sz n b n cap _ (by simp) fun j u hj => ?_
            have hj' : j < n * sz := by
              have := (List.getElem?_eq_some_iff.1 hj).1
              simpa using this
            rw [addr_add b j s0]
            rw [List.getElem?_map] at hj
            simp [hj'] at hj
            rw [World.cell?_drew, ← hj, cellAt, (g5 (b.off + j) (by omega) (by omega)).1]; rfl
          · have := g4 j (by omega)
            have e : cellAt w ⟨b.block, b.off + j, none⟩ = ys.getD (b.off + j) undef := by rw [cellAt, (g5 (b.off + j) (by omega) (by omega)).1]; rfl
            simpa [List.getD_eq_getElem?_getD, hj, e] using this
      obtain ⟨olds, o1, o2, hl, o3⟩ := hold
      have hdr := hs.drew
      obtain ⟨_, news', x2', x3', x4'⟩ := src_run (P := P) (fun q (hq : stable w.drew _ q) => hq.1) (hdr.2.rel (hr x (by simp [hop, Op.operands, Call.operands]))) hfx (fun y hy => (hA11 y hy).1)
      have hge := grownCap_ge w (n + xs.length) cap E
      generalize hcapn : grownCap w (n + xs.length) cap E = newCap at *
      have hrest := size_zeroCells z.cells (newCap - (n + xs.length))
      generalize hrs : Builtin.zeroCells z.cells (newCap - (n + xs.length)) = rest at *
      have hzc : z.cells.size = sz := zr1.trans hA7
      have hsize : (olds.toArray ++ news'.toArray ++ rest).size = newCap * sz := by
        simp only [Array.size_append, List.size_toArray, o2, x3', hrest, hzc, ← Nat.add_mul]
        congr 1; omega
      have hmul : n * sz + xs.length * sz ≤ newCap * sz := by rw [← Nat.add_mul]; exact Nat.mul_le_mul_right _ hge
      have hv1 : ∀ j, j < n * sz → (olds.toArray ++ news'.toArray ++ rest).getD j undef = olds.getD j undef := fun j hj => by
        simp only [Array.getD_eq_getD_getElem?, List.getD_eq_getElem?_getD]
        rw [Array.append_assoc, Array.getElem?_append_left (by simp; omega)]
        simp
      have hv2 : ∀ j, j < xs.length * sz → (olds.toArray ++ news'.toArray ++ rest).getD (n * sz + j) undef = news'.getD j undef := fun j hj => by
        simp only [Array.getD_eq_getD_getElem?, List.getD_eq_getElem?_getD]
        rw [Array.append_assoc, Array.getElem?_append_right (by simp; omega), Array.getElem?_append_left (by simp; omega)]
        simp [o2]
      generalize hA : olds.toArray ++ news'.toArray ++ rest = row at *
      have hsw := Sim.swap (w' := w.drew.alloc (.cells row E)) hs (e1 := .arr sz (.slice (some ⟨w.heap.size, 0, none⟩) (n + xs.length) newCap) (cs ++ cells xs)) rfl rfl rfl (by simp) (fun b hb _ => Below.heap_alloc w.drew _ b hb)
        (fun q hq _ => by
          obtain ⟨u, hu⟩ := Option.isSome_iff_exists.1 hq
          exact World.cell?_of_block (w := w) (Below.heap_alloc w.drew _ q.block (World.block_lt_of_cell? w q hu)))
        (fun b h => .inr (Nat.le_of_eq h.symm)) (fun q h => .inr (Nat.le_of_eq h.1.symm)) (fun hst => ⟨rfl, hge, by rw [List.length_append, hl, hcx, Nat.add_mul], row, E, (0, 0), heap_alloc_new w.drew _, .inl rfl, by simp only [hsize, Nat.zero_add]; exact Nat.le_refl _, fun k hk => by
          rw [List.length_append, hcx] at hk
          simp only [Nat.zero_add]
          by_cases hkc : k < cs.length
          · rw [hv1 k (by omega), List.getD_eq_getElem?_getD (l := cs ++ cells xs), List.getElem?_append_left hkc, ← List.getD_eq_getElem?_getD]
            exact (o3 k (by omega)).mono hst
          · have e := hv2 (k - cs.length) (by omega)
            rw [show n * sz + (k - cs.length) = k by omega] at e
            rw [e, List.getD_eq_getElem?_getD (l := cs ++ cells xs), List.getElem?_append_right (by omega), ← List.getD_eq_getElem?_getD]
            exact (flat _ _ news' x4' (k - cs.length) (by omega)).mono hst⟩)
      refine ⟨.slice (some ⟨w.heap.size, 0, none⟩) (n + xs.length) newCap, w.drew.alloc (.cells row E), .ar _ (n + xs.length), _, ?_, hsw, .ar _ _ _ hge (fun h => nomatch h), hk _⟩
      unfold execOp
      rw [hop]
      have hg2 : ¬ 281474976710656 < Builtin.nextslicecap (n + xs.length) cap * i.bytes := by rw [← hby]; omega
      have hzd : (zeroValue E).run P w.drew = .ok z w.drew := hzr w.drew
      have htd : (typeInfo E).run P w.drew = .ok i w.drew := hti w.drew
      have hask : (askRoom (newCap * i.bytes)).run P w.drew = .ok () w.drew := by unfold askRoom; split <;> rfl
      unfold grownCap at hcapn
      simp [resolve, invoke, Go.builtin, Builtin.append_, hvv, run_underlying hu, run_underlying hdx, hm, hEsz, x1, hfit, hti, hg2, Question.forced, hcapn, hask, o1, x2', hzd, hrs, newRow]
      rw [if_neg fun h => by have := h.1; omega, ← hA, Array.append_assoc]
end
end Go.Proofs.YtnnigbnlhhikjaaDoor
