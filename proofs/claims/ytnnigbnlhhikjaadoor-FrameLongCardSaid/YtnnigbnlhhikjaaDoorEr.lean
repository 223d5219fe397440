/- Maps are made; a text becomes bytes that are owned; a text of nothing. No statement of the program. -/
import Derived.Test.YtnnigbnlhhikjaaDoorEm
import Derived.Test.YtnnigbnlhhikjaaDoorEo
namespace Go.Proofs.YtnnigbnlhhikjaaDoor
open Go.RowKit
set_option linter.unusedSimpArgs false
set_option linter.unusedVariables false
set_option linter.unusedSectionVars false
section
variable {P : Program} {o : Oper} {f : Operand → V} {H : Own} {K : V → Own → Prop}
/-- A new map, owned. -/
theorem DOp.mkmap_ {t : TypeId} (hop : o.op = .makeMap t none) (h : ∀ r, K (.raw (.map (some r))) (.map r [] :: H)) : DOp P o f H K :=
  DOp.step fun a w hs hr => by
    refine ⟨.map (some w.heap.size), w.alloc (.map #[] 0), _, _, ?_, hs.add (e1 := .map w.heap.size []) rfl rfl rfl (by simp) (fun b hb => Below.heap_alloc w _ b hb) (fun b hb => Nat.le_of_eq hb.symm) (fun _ =>
      ⟨#[], 0, heap_alloc_new w _, rfl, fun k hk => absurd hk (Nat.not_lt_zero _), fun i j _ hj => absurd hj (Nat.not_lt_zero _), fun i hi => absurd hi (Nat.not_lt_zero _)⟩), .raw _, h _⟩
    unfold execOp
    rw [hop]
    simp [Instr.makeMap]
/-- A text's bytes, owned behind their end. -/
theorem DOp.convb_ {sT dT : TypeId} {x : Operand} {c : List UInt8} (hop : o.op = .convert sT dT x) (hx : f x = .str c)
    (h : ((ty P sT).kind = 3 ∧ (ty P dT).kind = 4 ∧ (ty P (ty P dT).elem).ik = some .u8) ∧ ∀ v, K (.gs v (c.map u8)) (.tail 1 v :: H)) : DOp P o f H K :=
  DOp.step fun a w hs hr => by
    obtain ⟨⟨h1, h2, h3⟩, h⟩ := h
    have hv := hr x (by simp [hop, Op.operands])
    rw [hx] at hv
    have hv : a.eval x = .string (bs c) := by generalize a.eval x = v at hv; cases hv; rfl
    have hrun := run_bytes_of_string (P := P) w sT dT (ty P dT).elem (bs c) (und_string h1) (und_slice h2) (und_int h3)
    have run : ∀ (a : Act) (w : World) v w', (Go.convert sT dT (a.eval x)).run P w = .ok v w' → (execOp a.eval o).run P w = .ok (.value v) w' := fun a w v w' hv => by
      unfold execOp
      rw [hop]
      simp only
      rw [Sem.run_bind, hv]
      rfl
    have hge0 : (bs c).size ≤ grownCap w (bs c).size 0 (ty P dT).elem := grownCap_ge w _ 0 _
    have hz : (bytesRow (bs c) (grownCap w (bs c).size 0 (ty P dT).elem)).size = grownCap w (bs c).size 0 (ty P dT).elem := by have := hge0; simp [bytesRow]; omega
    have hge : (bs c).size ≤ grownCap w (bs c).size 0 (ty P dT).elem := grownCap_ge w _ 0 _
    have hadd := hs.add (w' := w.drew.alloc (.cells (bytesRow (bs c) (grownCap w (bs c).size 0 (ty P dT).elem)) (ty P dT).elem ((bytesRow (bs c) (grownCap w (bs c).size 0 (ty P dT).elem)).size, (bytesRow (bs c) (grownCap w (bs c).size 0 (ty P dT).elem)).size + 1)))
      (e1 := .tail 1 (.slice (some ⟨w.heap.size, 0, none⟩) (bs c).size (grownCap w (bs c).size 0 (ty P dT).elem))) rfl rfl rfl (by simp) (fun b hb => Below.heap_alloc w.drew _ b hb) (fun b hb => Nat.le_of_eq hb.symm) (fun _ =>
        ⟨rfl, hge, _, _, _, heap_alloc_new w.drew _, .inr (by simp only [Nat.zero_add, Nat.mul_one]; rw [hz]; exact Nat.le_refl _), by simp only [Nat.zero_add, Nat.mul_one]; rw [hz]; exact Nat.le_refl _⟩)
    have hcell : ∀ i, i < c.length → (w.drew.alloc (.cells (bytesRow (bs c) (grownCap w (bs c).size 0 (ty P dT).elem)) (ty P dT).elem ((bytesRow (bs c) (grownCap w (bs c).size 0 (ty P dT).elem)).size, (bytesRow (bs c) (grownCap w (bs c).size 0 (ty P dT).elem)).size + 1))).cell? ⟨w.heap.size, i, none⟩ = some (u8v c i) := fun i hi => by
      have := World.cell?_alloc_mark w.drew (bytesRow (bs c) (grownCap w (bs c).size 0 (ty P dT).elem)) (ty P dT).elem ((bytesRow (bs c) (grownCap w (bs c).size 0 (ty P dT).elem)).size, (bytesRow (bs c) (grownCap w (bs c).size 0 (ty P dT).elem)).size + 1) i
      refine this.trans ?_
      have hi' : i < (bs c).data.size := by simpa [bs] using hi
      rw [bytesRow_at (bs c) _ i hi']
      simp [bs, u8v, hi]
    refine ⟨.slice (some ⟨w.heap.size, 0, none⟩) (bs c).size (grownCap w (bs c).size 0 (ty P dT).elem), _, .gs (.slice (some ⟨w.heap.size, 0, none⟩) (bs c).size (grownCap w (bs c).size 0 (ty P dT).elem)) (c.map u8), _, run a w _ _ (by rw [hv]; exact hrun), hadd, .gs _ _ (.sl (some ⟨w.heap.size, 0, none⟩) _ _ _ 1 (by simp [bs_size]) hge (fun h => nomatch h) (fun b hb _ => by injection hb with hb; subst hb; rfl) (fun i hi => ?_) (fun b i k hb hi hk => ?_) (fun b i k hb hi hk => ?_)), h _⟩
    · simp at hi; simp [hi, u8, V.n]
    · injection hb with hb; subst hb
      simp only [List.length_map] at hi
      have hk0 : k = 0 := by omega
      subst hk0
      simp only [Nat.zero_add, Nat.mul_one, Nat.add_zero]
      refine ⟨by rw [hcell i hi]; rfl, fun e he ha => ?_⟩
      rcases List.mem_cons.1 he with he | he
      · subst he
        have := ha.2.1
        simp only [bs_size, Nat.zero_add, Nat.mul_one] at this
        omega
      · exact absurd (owns_lt hs he ha) (Nat.lt_irrefl _)
    · injection hb with hb; subst hb
      simp only [List.length_map] at hi
      have hk0 : k = 0 := by omega
      subst hk0
      simp only [Nat.zero_add, Nat.mul_one, Nat.add_zero]
      rw [cellAt, hcell i hi]
      simp [hi, u8, V.cell, u8v]
      exact .int _ _
/-- A new slice of plain cells that nobody writes. -/
theorem DOp.makev_ {t : TypeId} {l c : Operand} {k k' : IntKind} {n m : Int} {z0 : V} (hop : o.op = .makeSlice t l c) (hl : f l = .int k n) (hc : f c = .int k' m)
    (h : ((ty P (ty P t).elem).zero = [z0] ∧ z0.flat = true) ∧ (m = n ∧ (ty P t).kind = 4 ∧ (ty P (ty P t).elem).kind ≠ 0 ∧ (ty P (ty P t).elem).kind ≠ 11 ∧ (ty P (ty P t).elem).size = 1 ∧ 0 ≤ n ∧ (ty P (ty P t).elem).bytes * n ≤ 281474976710656 ∧ n ≤ 9223372036854775807) ∧
      ∀ v, K (.gs v (List.replicate n.toNat z0)) H) : DOp P o f H K := by
  obtain ⟨⟨hz, hzf⟩, ⟨rfl, h1, h2, h3, h5, h6, h7, h8⟩, h⟩ := h
  refine DOp.step fun a w hs hr => ?_
  have hlv := hr l (by simp [hop, Op.operands])
  have hcv := hr c (by simp [hop, Op.operands])
  rw [hl] at hlv
  rw [hc] at hcv
  have hlv : a.eval l = .int k m := by generalize a.eval l = v at hlv; cases hlv; rfl
  have hcv : a.eval c = .int k' m := by generalize a.eval c = v at hcv; cases hcv; rfl
  obtain ⟨i, z, i1, i2, i3, i4, i5, i6⟩ := made_cells (P := P) (n := m.toNat) (w := w) (S := stable w H) h2 h3 (by rw [hz, h5]; rfl) (by rw [h5]; exact Nat.one_pos)
  have hnew := hs.new (.cells (madeCells z.cells (m.toNat * i.size)) (ty P t).elem)
  have hfl : (List.replicate m.toNat (ty P (ty P t).elem).zero).flatten = List.replicate m.toNat z0 := by rw [hz]; simp
  rw [hfl] at i5 i6
  rw [List.length_replicate] at i5 i6
  obtain ⟨f1, f2⟩ := V.flat_n hzf
  refine ⟨.slice (some ⟨w.heap.size, 0, none⟩) m.toNat m.toNat, _, .gs (.slice (some ⟨w.heap.size, 0, none⟩) m.toNat m.toNat) (List.replicate m.toNat z0), H, ?_, hnew, .gs _ _ (.sl (some ⟨w.heap.size, 0, none⟩) _ _ _ 1 (by simp) (Nat.le_refl _) (fun h => nomatch h) (fun b hb _ => by injection hb with hb; subst hb; rfl) (fun j hj => ?_) (fun b j u hb hj hu => ?_) (fun b j u hb hj hu => ?_)), h _⟩
  · unfold execOp
    rw [hop]
    simp [hlv, hcv, run_make w t (ty P t).elem i z (und_slice h1) i1 i2 k k' m m h6 (Int.le_refl _) (by rw [i4]; exact h7) h8]
  · rw [List.length_replicate] at hj
    simp [hj, f1]
  · injection hb with hb; subst hb
    rw [List.length_replicate] at hj
    have hu0 : u = 0 := by omega
    subst hu0
    simp only [Nat.zero_add, Nat.mul_one, Nat.add_zero]
    exact stable_new hs _ _ j (by omega)
  · injection hb with hb; subst hb
    rw [List.length_replicate] at hj
    have hu0 : u = 0 := by omega
    subst hu0
    simp only [Nat.zero_add, Nat.mul_one, Nat.add_zero]
    have e : (List.replicate m.toNat z0).getD j .any = z0 := by simp [hj]
    rw [e, f2, cellAt, World.cell?_alloc_new]
    have := hnew.2.rel (i6 j hj)
    rw [e] at this
    simpa [Array.getD_eq_getD_getElem?] using this
/-- Where nothing lies, and a text of nothing. -/
theorem DOp.usd0_ {x : Operand} {T : TypeId} {l : List V} (hop : o.op = .call { callee := .builtin .unsafeSliceData, args := #[x], argTypes := #[T] }) (hx : f x = .gs (.slice none 0 0) l) (h : K (.raw (.pointer none)) H) : DOp P o f H K :=
  DOp.step fun a w hs hr => by
    have hv := hr x (by simp [hop, Op.operands, Call.operands])
    rw [hx] at hv
    have hv : a.eval x = .slice none 0 0 := by generalize a.eval x = v at hv; cases hv; rfl
    refine ⟨.pointer none, w, _, _, ?_, ⟨hs, .refl _ _⟩, .raw _, h⟩
    unfold execOp
    rw [hop]
    have e : ∀ ts T, (Builtin.unsafeSliceData_ ts T #[.slice none 0 0]).run P w = .ok (.pointer none) w := fun _ _ => rfl
    simp [resolve, invoke, Go.builtin, hv, e]
theorem DVop.usd0_ {e : Env} {mv tm : List Nat} {ops : Array Oper} {K : Env → Own → Prop} {i : Nat} {rest : List Oper} {x : Operand} {T : TypeId} {l : List V} (hm : mv.contains i = false) (ht : tm.contains i = true)
    (hop : o.op = .call { callee := .builtin .unsafeSliceData, args := #[x], argTypes := #[T] }) (hx : opd e x = .gs (.slice none 0 0) l)
    (h : FD P (mv ++ tm) ops (fun i' l' e' => DV P mv tm ops K i' l' e' H) (i + 1) rest (putO e o.dst (.raw (.pointer none)))) : DVop P mv tm ops K i o rest e H :=
  DVop.tm_ hm ht (DOp.usd0_ hop hx ⟨rfl, rfl⟩) h
theorem DOp.ustr0_ {x y : Operand} {T T' : TypeId} {k : IntKind} (hop : o.op = .call { callee := .builtin .unsafeString, args := #[x, y], argTypes := #[T, T'] }) (hx : f x = .raw (.pointer none)) (hy : f y = .int k 0) (h : K (.str []) H) : DOp P o f H K :=
  DOp.step fun a w hs hr => by
    have hv := hr x (by simp [hop, Op.operands, Call.operands])
    have hu := hr y (by simp [hop, Op.operands, Call.operands])
    rw [hx] at hv
    rw [hy] at hu
    have hv : a.eval x = .pointer none := by generalize a.eval x = v at hv; cases hv; rfl
    have hu : a.eval y = .int k 0 := by generalize a.eval y = v at hu; cases hu; rfl
    refine ⟨.string (bs []), w, _, _, ?_, ⟨hs, .refl _ _⟩, .str _, h⟩
    unfold execOp
    rw [hop]
    have e : ∀ T'', (Builtin.unsafeString_ #[T, T'] T'' #[.pointer none, .int k 0]).run P w = .ok (.string (bs [])) w := fun _ => rfl
    simp [resolve, invoke, Go.builtin, hv, hu, e]
theorem cell_freeze (w : World) (p : Addr) (n : Nat) (a : Addr) : (w.freeze p n).cell? a = w.cell? a := by
  unfold World.freeze
  split
  · rfl
  · unfold World.cell?
    simp only [Array.getElem?_modify]
    by_cases hb : p.block = a.block
    · rw [if_pos hb]
      cases hh : w.heap[a.block]? with
      | none => rfl
      | some o => cases o <;> rfl
    · rw [if_neg hb]
theorem heap_freeze_ne (w : World) (p : Addr) (n b : Nat) (h : b ≠ p.block) : (w.freeze p n).heap[b]? = w.heap[b]? := by
  unfold World.freeze
  split
  · rfl
  · simp only [Array.getElem?_modify]
    rw [if_neg (fun e => h e.symm)]
theorem heap_freeze_eq (w : World) (b k : Nat) {xs : Array Value} {T : TypeId} {fr : Nat × Nat} (h : w.heap[b]? = some (.cells xs T fr)) : (w.freeze ⟨b, k, none⟩ 1).heap[b]? = some (.cells xs T (if fr.1 == fr.2 then (k, k + 1) else (min fr.1 k, max fr.2 (k + 1)))) := by
  unfold World.freeze
  rw [if_neg (by decide)]
  simp only [Array.getElem?_modify, if_true, h, Option.map_some]
theorem size_freeze (w : World) (p : Addr) (n : Nat) : (w.freeze p n).heap.size = w.heap.size := by
  unfold World.freeze; split <;> simp
/-- A literal's bytes, marked. -/
theorem DOp.convm_ {t : TypeId} {x : Operand} {v : Value} {l : List V} (hop : o.op = .convert t t x) (hx : f x = .gs v l)
    (h : On H (.tail 1 v) fun C => ((ty P t).kind = 4 ∧ (ty P (ty P t).elem).ik = some .u8 ∧ l ≠ []) ∧ K (.gs v l) (C (.tail 1 v))) : DOp P o f H K := by
  obtain ⟨L1, L2, rfl, ⟨h1, h2, h3⟩, hk⟩ := h
  refine DOp.step fun a w hs hr => ?_
  have hv := hr x (by simp [hop, Op.operands])
  rw [hx] at hv
  have hvv : a.eval x = v := by generalize a.eval x = u at hv; cases hv; rfl
  rw [hvv] at hv
  have hvs : R (stable w (L1 ++ .tail 1 v :: L2)) w v (.sl l) := by cases hv with | gs v l h => exact h
  obtain ⟨base, cap, sz0, he, hcap, hnil, b1, b2, b3, b4⟩ := hvs.slc
  cases base with
  | none => exact absurd (hnil rfl) h3
  | some p =>
    subst he
    obtain ⟨s0, hnc, xs, T, fr, g1, g2, g3⟩ := hs.holds (.tail 1 (.slice (some p) l.length cap)) (by simp)
    obtain ⟨pb, po, ps⟩ := p
    simp only at s0 g1 g2 g3
    subst s0
    have hsw := Sim.swap (w' := w.freeze ⟨pb, xs.size, none⟩ 1) (e0 := .tail 1 (.slice (some ⟨pb, po, none⟩) l.length cap)) (e1 := .tail 1 (.slice (some ⟨pb, po, none⟩) l.length cap)) hs
      (by unfold World.freeze; split <;> rfl) (by unfold World.freeze; split <;> rfl) (by unfold World.freeze; split <;> rfl) (Nat.le_of_eq (size_freeze _ _ _).symm)
      (fun b _ hb => heap_freeze_ne w _ _ b (fun e => hb e)) (fun q _ _ => cell_freeze w _ _ q) (fun b hb => .inl hb) (fun q hq => .inl hq) (fun _ => by
        refine ⟨rfl, hnc, xs, T, _, heap_freeze_eq w pb xs.size g1, ?_, g3⟩
        unfold free at g2 ⊢
        split
        · right; simp only; omega
        · rename_i hne
          have hne : ¬ fr.1 = fr.2 := by simpa using hne
          right; simp only; omega)
    refine ⟨.slice (some ⟨pb, po, none⟩) l.length cap, _, _, _, ?_, hsw, ?_, hk⟩
    · have hsh : w.shape? pb = some (T, xs.size) := by unfold World.shape?; rw [g1]
      unfold execOp
      rw [hop]
      simp only [hvv]
      simp [convert, run_underlying (und_slice h1), run_underlying (und_int h2), markStringish, hsh]
    · exact hsw.2.rel hv
/-- A text is gone through. -/
theorem DOp.ranges_ {t : TypeId} {x : Operand} {s : List UInt8} (hop : o.op = .range t x) (hx : f x = .str s) (h : (ty P t).kind = 3 ∧ ∀ r, K (.raw (.pointer (some ⟨r, 0, none⟩))) (.siter r s 0 :: H)) : DOp P o f H K :=
  DOp.step fun a w hs hr => by
    have hv := hr x (by simp [hop, Op.operands])
    rw [hx] at hv
    have hv : a.eval x = .string (bs s) := by generalize a.eval x = v at hv; cases hv; rfl
    refine ⟨.pointer (some ⟨w.heap.size, 0, none⟩), w.alloc (.stringIter (bs s) 0), _, _, ?_, hs.add (e1 := .siter w.heap.size s 0) rfl rfl rfl (by simp) (fun b hb => Below.heap_alloc w _ b hb) (fun b hb => Nat.le_of_eq hb.symm) (fun _ => heap_alloc_new w _), .raw _, h.2 _⟩
    unfold execOp
    rw [hop]
    simp [Instr.range, hv, run_underlying (und_string h.1)]
/-- Which rune comes next, and how many bytes it has. -/
def runeAt (s : List UInt8) (pos : Nat) : Int := (Utf8.decode (bs s) pos).1
def wideAt (s : List UInt8) (pos : Nat) : Nat := (Utf8.decode (bs s) pos).2
def OnI (H : Own) (r : Nat) (G : List UInt8 → Nat → (Ent → Own) → Prop) : Prop := ∃ s pos, On H (.siter r s pos) (G s pos)
theorem OnI.here {H : Own} {r : Nat} {s : List UInt8} {pos : Nat} {G : List UInt8 → Nat → (Ent → Own) → Prop} (h : G s pos fun x => x :: H) : OnI (.siter r s pos :: H) r G := ⟨s, pos, On.here h⟩
theorem OnI.next {H : Own} {r : Nat} {y : Ent} {G : List UInt8 → Nat → (Ent → Own) → Prop} (h : OnI H r fun s pos C => G s pos fun x => y :: C x) : OnI (y :: H) r G := by
  obtain ⟨s, pos, h⟩ := h
  exact ⟨s, pos, On.next h⟩
def Both (a b : Prop) : Prop := a ∧ b
theorem Both.imp {a b c d : Prop} (h1 : a → c) (h2 : b → d) : Both (a → c) (b → d) := ⟨h1, h2⟩
theorem Both_r (a : Prop) : Both a True = a := by simp [Both]
theorem Both_l (a : Prop) : Both True a = a := by simp [Both]
theorem DOp.nexts_ {x : Operand} {r : Nat} (hop : o.op = .next x true) (hx : f x = .raw (.pointer (some ⟨r, 0, none⟩)))
    (h : OnI H r fun s pos C => Both (pos < s.length → K (.tup [.bool true, .int .i64 pos, .int .i32 (runeAt s pos)]) (C (.siter r s (pos + wideAt s pos)))) (s.length ≤ pos → K (.tup [.bool false]) (C (.siter r s pos)))) : DOp P o f H K := by
  obtain ⟨s, pos, L1, L2, rfl, k1, k2⟩ := h
  refine DOp.step fun a w hs hr => ?_
  have hv := hr x (by simp [hop, Op.operands])
  rw [hx] at hv
  have hv : a.eval x = .pointer (some ⟨r, 0, none⟩) := by generalize a.eval x = v at hv; cases hv; rfl
  have hh : w.heap[r]? = some (.stringIter (bs s) pos) := hs.holds (.siter r s pos) (by simp)
  have hlt : r < w.heap.size := (Array.getElem?_eq_some_iff.1 hh).1
  by_cases hp : pos < s.length
  · have hsw := Sim.swap (w' := { w with heap := w.heap.setIfInBounds r (.stringIter (bs s) (pos + wideAt s pos)) }) (e0 := .siter r s pos) (e1 := .siter r s (pos + wideAt s pos)) hs rfl rfl rfl (by simp)
      (fun b _ hb => by simp only [Array.getElem?_setIfInBounds]; rw [if_neg (fun e => hb e.symm)]) (fun q _ hq => by
        simp only [World.cell?, Array.getElem?_setIfInBounds]; rw [if_neg (fun e => hq e.symm)]) (fun b hb => .inl hb) (fun q hq => .inl hq) (fun _ => by
        show (w.heap.setIfInBounds r _)[r]? = _
        simp [Array.getElem?_setIfInBounds, hlt])
    refine ⟨.tuple #[.bool true, goInt pos, .int .i32 (runeAt s pos)], _, _, _, ?_, hsw, .tup _ _ rfl (fun k hk => ?_), k1 hp⟩
    · unfold execOp
      rw [hop]
      have hs' : pos < (bs s).size := by rw [bs_size]; exact hp
      have g1 : (getObj r).run P w = .ok (.stringIter (bs s) pos) w := by simp [getObj, Sem.run, hh]
      have g2 : ∀ o' : Obj, (setObj r o').run P w = .ok () { w with heap := w.heap.setIfInBounds r o' } := fun o' => by simp [setObj, Sem.run, hh]
      simp [Instr.next, hv, g1, g2, hs', runeAt, wideAt]
    · match k, hk with
      | 0, _ => exact .bool _
      | 1, _ => exact .int _ _
      | 2, _ => exact .int _ _
  · refine ⟨.tuple #[.bool false], w, _, _, ?_, ⟨hs, .refl _ _⟩, .tup _ _ rfl (fun k hk => ?_), k2 (by omega)⟩
    · unfold execOp
      rw [hop]
      have hs' : ¬ pos < (bs s).size := by rw [bs_size]; exact hp
      have g1 : (getObj r).run P w = .ok (.stringIter (bs s) pos) w := by simp [getObj, Sem.run, hh]
      simp [Instr.next, hv, g1, hs']
    · match k, hk with
      | 0, _ => exact .bool _
end
section
variable {P : Program} {e : Env} {H : Own} {K : V → Own → Prop}
/-- Results out of slots and of cells that are owned. -/
def RetK (P : Program) (e : Env) (H : Own) (K : V → Own → Prop) : List ResultVar → List V → Prop
  | [], ds => K (one_ ds) H
  | .tmp t :: l, ds => RetK P e H K l (ds ++ [get e t])
  | .cell a t :: l, ds => ∃ b off, get e a = .raw (.pointer (some ⟨b, off, none⟩)) ∧ OnB H b fun cs _ => partS (ty P t) (cs.drop off) 0 ∧ RetK P e H K l (ds ++ [partV (ty P t) (cs.drop off) 0])
theorem RetK.run : ∀ {l : List ResultVar} {ds : List V}, RetK P e H K l ds → ∃ ds', RetR P e H l ds' ∧ K (one_ (ds ++ ds')) H
  | [], ds, h => ⟨[], .nil, by rw [List.append_nil]; exact h⟩
  | .tmp t :: l, ds, h => by
    obtain ⟨ds', h1, h2⟩ := RetK.run (l := l) h
    exact ⟨_, .tmp h1, by simpa using h2⟩
  | .cell a t :: l, ds, h => by
    obtain ⟨b, off, hg, cs, L1, L2, hH, hp, h⟩ := h
    obtain ⟨ds', h1, h2⟩ := RetK.run (l := l) h
    refine ⟨_, .cell (d := partV (ty P t) (cs.drop off) 0) (fun w v hs hv => ?_) h1, by simpa using h2⟩
    subst hH
    rw [hg] at hv
    have hv : v = .pointer (some ⟨b, off, none⟩) := by cases hv; rfl
    subst hv
    obtain ⟨xs, T, fr, g1, g2, g3, g4, g5⟩ := blk_of hs
    obtain ⟨u, e1, e2⟩ := loadVar_run (P := P) (S := stable w (L1 ++ .blk b cs :: L2)) (w := w) (t := t) (b := ⟨b, off, none⟩) (cs := cs.drop off) rfl (fun k hk => by
      rw [List.length_drop] at hk
      simp only
      rw [(g5 (off + k) (by omega)).1]; rfl) (fun k hk => by
      rw [List.length_drop] at hk
      have := g4 (off + k) (by omega)
      simp only
      rw [cellAt, (g5 (off + k) (by omega)).1]
      simpa [List.getD_eq_getElem?_getD, List.getElem?_drop] using this) hp
    exact ⟨u, by simpa [asAddr] using e1, e2⟩
theorem ret_c {fn : Func} (l : List ResultVar) (hl : fn.results.toList = l) (h : RetK P e H K l []) : retQ P fn K .ret e H := by
  obtain ⟨ds, h1, h2⟩ := RetK.run h
  exact ⟨ds, hl ▸ h1, by simpa using h2⟩
theorem RetK_nil (ds : List V) : RetK P e H K [] ds = K (one_ ds) H := rfl
theorem RetK_tmp (t : Nat) (l : List ResultVar) (ds : List V) : RetK P e H K (.tmp t :: l) ds = RetK P e H K l (ds ++ [get e t]) := rfl
theorem RetK_cell (a b off : Nat) (t : TypeId) (l : List ResultVar) (ds : List V) (hg : get e a = .raw (.pointer (some ⟨b, off, none⟩))) (h : OnB H b fun cs _ => partS (ty P t) (cs.drop off) 0 ∧ RetK P e H K l (ds ++ [partV (ty P t) (cs.drop off) 0])) : RetK P e H K (.cell a t :: l) ds := ⟨b, off, hg, h⟩
/-- A row of cells that says less. -/
theorem le.agg {cs ds : List V} (h : Les cs ds) : le (.agg cs) (.agg ds) := by
  intro S w v hv
  cases hv with
  | agg xs cs hn hr =>
    have key : ∀ {cs ds : List V}, Les cs ds → cs.length = ds.length ∧ ∀ k, k < ds.length → le (cs.getD k .any) (ds.getD k .any) := by
      intro cs ds h
      induction h with
      | nil => exact ⟨rfl, fun k hk => absurd hk (Nat.not_lt_zero _)⟩
      | cons h1 h2 ih =>
        refine ⟨by simp [ih.1], fun k hk => ?_⟩
        cases k with
        | zero => simpa using h1
        | succ k => simpa using ih.2 k (by simpa using hk)
    obtain ⟨k1, k2⟩ := key h
    exact .agg xs _ (hn.trans k1) fun k hk => k2 k hk S w _ (hr k (by omega))
end
end Go.Proofs.YtnnigbnlhhikjaaDoor
