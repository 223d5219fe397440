/- Maps are made; a text becomes bytes that are owned; a text of nothing. No statement of the program. -/
import Derived.Test.YtnnigbnlhhikjaaDoorEm
import Derived.Test.YtnnigbnlhhikjaaDoorEo
namespace Go.Proofs.YtnnigbnlhhikjaaDoor
open Go.RowKit
set_option linter.unusedSimpArgs false
set_option linter.unusedVariables false
set_option linter.unusedSectionVars false
section
variable {P : Program} {o : Oper} {f : Operand → V} {H : Own} {K : V → Own → Prop}
/-- A new map, owned. -/
theorem DOp.mkmap_ {t : TypeId} (hop : o.op = .makeMap t none) (h : ∀ r, K (.raw (.map (some r))) (.map r [] :: H)) : DOp P o f H K :=
  DOp.step fun a w hs hr => by
    refine ⟨.map (some w.heap.size), w.alloc (.map #[] 0), _, _, ?_, hs.add (e1 := .map w.heap.size []) rfl rfl rfl (by simp) (fun b hb => Below.heap_alloc w _ b hb) (fun b hb => Nat.le_of_eq hb.symm) (fun _ =>
      ⟨#[], 0, heap_alloc_new w _, rfl, fun k hk => absurd hk (Nat.not_lt_zero _), fun i j _ hj => absurd hj (Nat.not_lt_zero _), fun i hi => absurd hi (Nat.not_lt_zero _)⟩), .raw _, h _⟩
    unfold execOp
    rw [hop]
    simp [Instr.makeMap]
/-- A text's bytes, owned behind their end. -/
theorem DOp.convb_ {sT dT : TypeId} {x : Operand} {c : List UInt8} (hop : o.op = .convert sT dT x) (hx : f x = .str c)
    (h : ((ty P sT).kind = 3 ∧ (ty P dT).kind = 4 ∧ (ty P (ty P dT).elem).ik = some .u8) ∧ ∀ v, K (.gs v (c.map u8)) (.tail 1 v :: H)) : DOp P o f H K :=
  DOp.step fun a w hs hr => by
    obtain ⟨⟨h1, h2, h3⟩, h⟩ := h
    have hv := hr x (by simp [hop, Op.operands])
    rw [hx] at hv
    have hv : a.eval x = .string (bs c) := by generalize a.eval x = v at hv; cases hv; rfl
    have hrun := run_bytes_of_string (P := P) w sT dT (ty P dT).elem (bs c) (und_string h1) (und_slice h2) (und_int h3)
    have run : ∀ (a : Act) (w : World) v w', (Go.convert sT dT (a.eval x)).run P w = .ok v w' → (execOp a.eval o).run P w = .ok (.value v) w' := fun a w v w' hv => by
      unfold execOp
      rw [hop]
      simp only
      rw [Sem.run_bind, hv]
      rfl
    have hge0 : (bs c).size ≤ grownCap w (bs c).size 0 (ty P dT).elem := grownCap_ge w _ 0 _
    have hz : (bytesRow (bs c) (grownCap w (bs c).size 0 (ty P dT).elem)).size = grownCap w (bs c).size 0 (ty P dT).elem := by have := hge0; simp [bytesRow]; omega
    have hge : (bs c).size ≤ grownCap w (bs c).size 0 (ty P dT).elem := grownCap_ge w _ 0 _
    have hadd := hs.add (w' := w.drew.alloc (.cells (bytesRow (bs c) (grownCap w (bs c).size 0 (ty P dT).elem)) (ty P dT).elem ((bytesRow (bs c) (grownCap w (bs c).size 0 (ty P dT).elem)).size, (bytesRow (bs c) (grownCap w (bs c).size 0 (ty P dT).elem)).size + 1)))
      (e1 := .tail 1 (.slice (some ⟨w.heap.size, 0, none⟩) (bs c).size (grownCap w (bs c).size 0 (ty P dT).elem))) rfl rfl rfl (by simp) (fun b hb => Below.heap_alloc w.drew _ b hb) (fun b hb => Nat.le_of_eq hb.symm) (fun _ =>
        ⟨rfl, hge, _, _, _, heap_alloc_new w.drew _, fun k _ hk hf => by simp only [Nat.zero_add, Nat.mul_one] at hk hf; rw [hz] at hf; omega, by simp only [Nat.zero_add, Nat.mul_one]; rw [hz]; exact Nat.le_refl _⟩)
    have hcell : ∀ i, i < c.length → (w.drew.alloc (.cells (bytesRow (bs c) (grownCap w (bs c).size 0 (ty P dT).elem)) (ty P dT).elem ((bytesRow (bs c) (grownCap w (bs c).size 0 (ty P dT).elem)).size, (bytesRow (bs c) (grownCap w (bs c).size 0 (ty P dT).elem)).size + 1))).cell? ⟨w.heap.size, i, none⟩ = some (u8v c i) := fun i hi => by
      have := World.cell?_alloc_mark w.drew (bytesRow (bs c) (grownCap w (bs c).size 0 (ty P dT).elem)) (ty P dT).elem ((bytesRow (bs c) (grownCap w (bs c).size 0 (ty P dT).elem)).size, (bytesRow (bs c) (grownCap w (bs c).size 0 (ty P dT).elem)).size + 1) i
      refine this.trans ?_
      have hi' : i < (bs c).data.size := by simpa [bs] using hi
      rw [bytesRow_at (bs c) _ i hi']
      simp [bs, u8v, hi]
    refine ⟨.slice (some ⟨w.heap.size, 0, none⟩) (bs c).size (grownCap w (bs c).size 0 (ty P dT).elem), _, .gs (.slice (some ⟨w.heap.size, 0, none⟩) (bs c).size (grownCap w (bs c).size 0 (ty P dT).elem)) (c.map u8), _, run a w _ _ (by rw [hv]; exact hrun), hadd, .gs _ _ (.sl (some ⟨w.heap.size, 0, none⟩) _ _ _ 1 (by simp [bs_size]) hge (fun h => nomatch h) (fun b hb _ => by injection hb with hb; subst hb; rfl) (fun i hi => ?_) (fun b i k hb hi hk => ?_) (fun b i k hb hi hk => ?_)), h _⟩
    · simp at hi; simp [hi, u8, V.n]
    · injection hb with hb; subst hb
      simp only [List.length_map] at hi
      have hk0 : k = 0 := by omega
      subst hk0
      simp only [Nat.zero_add, Nat.mul_one, Nat.add_zero]
      refine ⟨by rw [hcell i hi]; rfl, fun e he ha => ?_⟩
      rcases List.mem_cons.1 he with he | he
      · subst he
        have := ha.2.1
        simp only [bs_size, Nat.zero_add, Nat.mul_one] at this
        omega
      · exact absurd (owns_lt hs he ha) (Nat.lt_irrefl _)
    · injection hb with hb; subst hb
      simp only [List.length_map] at hi
      have hk0 : k = 0 := by omega
      subst hk0
      simp only [Nat.zero_add, Nat.mul_one, Nat.add_zero]
      rw [cellAt, hcell i hi]
      simp [hi, u8, V.cell, u8v]
      exact .int _ _
/-- Where nothing lies, and a text of nothing. -/
theorem DOp.usd0_ {x : Operand} {T : TypeId} {l : List V} (hop : o.op = .call { callee := .builtin .unsafeSliceData, args := #[x], argTypes := #[T] }) (hx : f x = .gs (.slice none 0 0) l) (h : K (.raw (.pointer none)) H) : DOp P o f H K :=
  DOp.step fun a w hs hr => by
    have hv := hr x (by simp [hop, Op.operands, Call.operands])
    rw [hx] at hv
    have hv : a.eval x = .slice none 0 0 := by generalize a.eval x = v at hv; cases hv; rfl
    refine ⟨.pointer none, w, _, _, ?_, ⟨hs, .refl _ _⟩, .raw _, h⟩
    unfold execOp
    rw [hop]
    have e : ∀ ts T, (Builtin.unsafeSliceData_ ts T #[.slice none 0 0]).run P w = .ok (.pointer none) w := fun _ _ => rfl
    simp [resolve, invoke, Go.builtin, hv, e]
theorem DVop.usd0_ {e : Env} {mv tm : List Nat} {ops : Array Oper} {K : Env → Own → Prop} {i : Nat} {rest : List Oper} {x : Operand} {T : TypeId} {l : List V} (hm : mv.contains i = false) (ht : tm.contains i = true)
    (hop : o.op = .call { callee := .builtin .unsafeSliceData, args := #[x], argTypes := #[T] }) (hx : opd e x = .gs (.slice none 0 0) l)
    (h : FD P (mv ++ tm) ops (fun i' l' e' => DV P mv tm ops K i' l' e' H) (i + 1) rest (putO e o.dst (.raw (.pointer none)))) : DVop P mv tm ops K i o rest e H :=
  DVop.tm_ hm ht (DOp.usd0_ hop hx ⟨rfl, rfl⟩) h
theorem DOp.ustr0_ {x y : Operand} {T T' : TypeId} {k : IntKind} (hop : o.op = .call { callee := .builtin .unsafeString, args := #[x, y], argTypes := #[T, T'] }) (hx : f x = .raw (.pointer none)) (hy : f y = .int k 0) (h : K (.str []) H) : DOp P o f H K :=
  DOp.step fun a w hs hr => by
    have hv := hr x (by simp [hop, Op.operands, Call.operands])
    have hu := hr y (by simp [hop, Op.operands, Call.operands])
    rw [hx] at hv
    rw [hy] at hu
    have hv : a.eval x = .pointer none := by generalize a.eval x = v at hv; cases hv; rfl
    have hu : a.eval y = .int k 0 := by generalize a.eval y = v at hu; cases hu; rfl
    refine ⟨.string (bs []), w, _, _, ?_, ⟨hs, .refl _ _⟩, .str _, h⟩
    unfold execOp
    rw [hop]
    have e : ∀ T'', (Builtin.unsafeString_ #[T, T'] T'' #[.pointer none, .int k 0]).run P w = .ok (.string (bs [])) w := fun _ => rfl
    simp [resolve, invoke, Go.builtin, hv, hu, e]
end
end Go.Proofs.YtnnigbnlhhikjaaDoor
