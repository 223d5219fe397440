/- Operations that look at no memory that changes: what they yield, over data (val), and what is asked (side). No statement of the program. -/
import Derived.Test.YtnnigbnlhhikjaaDoorEc
namespace Go.Proofs.YtnnigbnlhhikjaaDoor
open Go.RowKit
set_option linter.unusedSimpArgs false
set_option linter.unusedVariables false
set_option linter.unusedSectionVars false

/-- What is known of a type. -/
structure Ty where
  kind : Nat := 0
  size : Nat := 0
  bytes : Nat := 0
  agg : Bool := false
  elem : Nat := 0
  key : Nat := 0
  len : Nat := 0
  ik : Option IntKind := none
  offs : List (Nat × Nat) := []
  zero : List V := []
def tyOf (i : TypeInfo) : TypeDesc → Ty
  | .bool => { kind := 1, size := i.size, bytes := i.bytes, zero := (i.zero.map (·.cells.toList.map ofConst1)).getD [] }
  | .int k => { kind := 2, size := i.size, bytes := i.bytes, ik := some k, zero := (i.zero.map (·.cells.toList.map ofConst1)).getD [] }
  | .string => { kind := 3, size := i.size, bytes := i.bytes, zero := (i.zero.map (·.cells.toList.map ofConst1)).getD [] }
  | .slice e => { kind := 4, size := i.size, bytes := i.bytes, elem := e, zero := (i.zero.map (·.cells.toList.map ofConst1)).getD [] }
  | .array n e => { kind := 5, size := i.size, bytes := i.bytes, agg := true, elem := e, len := n, zero := (i.zero.map (·.cells.toList.map ofConst1)).getD [] }
  | .struct fs => { kind := 6, size := i.size, bytes := i.bytes, agg := true, offs := fs.toList.map fun f => (f.offset, f.type), zero := (i.zero.map (·.cells.toList.map ofConst1)).getD [] }
  | .pointer e => { kind := 7, size := i.size, bytes := i.bytes, elem := e, zero := (i.zero.map (·.cells.toList.map ofConst1)).getD [] }
  | .map k e => { kind := 8, size := i.size, bytes := i.bytes, key := k, elem := e, zero := (i.zero.map (·.cells.toList.map ofConst1)).getD [] }
  | .func .. => { kind := 9, size := i.size, bytes := i.bytes, zero := (i.zero.map (·.cells.toList.map ofConst1)).getD [] }
  | .interface _ => { kind := 10, size := i.size, bytes := i.bytes, zero := (i.zero.map (·.cells.toList.map ofConst1)).getD [] }
  | _ => { kind := 11 }
def ty (P : Program) (t : TypeId) : Ty :=
  match P.info? t, P.underlying t with
  | some i, some d => tyOf i d
  | _, _ => {}

section
variable {P : Program} {t : TypeId} {w : World}
theorem ty_info {k : Nat} (h : (ty P t).kind = k) (hk : k ≠ 0) (hk' : k ≠ 11) : ∃ i d, P.info? t = some i ∧ P.underlying t = some d ∧ ty P t = tyOf i d ∧ (ty P t).size = i.size ∧ (ty P t).bytes = i.bytes ∧ (ty P t).zero = (i.zero.map (·.cells.toList.map ofConst1)).getD [] := by
  unfold ty at h ⊢
  split at h
  · rename_i i d hi hd
    refine ⟨i, d, hi, hd, ?_⟩
    simp only [hi, hd]
    cases d <;> simp_all [tyOf]
  · exact absurd h.symm hk
theorem und_slice (h : (ty P t).kind = 4) : P.underlying t = some (.slice (ty P t).elem) := by
  unfold ty at h ⊢
  split at h
  · rename_i i d hi hd; simp only [hi, hd]; cases d <;> simp_all [tyOf]
  · cases h
theorem und_array (h : (ty P t).kind = 5) : P.underlying t = some (.array (ty P t).len (ty P t).elem) := by
  unfold ty at h ⊢
  split at h
  · rename_i i d hi hd; simp only [hi, hd]; cases d <;> simp_all [tyOf]
  · cases h
theorem und_ptr (h : (ty P t).kind = 7) : P.underlying t = some (.pointer (ty P t).elem) := by
  unfold ty at h ⊢
  split at h
  · rename_i i d hi hd; simp only [hi, hd]; cases d <;> simp_all [tyOf]
  · cases h
theorem und_map (h : (ty P t).kind = 8) : P.underlying t = some (.map (ty P t).key (ty P t).elem) := by
  unfold ty at h ⊢
  split at h
  · rename_i i d hi hd; simp only [hi, hd]; cases d <;> simp_all [tyOf]
  · cases h
theorem und_string (h : (ty P t).kind = 3) : P.underlying t = some .string := by
  unfold ty at h
  split at h
  · rename_i i d hi hd; rw [hd]; cases d <;> simp_all [tyOf]
  · cases h
theorem und_bool (h : (ty P t).kind = 1) : P.underlying t = some .bool := by
  unfold ty at h
  split at h
  · rename_i i d hi hd; rw [hd]; cases d <;> simp_all [tyOf]
  · cases h
theorem und_int {k : IntKind} (h : (ty P t).ik = some k) : P.underlying t = some (.int k) := by
  unfold ty at h
  split at h
  · rename_i i d hi hd; rw [hd]; cases d <;> simp_all [tyOf]
  · cases h
theorem und_struct (h : (ty P t).kind = 6) : ∃ fs, P.underlying t = some (.struct fs) ∧ (ty P t).offs = fs.toList.map fun f => (f.offset, f.type) := by
  unfold ty at h ⊢
  split at h
  · rename_i i d hi hd; simp only [hi, hd]; cases d <;> simp_all [tyOf]
  · cases h
theorem run_sizeOf (h : (ty P t).kind ≠ 0) (h' : (ty P t).kind ≠ 11) : (sizeOf t).run P w = .ok (ty P t).size w := by
  obtain ⟨i, d, hi, hd, he, hs, _⟩ := ty_info rfl h h'
  simp [sizeOf, typeInfo, program, Sem.run, hi, hs]
theorem run_isAgg (h : (ty P t).kind ≠ 0) (h' : (ty P t).kind ≠ 11) : (isAgg t).run P w = .ok (ty P t).agg w := by
  obtain ⟨i, d, hi, hd, he, hs, _⟩ := ty_info rfl h h'
  rw [he]
  unfold isAgg
  rw [Sem.run_bind, run_underlying hd]
  simp only [Result.andThen]
  cases d <;> simp_all [tyOf]
end

/-- A step that leaves the world. -/
theorem DOp.same {P : Program} {o : Oper} {f : Operand → V} {H : Own} {d : V} (h : ∀ (a : Act) (w : World), Sim w H → (∀ x, x ∈ o.op.operands → R (stable w H) w (a.eval x) (f x)) → ∃ v, (execOp a.eval o).run P w = .ok (.value v) w ∧ R (stable w H) w v d) :
    DOp P o f H fun d' H' => d' = d ∧ H' = H := fun a w next Q hs hr hn => by
  obtain ⟨v, h1, h2⟩ := h a w hs hr
  unfold Oper.wp
  rw [h1]
  exact hn v w d H hs (.refl _ _) h2 ⟨rfl, rfl⟩
theorem touches_lt {w : World} {H : Own} (hs : Sim w H) {e : Ent} (he : e ∈ H) {k : Nat} (ha : e.touches k) : k < w.heap.size := by
  have := hs.holds e he
  cases e with
  | blk b cs => obtain ⟨xs, T, fr, h, _⟩ := this; rw [show k = b from ha]; exact (Array.getElem?_eq_some_iff.1 h).1
  | tail sz v =>
    cases v with
    | slice p n cap =>
      cases p with
      | none => exact ha.elim
      | some p => obtain ⟨_, _, xs, T, fr, h, _⟩ := this; rw [show k = p.block from ha]; exact (Array.getElem?_eq_some_iff.1 h).1
    | _ => exact ha.elim
  | map r m => obtain ⟨es, c, h, _⟩ := this; rw [show k = r from ha]; exact (Array.getElem?_eq_some_iff.1 h).1
  | arr sz v cs =>
    cases v with
    | slice p n cap =>
      cases p with
      | none => exact ha.elim
      | some p => obtain ⟨_, _, _, xs, T, fr, h, _⟩ := this; rw [show k = p.block from ha]; exact (Array.getElem?_eq_some_iff.1 h).1
    | _ => exact ha.elim
  | know b cs => exact ha.elim
  | siter r s pos => rw [show k = r from ha]; exact (Array.getElem?_eq_some_iff.1 this).1
  | miter r m since seen st => rw [show k = r from ha]; exact (Array.getElem?_eq_some_iff.1 this).1
theorem owns_lt {w : World} {H : Own} (hs : Sim w H) {e : Ent} (he : e ∈ H) {a : Addr} (ha : e.owns a) : a.block < w.heap.size := touches_lt hs he (Ent.touch ha)
/-- New blocks, and nothing else. -/
theorem Sim.more {w w' : World} {H : Own} (hs : Sim w H) (ho : w'.os = w.os) (ht : w'.tape = w.tape) (hp : w'.output = w.output) (hz : w.heap.size ≤ w'.heap.size) (hb : ∀ b, b < w.heap.size → w'.heap[b]? = w.heap[b]?) : Sim w' H ∧ Ext w H w' H := by
  have hc : ∀ a, stable w H a → stable w' H a ∧ w'.cell? a = w.cell? a := fun a ha => by
    have e := World.cell?_of_block (w := w) (hb a.block ha.lt)
    exact ⟨⟨by rw [e]; exact ha.1, ha.2⟩, e⟩
  refine ⟨⟨fun e he => ?_, hs.disj, hs.apart⟩, ⟨ho, ht, hp, hz, hc, fun b hlt h => ⟨hb b hlt, h⟩⟩⟩
  have hh := hs.holds e he
  exact Ent.holds_mono hh hc (fun b hx => hb b (touches_lt hs he hx))
theorem Sim.new {w : World} {H : Own} (hs : Sim w H) (o : Obj) : Sim (w.alloc o) H ∧ Ext w H (w.alloc o) H :=
  hs.more rfl rfl rfl (by simp) fun b hb => Below.heap_alloc w o b hb
theorem Sim.drew {w : World} {H : Own} (hs : Sim w H) : Sim w.drew H ∧ Ext w H w.drew H := hs.more rfl rfl rfl (Nat.le_refl _) fun b hb => rfl
/-- A new block's cells are stable where nobody owns them. -/
theorem stable_new {w : World} {H : Own} (hs : Sim w H) (xs : Array Value) (T : TypeId) (k : Nat) (hk : k < xs.size) : stable (w.alloc (.cells xs T)) H ⟨w.heap.size, k, none⟩ :=
  ⟨by rw [World.cell?_alloc_new]; simp [hk], fun e he ha => absurd (owns_lt hs he ha) (Nat.lt_irrefl _)⟩
theorem DOp.new {P : Program} {o : Oper} {f : Operand → V} {H : Own} {d : V} (h : ∀ (a : Act) (w : World), Sim w H → (∀ x, x ∈ o.op.operands → R (stable w H) w (a.eval x) (f x)) →
      ∃ v w', (execOp a.eval o).run P w = .ok (.value v) w' ∧ (Sim w' H ∧ Ext w H w' H) ∧ R (stable w' H) w' v d) :
    DOp P o f H fun d' H' => d' = d ∧ H' = H := fun a w next Q hs hr hn => by
  obtain ⟨v, w', h1, ⟨h2, h3⟩, h4⟩ := h a w hs hr
  unfold Oper.wp
  rw [h1]
  exact hn v w' d H h2 h3 h4 ⟨rfl, rfl⟩

theorem addr_add (b : Addr) (n : Nat) (h : b.spot = none) : b.add n = ⟨b.block, b.off + n, none⟩ := by
  unfold Addr.add
  split
  · rename_i h0; subst h0; cases b; simp_all
  · cases b; simp_all

theorem addr_two (b : Addr) (m n : Nat) : (b.add m).add n = b.add (m + n) := by
  unfold Addr.add
  by_cases h1 : m = 0 <;> by_cases h2 : n = 0 <;> simp [h1, h2, Nat.add_assoc]
theorem addr_mk (b o n : Nat) : (⟨b, o, none⟩ : Addr).add n = ⟨b, o + n, none⟩ := addr_add _ _ rfl

theorem wrap_i64 (n : Int) (h1 : -9223372036854775808 ≤ n) (h2 : n ≤ 9223372036854775807) : IntKind.i64.wrap n = n := by simp [IntKind.wrap, IntKind.bits, IntKind.signed]; omega
theorem wrap_u64 (n : Int) (h1 : 0 ≤ n) (h2 : n ≤ 18446744073709551615) : IntKind.u64.wrap n = n := by simp [IntKind.wrap, IntKind.bits, IntKind.signed]; omega
theorem wrap_u8 (n : Int) (h1 : 0 ≤ n) (h2 : n ≤ 255) : IntKind.u8.wrap n = n := by simp [IntKind.wrap, IntKind.bits, IntKind.signed]; omega
theorem wrap_i32 (n : Int) (h1 : -2147483648 ≤ n) (h2 : n ≤ 2147483647) : IntKind.i32.wrap n = n := by simp [IntKind.wrap, IntKind.bits, IntKind.signed]; omega
theorem wrap_u32 (n : Int) (h1 : 0 ≤ n) (h2 : n ≤ 4294967295) : IntKind.u32.wrap n = n := by simp [IntKind.wrap, IntKind.bits, IntKind.signed]; omega
end Go.Proofs.YtnnigbnlhhikjaaDoor
