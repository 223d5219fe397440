/- The steps that write, over data: new blocks, stores, loads of what is owned, calls. No statement of the program. -/
import Derived.Test.YtnnigbnlhhikjaaDoorEg
namespace Go.Proofs.YtnnigbnlhhikjaaDoor
open Go.RowKit
set_option linter.unusedSimpArgs false
set_option linter.unusedVariables false
set_option linter.unusedSectionVars false

/-- An entry of what is owned, and the rest. -/
def On (H : Own) (e : Ent) (G : (Ent → Own) → Prop) : Prop := ∃ L1 L2, H = L1 ++ e :: L2 ∧ G fun x => L1 ++ x :: L2
theorem On.here {H : Own} {e : Ent} {G : (Ent → Own) → Prop} (h : G fun x => x :: H) : On (e :: H) e G := ⟨[], H, rfl, h⟩
theorem On.mid {L1 L2 : Own} {e : Ent} {G : (Ent → Own) → Prop} (h : G fun x => L1 ++ x :: L2) : On (L1 ++ e :: L2) e G := ⟨L1, L2, rfl, h⟩
theorem On.next {H : Own} {e y : Ent} {G : (Ent → Own) → Prop} (h : On H e fun C => G fun x => y :: C x) : On (y :: H) e G := by
  obtain ⟨L1, L2, rfl, h⟩ := h
  exact ⟨y :: L1, L2, rfl, h⟩
theorem On.mono {H : Own} {e : Ent} {G G' : (Ent → Own) → Prop} (h : On H e G) (hg : ∀ C, G C → G' C) : On H e G' := by
  obtain ⟨L1, L2, rfl, h⟩ := h
  exact ⟨L1, L2, rfl, hg _ h⟩

/-- A block that is owned, and the rest. -/
def OnB (H : Own) (b : Nat) (G : List V → (Ent → Own) → Prop) : Prop := ∃ cs, On H (.blk b cs) (G cs)
theorem OnB.here {H : Own} {b : Nat} {cs : List V} {G : List V → (Ent → Own) → Prop} (h : G cs fun x => x :: H) : OnB (.blk b cs :: H) b G := ⟨cs, On.here h⟩
theorem OnB.mid {L1 L2 : Own} {b : Nat} {cs : List V} {G : List V → (Ent → Own) → Prop} (h : G cs fun x => L1 ++ x :: L2) : OnB (L1 ++ .blk b cs :: L2) b G := ⟨cs, On.mid h⟩
theorem OnB.next {H : Own} {b : Nat} {y : Ent} {G : List V → (Ent → Own) → Prop} (h : OnB H b fun cs C => G cs fun x => y :: C x) : OnB (y :: H) b G := by
  obtain ⟨cs, h⟩ := h
  exact ⟨cs, On.next h⟩

/-- One entry is exchanged; what it does not touch stays. -/
theorem Sim.swap {w w' : World} {L1 L2 : Own} {e0 e1 : Ent} (hs : Sim w (L1 ++ e0 :: L2)) (ho : w'.os = w.os) (ht : w'.tape = w.tape) (hp : w'.output = w.output) (hz : w.heap.size ≤ w'.heap.size)
    (hb : ∀ b, b < w.heap.size → ¬ e0.touches b → w'.heap[b]? = w.heap[b]?) (hc : ∀ a, (w.cell? a).isSome = true → ¬ e0.owns a → w'.cell? a = w.cell? a)
    (h1 : ∀ b, e1.touches b → e0.touches b ∨ w.heap.size ≤ b) (h2 : ∀ a, e1.owns a → e0.owns a ∨ w.heap.size ≤ a.block)
    (hh : (∀ a, stable w (L1 ++ e0 :: L2) a → stable w' (L1 ++ e1 :: L2) a ∧ w'.cell? a = w.cell? a) → e1.holds (stable w' (L1 ++ e1 :: L2)) w') :
    Sim w' (L1 ++ e1 :: L2) ∧ Ext w (L1 ++ e0 :: L2) w' (L1 ++ e1 :: L2) := by
  have hst : ∀ a, stable w (L1 ++ e0 :: L2) a → stable w' (L1 ++ e1 :: L2) a ∧ w'.cell? a = w.cell? a := fun a ha => by
    have hn0 : ¬ e0.owns a := ha.2 e0 (by simp)
    have e := hc a ha.1 hn0
    refine ⟨⟨by rw [e]; exact ha.1, fun x hx ho => ?_⟩, e⟩
    rcases List.mem_append.1 hx with hx | hx
    · exact ha.2 x (by simp [hx]) ho
    · rcases List.mem_cons.1 hx with hx | hx
      · subst hx
        rcases h2 a ho with h | h
        · exact hn0 h
        · have := ha.lt; omega
      · exact ha.2 x (by simp [hx]) ho
  have hap := hs.apart
  rw [List.pairwise_append, List.pairwise_cons] at hap
  obtain ⟨p1, ⟨p2, p3⟩, p4⟩ := hap
  have others : ∀ x, x ∈ L1 ∨ x ∈ L2 → (∀ b, x.touches b → ¬ e0.touches b) ∧ x ∈ L1 ++ e0 :: L2 := fun x hx => by
    rcases hx with hx | hx
    · exact ⟨fun b hb h0 => p4 x hx e0 (by simp) b hb h0, by simp [hx]⟩
    · exact ⟨fun b hb h0 => p2 x hx b h0 hb, by simp [hx]⟩
  have hold : ∀ x, x ∈ L1 ∨ x ∈ L2 → x.holds (stable w' (L1 ++ e1 :: L2)) w' := fun x hx => by
    obtain ⟨hn, hm⟩ := others x hx
    have hxh := hs.holds x hm
    exact Ent.holds_mono hxh hst (fun b hxb => hb b (touches_lt hs hm hxb) (hn b hxb))
  have t1 : ∀ x, x ∈ L1 ∨ x ∈ L2 → ∀ b, x.touches b → ¬ e1.touches b := fun x hx b hxb h => by
    obtain ⟨hn, hm⟩ := others x hx
    rcases h1 b h with h | h
    · exact hn b hxb h
    · have := touches_lt hs hm hxb; omega
  have hap' : (L1 ++ e1 :: L2).Pairwise (fun e f => ∀ b, e.touches b → ¬ f.touches b) := by
    rw [List.pairwise_append, List.pairwise_cons]
    refine ⟨p1, ⟨fun x hx b hb hxb => t1 x (.inr hx) b hxb hb, p3⟩, fun x hx y hy b hxb hyb => ?_⟩
    rcases List.mem_cons.1 hy with hy | hy
    · subst hy; exact t1 x (.inl hx) b hxb hyb
    · exact p4 x hx y (by simp [hy]) b hxb hyb
  refine ⟨⟨fun x hx => ?_, hap'.imp fun {x y} h a hxa hya => h _ (Ent.touch hxa) (Ent.touch hya), hap'⟩, ⟨ho, ht, hp, hz, hst, fun b hlt h => ?_⟩⟩
  · rcases List.mem_append.1 hx with hx | hx
    · exact hold x (.inl hx)
    · rcases List.mem_cons.1 hx with hx | hx
      · subst hx; exact hh hst
      · exact hold x (.inr hx)
  · refine ⟨hb b hlt (h e0 (by simp)), fun x hx hxb => ?_⟩
    rcases List.mem_append.1 hx with hx | hx
    · exact h x (by simp [hx]) hxb
    · rcases List.mem_cons.1 hx with hx | hx
      · subst hx
        rcases h1 b hxb with h' | h'
        · exact h e0 (by simp) h'
        · omega
      · exact h x (by simp [hx]) hxb
/-- One entry more, of new memory. -/
theorem Sim.add {w w' : World} {H : Own} {e1 : Ent} (hs : Sim w H) (ho : w'.os = w.os) (ht : w'.tape = w.tape) (hp : w'.output = w.output) (hz : w.heap.size ≤ w'.heap.size)
    (hb : ∀ b, b < w.heap.size → w'.heap[b]? = w.heap[b]?) (h1 : ∀ b, e1.touches b → w.heap.size ≤ b)
    (hh : (∀ a, stable w H a → stable w' (e1 :: H) a ∧ w'.cell? a = w.cell? a) → e1.holds (stable w' (e1 :: H)) w') : Sim w' (e1 :: H) ∧ Ext w H w' (e1 :: H) := by
  have he : Sim w (Ent.tail 0 (.slice none 0 0) :: H) := by
    have hS : stable w (Ent.tail 0 (.slice none 0 0) :: H) = stable w H := by
      funext a
      refine propext ⟨fun h => ⟨h.1, fun e he => h.2 e (by simp [he])⟩, fun h => ⟨h.1, fun e he => ?_⟩⟩
      rcases List.mem_cons.1 he with he | he
      · subst he; exact fun h => h.elim
      · exact h.2 e he
    refine ⟨fun e he => ?_, ?_, ?_⟩
    · rw [hS]
      rcases List.mem_cons.1 he with he | he
      · subst he; exact ⟨rfl, rfl⟩
      · exact hs.holds e he
    · exact List.pairwise_cons.2 ⟨fun _ _ _ h => h.elim, hs.disj⟩
    · exact List.pairwise_cons.2 ⟨fun _ _ _ h => h.elim, hs.apart⟩
  have hS : ∀ a, stable w H a → stable w (Ent.tail 0 (.slice none 0 0) :: H) a := fun a h => ⟨h.1, fun e he => by
    rcases List.mem_cons.1 he with he | he
    · subst he; exact fun h => h.elim
    · exact h.2 e he⟩
  obtain ⟨g1, g2⟩ := Sim.swap (L1 := []) (L2 := H) (e0 := Ent.tail 0 (.slice none 0 0)) (e1 := e1) he ho ht hp hz (fun b hlt _ => hb b hlt) (fun a ha _ => by
      obtain ⟨v, hv⟩ := Option.isSome_iff_exists.1 ha
      exact World.cell?_of_block (w := w) (hb a.block (World.block_lt_of_cell? w a hv))) (fun b h => .inr (h1 b h)) (fun a h => .inr (h1 _ (Ent.touch h))) (fun h => hh fun a ha => h a (hS a ha))
  refine ⟨g1, ⟨g2.os, g2.tape, g2.output, g2.size, fun a ha => g2.cells a (hS a ha), fun b hlt h => g2.full b hlt fun e he => ?_⟩⟩
  rcases List.mem_cons.1 he with he | he
  · subst he; exact fun h => h.elim
  · exact h e he
/-- A new block of cells, owned. -/
theorem Sim.addBlk {w : World} {H : Own} (hs : Sim w H) (xs : Array Value) (T : TypeId) (cs : List V) (hn : xs.size = cs.length) (hr : ∀ k, k < cs.length → R (stable w H) w (xs.getD k undef) (cs.getD k .any)) :
    Sim (w.alloc (.cells xs T)) (.blk w.heap.size cs :: H) ∧ Ext w H (w.alloc (.cells xs T)) (.blk w.heap.size cs :: H) :=
  hs.add rfl rfl rfl (by simp) (fun b hb => Below.heap_alloc w _ b hb) (fun b h => Nat.le_of_eq h.symm) fun hst =>
    ⟨xs, T, (0, 0), heap_alloc_new w _, .inl rfl, hn, fun k hk => (hr k hk).mono hst⟩

section
variable {P : Program} {o : Oper} {f : Operand → V} {H : Own} {K : V → Own → Prop}
/-- A step that yields a value and leaves a new world. -/
theorem DOp.step (h : ∀ (a : Act) (w : World), Sim w H → (∀ x, x ∈ o.op.operands → R (stable w H) w (a.eval x) (f x)) →
      ∃ v w' d H', (execOp a.eval o).run P w = .ok (.value v) w' ∧ (Sim w' H' ∧ Ext w H w' H') ∧ R (stable w' H') w' v d ∧ K d H') : DOp P o f H K := fun a w next Q hs hr hn => by
  obtain ⟨v, w', d, H', h1, ⟨h2, h3⟩, h4, h5⟩ := h a w hs hr
  unfold Oper.wp
  rw [h1]
  exact hn v w' d H' h2 h3 h4 h5
theorem DOp.skip_ (h : ∀ (a : Act) (w : World), Sim w H → (∀ x, x ∈ o.op.operands → R (stable w H) w (a.eval x) (f x)) →
      ∃ w' H', (execOp a.eval o).run P w = .ok .skip w' ∧ (Sim w' H' ∧ Ext w H w' H') ∧ K .any H') : DOp P o f H K := fun a w next Q hs hr hn => by
  obtain ⟨w', H', h1, ⟨h2, h3⟩, h5⟩ := h a w hs hr
  unfold Oper.wp
  rw [h1]
  exact hn undef w' .any H' h2 h3 (.any _) h5

/-- A new variable, owned. -/
theorem DOp.alloc_ {t : TypeId} (hop : o.op = .alloc t) (h : (ty P t).zero ≠ [] ∧ (ty P t).kind ≠ 0 ∧ (ty P t).kind ≠ 11 ∧ ∀ b, K (.raw (.pointer (some ⟨b, 0, none⟩))) (.blk b (ty P t).zero :: H)) : DOp P o f H K :=
  DOp.step fun a w hs hr => by
    obtain ⟨h0, h1, h2, h⟩ := h
    obtain ⟨i, d, hi, _, _, _, _, hz⟩ := ty_info (t := t) rfl h1 h2
    cases hzz : i.zero with
    | none => rw [hzz] at hz; exact absurd hz h0
    | some z =>
      obtain ⟨z1, z2⟩ := zero_rel (P := P) (S := stable w H) (w := w) hi hzz hz
      refine ⟨.pointer (some ⟨w.heap.size, 0, none⟩), _, _, _, ?_, Sim.addBlk hs z.cells t (ty P t).zero z1 z2, .raw _, h _⟩
      unfold execOp
      rw [hop]
      simp [Instr.alloc, zeroValue, typeInfo, program, Sem.run, hi, hzz, newVar, newRow]
/-- A value boxed, owned. -/
theorem DOp.box_ {t : TypeId} {x : Operand} (hop : o.op = .box t x) (h : (f x).solid = true ∧ ∀ b, K (.raw (.pointer (some ⟨b, 0, none⟩))) (.blk b (f x).cs :: H)) : DOp P o f H K :=
  DOp.step fun a w hs hr => by
    obtain ⟨h1, h⟩ := h
    obtain ⟨c1, c2⟩ := (hr x (by simp [hop, Op.operands])).solid h1
    refine ⟨.pointer (some ⟨w.heap.size, 0, none⟩), _, _, _, ?_, Sim.addBlk hs (a.eval x).cells t (f x).cs c1 c2, .raw _, h _⟩
    unfold execOp
    rw [hop]
    simp [Instr.box, newVar, newRow]
theorem blk_of {w : World} {L1 L2 : Own} {b : Nat} {cs : List V} (hs : Sim w (L1 ++ .blk b cs :: L2)) : ∃ xs T fr, w.heap[b]? = some (.cells xs T fr) ∧ free fr 0 xs.size ∧ xs.size = cs.length ∧ (∀ k, k < cs.length → R (stable w (L1 ++ .blk b cs :: L2)) w (xs.getD k undef) (cs.getD k .any)) ∧
    ∀ k, k < cs.length → w.cell? ⟨b, k, none⟩ = some (xs.getD k undef) ∧ w.frozen? ⟨b, k, none⟩ = false := by
  obtain ⟨xs, T, fr, h1, h2, h3, h4⟩ := hs.holds (.blk b cs) (by simp)
  refine ⟨xs, T, fr, h1, h2, h3, h4, fun k hk => ⟨?_, ?_⟩⟩
  · have hk' : k < xs.size := by omega
    simp [World.cell?, h1, Array.getD_eq_getD_getElem?, hk']
  · have := h2.at k (Nat.zero_le _) (by omega)
    simp [World.frozen?, h1]
    omega
/-- A load of what is owned. -/
theorem DOp.load_ {t : TypeId} {x : Operand} {b off : Nat} (hop : o.op = .load t x) (hx : f x = .raw (.pointer (some ⟨b, off, none⟩))) (h : OnB H b fun cs _ => partS (ty P t) (cs.drop off) 0 ∧ K (partV (ty P t) (cs.drop off) 0) H) : DOp P o f H K := by
  obtain ⟨cs, L1, L2, rfl, hp, hk⟩ := h
  refine DOp.step fun a w hs hr => ?_
  have hv := hr x (by simp [hop, Op.operands])
  rw [hx] at hv
  have hv : a.eval x = .pointer (some ⟨b, off, none⟩) := by generalize a.eval x = v at hv; cases hv; rfl
  obtain ⟨xs, T, fr, h1, h2, h3, h4, h5⟩ := blk_of hs
  obtain ⟨v, e1, e2⟩ := loadVar_run (P := P) (S := stable w (L1 ++ .blk b cs :: L2)) (w := w) (t := t) (b := ⟨b, off, none⟩) (cs := cs.drop off) rfl (fun k hk => by
    rw [List.length_drop] at hk
    simp only
    rw [(h5 (off + k) (by omega)).1]; rfl) (fun k hk => by
    rw [List.length_drop] at hk
    have := h4 (off + k) (by omega)
    simp only
    rw [cellAt, (h5 (off + k) (by omega)).1]
    simpa [List.getD_eq_getElem?_getD, List.getElem?_drop] using this) hp
  refine ⟨v, w, _, _, ?_, ⟨hs, .refl _ _⟩, e2, hk⟩
  unfold execOp
  rw [hop]
  simp [Instr.loadAt, hv, Instr.sureAddr, e1]
end

theorem setCells_size (b : Nat) : ∀ (vs : List Value) (o : Nat) (w : World), (w.setCells b o vs).heap.size = w.heap.size
  | [], _, _ => rfl
  | v :: vs, o, w => by rw [World.setCells]; rw [setCells_size b vs]; simp
end Go.Proofs.YtnnigbnlhhikjaaDoor
