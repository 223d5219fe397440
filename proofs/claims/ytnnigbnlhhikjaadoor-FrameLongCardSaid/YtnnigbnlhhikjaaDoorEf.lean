/- That the operations that look at no memory that changes yield what val says. No statement of the program. -/
import Derived.Test.YtnnigbnlhhikjaaDoorEe
import Derived.Laws.BytesArg
import Derived.Laws.BytesString
import Derived.Laws.IdiomStrings
import Derived.Laws.Concat
import Derived.Laws.Strings2
namespace Go.Proofs.YtnnigbnlhhikjaaDoor
open Go.RowKit
set_option linter.unusedSimpArgs false
set_option linter.unusedVariables false
set_option linter.unusedSectionVars false
section
variable {P : Program} {S : Addr → Prop} {w : World}

theorem foldl_lay (off : Nat) : ∀ (vs : List Value) (j : Nat) (cs : Array Value), off + j + vs.length ≤ cs.size →
    ((vs.zipIdx j).foldl (fun cs (x : Value × Nat) => cs.setIfInBounds (off + x.2) x.1) cs).size = cs.size ∧
    ∀ k, ((vs.zipIdx j).foldl (fun cs (x : Value × Nat) => cs.setIfInBounds (off + x.2) x.1) cs).getD k undef = if off + j ≤ k ∧ k < off + j + vs.length then vs.getD (k - (off + j)) undef else cs.getD k undef
  | [], j, cs, h => by
    refine ⟨rfl, fun k => ?_⟩
    rw [if_neg (by simp <;> omega)]
    rfl
  | v :: vs, j, cs, h => by
    have h' : off + (j + 1) + vs.length ≤ (cs.setIfInBounds (off + j) v).size := by simp at h ⊢; omega
    obtain ⟨g1, g2⟩ := foldl_lay off vs (j + 1) (cs.setIfInBounds (off + j) v) h'
    refine ⟨by simpa [List.zipIdx_cons] using g1, fun k => ?_⟩
    have := g2 k
    simp only [List.zipIdx_cons, List.foldl_cons]
    rw [this]
    simp only [List.length_cons] at h ⊢
    by_cases hk : k = off + j
    · subst hk
      rw [if_neg (by omega), if_pos (by omega)]
      simp [Array.getD_eq_getD_getElem?, Array.getElem?_setIfInBounds]
      rw [if_pos (by omega)]; rfl
    · by_cases hk2 : off + (j + 1) ≤ k ∧ k < off + (j + 1) + vs.length
      · rw [if_pos hk2, if_pos (by omega)]
        rw [show k - (off + j) = (k - (off + (j + 1))) + 1 by omega]
        rfl
      · rw [if_neg hk2, if_neg (by omega)]
        simp [Array.getD_eq_getD_getElem?, Array.getElem?_setIfInBounds, Ne.symm hk]
theorem lay_at (cs d : List V) (off : Nat) (h : off + d.length ≤ cs.length) : (layV cs off d).length = cs.length ∧ ∀ k, (layV cs off d).getD k .any = if off ≤ k ∧ k < off + d.length then d.getD (k - off) .any else cs.getD k .any := by
  refine ⟨by simp [layV]; omega, fun k => ?_⟩
  simp only [layV, List.getD_eq_getElem?_getD, List.append_assoc]
  have hl : (cs.take off).length = off := by simp; omega
  by_cases h1 : k < off
  · rw [List.getElem?_append_left (by omega), List.getElem?_take, if_pos h1, if_neg (by omega)]
  · rw [List.getElem?_append_right (by omega), hl]
    by_cases h2 : k < off + d.length
    · rw [List.getElem?_append_left (by omega), if_pos (by omega)]
    · rw [List.getElem?_append_right (by omega), if_neg (by omega), List.getElem?_drop, show off + d.length + (k - off - d.length) = k by omega]
theorem fill_run (place : Nat → Option (Nat × Nat)) : ∀ (parts : List (Nat × Value)) (ds : List (Nat × V)) (xs : Array Value) (cs : List V), parts.length = ds.length →
    (∀ i, i < ds.length → (parts.getD i (0, undef)).1 = (ds.getD i (0, .any)).1 ∧ R S w (parts.getD i (0, undef)).2 (ds.getD i (0, .any)).2) →
    xs.size = cs.length → (∀ k, k < cs.length → R S w (xs.getD k undef) (cs.getD k .any)) → fillS place cs ds →
    ∃ ys, Instr.fill place xs parts = some ys ∧ ys.size = (fillV place cs ds).length ∧ (fillV place cs ds).length = cs.length ∧ ∀ k, k < (fillV place cs ds).length → R S w (ys.getD k undef) ((fillV place cs ds).getD k .any)
  | [], [], xs, cs, _, _, hn, h, _ => ⟨xs, rfl, hn, rfl, h⟩
  | (i, v) :: parts, (j, d) :: ds, xs, cs, hl, hr, hn, h, hs => by
    have h0 := hr 0 (by simp)
    simp only [List.getD_cons_zero] at h0
    obtain ⟨rfl, hv⟩ := h0
    simp only [fillS] at hs
    cases hp : place i with
    | none => rw [hp] at hs; exact hs.elim
    | some os =>
      obtain ⟨off, sz⟩ := os
      rw [hp] at hs
      obtain ⟨s1, s2, s3, s4⟩ := hs
      obtain ⟨c1, c2⟩ := hv.solid s1
      have hfit : off + 0 + v.cells.toList.length ≤ xs.size := by simp; omega
      obtain ⟨g1, g2⟩ := foldl_lay off v.cells.toList 0 xs hfit
      obtain ⟨l1, l2⟩ := lay_at cs d.cs off (by omega)
      have hz : (v.cells.zipIdx.foldl (fun cs (x : Value × Nat) => cs.setIfInBounds (off + x.2) x.1) xs) = (v.cells.toList.zipIdx 0).foldl (fun cs (x : Value × Nat) => cs.setIfInBounds (off + x.2) x.1) xs := by
        rw [← Array.foldl_toList, Array.toList_zipIdx]
      obtain ⟨ys, e1, e2, e3, e4⟩ := fill_run place parts ds (v.cells.zipIdx.foldl (fun cs (x : Value × Nat) => cs.setIfInBounds (off + x.2) x.1) xs) (layV cs off d.cs) (by simpa using hl)
        (fun k hk => by have := hr (k + 1) (by simpa using hk); simpa using this) (by rw [hz, g1, l1]; exact hn) (fun k hk => by
          rw [hz, g2 k, l2 k]
          simp only [Array.length_toList, Nat.add_zero]
          by_cases hk' : off ≤ k ∧ k < off + v.cells.size
          · rw [if_pos hk', if_pos (by omega)]
            have := c2 (k - off) (by omega)
            simpa [Array.getD_eq_getD_getElem?, List.getD_eq_getElem?_getD] using this
          · rw [if_neg hk', if_neg (by omega)]
            exact h k (by omega)) s4
      refine ⟨ys, ?_, by simpa [fillV, hp] using e2, by simpa [fillV, hp, l1] using e3, by simpa [fillV, hp] using e4⟩
      simp only [Instr.fill, hp]
      rw [if_neg (by simp; omega)]
      exact e1
  | [], _ :: _, _, _, hl, _, _, _, _ => by simp at hl
  | _ :: _, [], _, _, hl, _, _, _, _ => by simp at hl
theorem zero_rel {t : TypeId} {z : Value} {i : TypeInfo} (h : P.info? t = some i) (hz : i.zero = some z) (hT : (ty P t).zero = (i.zero.map (·.cells.toList.map ofConst1)).getD []) :
    z.cells.size = (ty P t).zero.length ∧ ∀ k, k < (ty P t).zero.length → R S w (z.cells.getD k undef) ((ty P t).zero.getD k .any) := by
  rw [hT, hz]
  simp only [Option.map_some, Option.getD_some, List.length_map, Array.length_toList]
  refine ⟨(by first | rfl | trivial), fun k hk => ?_⟩
  have := R.const1 S w z.cells[k]
  simpa [Array.getD_eq_getD_getElem?, List.getD_eq_getElem?_getD, hk] using this

theorem split_at (sz : Nat) (agg : Bool) : ∀ (n : Nat) (cs : List V), (splitV sz agg n cs).length = n ∧ ∀ i, i < n → (splitV sz agg n cs).getD i .any = if agg then .agg ((cs.drop (i * sz)).take sz) else (cs.drop (i * sz)).getD 0 .any
  | 0, _ => ⟨rfl, fun i h => absurd h (Nat.not_lt_zero _)⟩
  | n + 1, cs => by
    obtain ⟨h1, h2⟩ := split_at sz agg n (cs.drop sz)
    refine ⟨by simp [splitV, h1], fun i hi => ?_⟩
    cases i with
    | zero => simp [splitV]
    | succ i =>
      have := h2 i (by omega)
      simp only [splitV, List.getD_cons_succ, this, List.drop_drop]
      rw [show sz + i * sz = (i + 1) * sz by rw [Nat.add_mul]; omega]
/-- A new row of cells, as a slice's elements. -/
theorem row_rel {H : Own} {w : World} (hs : Sim w H) (xs : Array Value) (T : TypeId) (cs : List V) (n sz : Nat) (agg : Bool) (hsz : 0 < sz) (h1 : agg = false → sz = 1 ∧ cs.all V.flat = true) (hx : xs.size = cs.length) (hc : cs.length = n * sz)
    (hr : ∀ k, k < cs.length → R (stable w H) w (xs.getD k undef) (cs.getD k .any)) :
    R (stable (w.alloc (.cells xs T)) H) (w.alloc (.cells xs T)) (.slice (some ⟨w.heap.size, 0, none⟩) n n) (.sl (splitV sz agg n cs)) := by
  obtain ⟨g1, g2⟩ := split_at sz agg n cs
  have hcell : ∀ k, k < cs.length → cellAt (w.alloc (.cells xs T)) ⟨w.heap.size, k, none⟩ = xs.getD k undef := fun k hk => by
    unfold cellAt
    rw [World.cell?_alloc_new]
    simp [Array.getD_eq_getD_getElem?]
  have hlt : ∀ i k, i < n → k < sz → i * sz + k < cs.length := fun i k hi hk => by
    rw [hc]
    calc i * sz + k < i * sz + sz := by omega
      _ = (i + 1) * sz := by rw [Nat.add_mul]; omega
      _ ≤ n * sz := Nat.mul_le_mul_right _ hi
  refine .sl _ n n _ sz g1.symm (Nat.le_refl _) (fun h => nomatch h) (fun b hb _ => by injection hb with hb; subst hb; rfl) (fun i hi => ?_) (fun b i k hb hi hk => ?_) (fun b i k hb hi hk => ?_)
  · rw [g1] at hi
    rw [g2 i hi]
    cases agg with
    | true =>
      simp only [if_true, V.n, List.length_take, List.length_drop]
      have := hlt i (sz - 1) hi (by omega)
      omega
    | false =>
      simp only [Bool.false_eq_true, if_false]
      obtain ⟨e1, e2⟩ := h1 rfl
      have hl := hlt i 0 hi hsz
      rw [Nat.add_zero] at hl
      have e3 : (cs.drop (i * sz)).getD 0 .any = cs[i * sz] := by simp [List.getD_eq_getElem?_getD, List.getElem?_drop, hl]
      rw [e3]
      exact ((V.flat_n (List.all_eq_true.1 e2 _ (List.getElem_mem hl))).1).trans e1.symm
  · injection hb with hb; subst hb
    rw [g1] at hi
    have := hlt i k hi hk
    simp only [Nat.zero_add]
    exact stable_new hs xs T _ (by omega)
  · injection hb with hb; subst hb
    rw [g1] at hi
    have hl := hlt i k hi hk
    simp only [Nat.zero_add]
    rw [hcell _ hl, g2 i hi]
    have := (Sim.new hs (.cells xs T)).2.rel (hr _ hl)
    cases agg with
    | true =>
      simp only [if_true, V.cell]
      have e : (List.take sz (cs.drop (i * sz))).getD k .any = cs.getD (i * sz + k) .any := by
        simp only [List.getD_eq_getElem?_getD, List.getElem?_take, List.getElem?_drop]
        rw [if_pos hk]
      rw [e]; exact this
    | false =>
      obtain ⟨hs1, e2⟩ := h1 rfl
      have hk0 : k = 0 := by omega
      subst hk0
      simp only [Bool.false_eq_true, if_false]
      rw [Nat.add_zero] at hl this ⊢
      have e3 : (cs.drop (i * sz)).getD 0 .any = cs[i * sz] := by simp [List.getD_eq_getElem?_getD, List.getElem?_drop, hl]
      have e4 : cs.getD (i * sz) .any = cs[i * sz] := by simp [List.getD_eq_getElem?_getD, hl]
      rw [e4] at this
      rw [e3, (V.flat_n (List.all_eq_true.1 e2 _ (List.getElem_mem hl))).2]
      exact this

def placeOf (f : Field) : Sem (Nat × Nat) := do pure (f.offset, ← sizeOf f.type)
theorem built_place {fs : Array Field} {w : World} (hall : ∀ p ∈ (fs.toList.map fun f => (f.offset, f.type)), (ty P p.2).kind ≠ 0 ∧ (ty P p.2).kind ≠ 11) :
    ∃ places : Array (Nat × Nat), (fs.mapM (m := Sem) placeOf).run P w = .ok places w ∧ ∀ i : Nat, places[i]? = ((fs.toList.map fun f => (f.offset, f.type))[i]?).map fun p => (p.1, (ty P p.2).size) := by
  refine ⟨(fs.toList.map fun f => (f.offset, (ty P f.type).size)).toArray, ?_, fun i => ?_⟩
  · have key : ∀ l : List Field, (∀ p ∈ (l.map fun f => (f.offset, f.type)), (ty P p.2).kind ≠ 0 ∧ (ty P p.2).kind ≠ 11) → (l.mapM (m := Sem) placeOf).run P w = .ok (l.map fun f => (f.offset, (ty P f.type).size)) w := fun l => by
      induction l with
      | nil => intro _; simp
      | cons f l ih =>
        intro h
        have h0 := h (f.offset, f.type) (by simp)
        have ih := ih fun p hp => h p (by simp at hp ⊢; exact .inr hp)
        have e : (placeOf f).run P w = .ok (f.offset, (ty P f.type).size) w := by unfold placeOf; simp [run_sizeOf h0.1 h0.2]
        rw [List.mapM_cons, Sem.run_bind, e]
        simp [ih]
    rw [Array.mapM_eq_mapM_toList]
    simp [key fs.toList hall]
  · simp only [List.getElem?_toArray, List.getElem?_map, Option.map_map]
    rfl

theorem isU8_all {S : Addr → Prop} {w : World} {l : List V} (h : l.all isU8 = true) {i : Nat} (hi : i < l.length) {v : Value} (hr : R S w v ((l.getD i .any).cell 0)) : v = .int .u8 (match l.getD i .any with | .int _ n => n | _ => 0) := by
  have h1 := List.all_eq_true.1 h _ (List.getElem_mem hi)
  have e : l.getD i .any = l[i] := by simp [List.getD_eq_getElem?_getD, hi]
  rw [e] at hr ⊢
  generalize l[i] = d at *
  cases d with
  | int k n =>
    cases k <;> first | cases h1 | skip
    simp only [V.cell] at hr
    cases hr
    rfl
  | _ => cases h1
theorem bytes_run {S : Addr → Prop} {w : World} {v : Value} {l : List V} (hS : ∀ a, S a → (w.cell? a).isSome = true) (h : R S w v (.sl l)) (h8 : l.all isU8 = true) : (Conv.bytesToString v).run P w = .ok (.string (bs (l.map byteOf))) w := by
  obtain ⟨a, cap, sz, rfl, hc, ha, g1, g2, g3, g4⟩ := h.slc
  cases a with
  | none =>
    rw [ha rfl]
    simp [Conv.bytesToString, bs]
    rfl
  | some b =>
    have hsz : ∀ i, i < l.length → 0 < sz := fun i hi => by
      have h1 := List.all_eq_true.1 h8 _ (List.getElem_mem hi)
      have := g2 i hi
      rw [show l.getD i .any = l[i] by simp [List.getD_eq_getElem?_getD, hi]] at this
      generalize l[i] = d at *
      cases d <;> first | cases h1 | (simp only [V.n] at this; omega)
    have hsz1 : ∀ i, i < l.length → sz = 1 := fun i hi => by
      have h1 := List.all_eq_true.1 h8 _ (List.getElem_mem hi)
      have := g2 i hi
      rw [show l.getD i .any = l[i] by simp [List.getD_eq_getElem?_getD, hi]] at this
      generalize l[i] = d at *
      cases d <;> first | cases h1 | (simp only [V.n] at this; omega)
    have hcell : ∀ j, j < l.length → w.cell? (b.add j) = some (.int .u8 (match l.getD j .any with | .int _ n => n | _ => 0)) := fun j hj => by
      have s1 := hsz1 j hj
      subst s1
      have := isU8_all h8 hj (g4 b j 0 rfl hj (by omega))
      rw [addr_add b j (g1 b rfl (fun h => by rw [h] at hj; simp at hj))]
      obtain ⟨u, hu⟩ := Option.isSome_iff_exists.1 (hS _ (g3 b j 0 rfl hj (by omega)))
      simp only [Nat.mul_one, Nat.add_zero] at hu this
      rw [cellAt, hu] at this
      rw [hu]
      simpa using this
    have hl := run_loadCells (P := P) w b l.length (fun j => .int .u8 (match l.getD j .any with | .int _ n => n | _ => 0)) hcell
    have hmap : ((List.range l.length).map fun j => (Value.int .u8 (match l.getD j .any with | .int _ n => n | _ => 0))) = (l.map fun d => (match d with | .int _ n => n | _ => 0)).map (Value.int .u8) := by
      apply List.ext_getElem
      · simp
      · intro i h1 h2
        simp at h1 h2
        simp [List.getD_eq_getElem?_getD, h1]
    have hbytes : ((l.map fun d => (match d with | .int _ n => n | _ => 0)).map fun n => UInt8.ofNat n.toNat) = l.map byteOf := by
      rw [List.map_map]
      refine List.map_congr_left fun d hd => ?_
      have h1 := List.all_eq_true.1 h8 d hd
      cases d <;> first | cases h1 | rfl
    have hl' : (loadCells b l.length).run P w = .ok ((l.map fun d => (match d with | .int _ n => n | _ => 0)).map (Value.int .u8)).toArray w := by
      rw [hl, ← hmap]
    rw [run_bytesToString w b l.length cap _ hl', foldl_push_bytes, hbytes]
    simp [bs]
/-- A part of a slice. -/
theorem R.part_ {S : Addr → Prop} {w : World} {v : Value} {l : List V} {T : Ty} (h : R S w v (.sl l)) (hn : ∀ x ∈ l, x.n = T.size) (lo hi : Nat) (h1 : lo ≤ hi) (h2 : hi ≤ l.length) :
    ∀ a cap, v = .slice a l.length cap → R S w (.slice (if cap = lo then a else a.map (·.add (lo * T.size))) (hi - lo) (cap - lo)) (.sl ((l.take hi).drop lo)) := by
  obtain ⟨a, cap, sz, rfl, hc, ha, g1, g2, g3, g4⟩ := h.slc
  intro a' cap' e
  injection e with e1 e2 e3
  subst e1
  subst e3
  have hlen : ((l.take hi).drop lo).length = hi - lo := by simp; omega
  have hget : ∀ i, i < hi - lo → ((l.take hi).drop lo).getD i .any = l.getD (lo + i) .any := fun i hi' => by
    simp only [List.getD_eq_getElem?_getD, List.getElem?_drop, List.getElem?_take]
    rw [if_pos (by omega)]
  have hsz : ∀ i, i < l.length → sz = T.size := fun i hi => by
    have := g2 i hi
    rw [show l.getD i .any = l[i] by simp [List.getD_eq_getElem?_getD, hi]] at this
    rw [← this]; exact hn _ (List.getElem_mem hi)
  have hb : ∀ b, (if cap = lo then a else a.map (·.add (lo * T.size))) = some b → 0 < hi - lo → ∃ b0, a = some b0 ∧ b = ⟨b0.block, b0.off + lo * T.size, none⟩ := fun b hb hpos => by
    rw [if_neg (by omega)] at hb
    cases a with
    | none => cases hb
    | some b0 =>
      simp only [Option.map_some, Option.some.injEq] at hb
      exact ⟨b0, rfl, by rw [← hb, addr_add b0 _ (g1 b0 rfl (fun h => by rw [h] at h2; simp at h2; omega))]⟩
  refine .sl _ _ _ _ sz hlen.symm (by omega) (fun h0 => ?_) (fun b hb' hne => ?_) (fun i hi' => ?_) (fun b i k hb' hi' hk => ?_) (fun b i k hb' hi' hk => ?_)
  · have : a = none := by
      split at h0
      · exact h0
      · cases a with
        | none => rfl
        | some b => cases h0
    rw [ha this]; simp
  · have hl : l ≠ [] := fun h => hne (by rw [h]; simp)
    split at hb'
    · exact g1 b hb' hl
    · cases a with
      | none => cases hb'
      | some b0 =>
        simp only [Option.map_some, Option.some.injEq] at hb'
        rw [← hb', addr_add b0 _ (g1 b0 rfl hl)]
  · rw [hlen] at hi'
    rw [hget i hi']; exact g2 _ (by omega)
  · rw [hlen] at hi'
    obtain ⟨b0, e0, rfl⟩ := hb b hb' (by omega)
    have := g3 b0 (lo + i) k e0 (by omega) hk
    rw [← hsz (lo + i) (by omega)]
    simp only
    rw [show b0.off + lo * sz + i * sz + k = b0.off + (lo + i) * sz + k by rw [Nat.add_mul]; omega]
    exact this
  · rw [hlen] at hi'
    obtain ⟨b0, e0, rfl⟩ := hb b hb' (by omega)
    have := g4 b0 (lo + i) k e0 (by omega) hk
    rw [hget i hi', ← hsz (lo + i) (by omega)]
    simp only
    rw [show b0.off + lo * sz + i * sz + k = b0.off + (lo + i) * sz + k by rw [Nat.add_mul]; omega]
    exact this

/-- The i-th byte, as a value. -/
def u8v (c : List UInt8) (i : Nat) : Value := .int .u8 (((c.getD i 0).toNat : Nat) : Int)
def loN : Option V → Nat
  | some (.int _ h) => h.toNat
  | _ => 0
def hiN (n : Nat) : Option V → Nat
  | some (.int _ h) => h.toNat
  | _ => n
theorem flat_at (z : List V) : ∀ (n k : Nat), k < n * z.length → ((List.replicate n z).flatten).getD k .any = z.getD (k % z.length) .any
  | 0, k, h => by simp at h
  | n + 1, k, h => by
    rw [List.replicate_succ, List.flatten_cons]
    by_cases hk : k < z.length
    · rw [Nat.mod_eq_of_lt hk]
      simp only [List.getD_eq_getElem?_getD, List.getElem?_append_left hk]
    · have ih := flat_at z n (k - z.length) (by rw [Nat.add_mul] at h; omega)
      rw [← Nat.mod_eq_sub_mod (by omega)] at ih
      rw [← ih]
      simp only [List.getD_eq_getElem?_getD]
      rw [List.getElem?_append_right (by omega)]
theorem val_sound {o : Oper} {f : Operand → V} {H : Own} (h : side P o f) : DOp P o f H fun d' H' => d' = val P o f ∧ H' = H := by
  unfold side at h
  unfold val
  cases hop : o.op with
  | move x => exact DOp.same fun a w hs hr => ⟨a.eval x, by simp [execOp, hop], hr x (by simp [hop, Op.operands])⟩
  | assign x => exact DOp.same fun a w hs hr => ⟨a.eval x, by simp [execOp, hop], hr x (by simp [hop, Op.operands])⟩
  | pick c x y =>
    rw [hop] at h
    refine DOp.same fun a w hs hr => ?_
    have hc := hr c (by simp [hop, Op.operands])
    have hx := hr x (by simp [hop, Op.operands])
    have hy := hr y (by simp [hop, Op.operands])
    simp only at h ⊢
    split at h
    · rename_i b hb
      rw [hb] at hc ⊢
      have hv : a.eval c = .bool b := by generalize a.eval c = v at hc; cases hc; rfl
      refine ⟨if b then a.eval x else a.eval y, by simp [execOp, hop, hv, asBool], ?_⟩
      simp only [pickV]
      cases b
      · exact hy
      · exact hx
    · exact h.elim
  | binOp op t x y ty' =>
    rw [hop] at h
    refine DOp.same fun a w hs hr => ?_
    obtain ⟨v, h1, h2⟩ := bin_run x y (hr x (by simp [hop, Op.operands])) (hr y (by simp [hop, Op.operands])) h
    refine ⟨v, ?_, h2⟩
    unfold execOp
    rw [hop]
    simp only
    rw [Sem.run_bind, h1]
    rfl
  | unOp op t x =>
    rw [hop] at h
    refine DOp.same fun a w hs hr => ?_
    have hx := hr x (by simp [hop, Op.operands])
    simp only at h ⊢
    unfold execOp
    rw [hop]
    simp only
    generalize f x = d at *
    generalize a.eval x = v at *
    cases hx <;> simp only [unS] at h
    · subst h; exact ⟨_, by simp [Op.unary], .bool _⟩
    · rcases h with h | h
      · subst h; exact ⟨_, by simp [Op.unary, Op.intArith], .int _ _⟩
      · subst h; exact ⟨_, by simp [Op.unary, Op.intBits], .int _ _⟩
  | convert sT dT x =>
    rw [hop] at h
    simp only at h
    have run : ∀ (a : Act) (w : World) v w', (Go.convert sT dT (a.eval x)).run P w = .ok v w' → (execOp a.eval o).run P w = .ok (.value v) w' := fun a w v w' hv => by
      unfold execOp
      rw [hop]
      simp only
      rw [Sem.run_bind, hv]
      rfl
    simp only
    cases hd : f x with
    | int k n =>
      rw [hd] at h
      obtain ⟨h1, h2⟩ := h
      refine DOp.same fun a w hs hr => ?_
      have hx := hr x (by simp [hop, Op.operands])
      rw [hd] at hx
      have hv : a.eval x = .int k n := by generalize a.eval x = v at hx; cases hx; rfl
      cases hk : (ty P dT).ik with
      | none => rw [hk] at h1; cases h1
      | some k' =>
        refine ⟨.int k' (k'.wrap n), run a w _ w ?_, by simp only [convV, hk]; exact .int _ _⟩
        rw [hv]
        have hu := und_int hk
        have hsrc : ∃ d, P.underlying sT = some d := by
          unfold ty at h2
          split at h2
          · rename_i i d hi hd'; exact ⟨d, hd'⟩
          · exact absurd rfl h2
        obtain ⟨ds, hds⟩ := hsrc
        simp [convert, run_underlying hds, run_underlying hu, Conv.intToInt]
    | str c =>
      rw [hd] at h
      obtain ⟨h1, h2⟩ := h
      rcases h2 with h2 | ⟨h2, h3⟩
      · refine DOp.same fun a w hs hr => ?_
        have hx := hr x (by simp [hop, Op.operands])
        rw [hd] at hx
        have hv : a.eval x = .string (bs c) := by generalize a.eval x = v at hx; cases hx; rfl
        refine ⟨.string (bs c), run a w _ w ?_, ?_⟩
        · rw [hv]; simp [convert, run_underlying (und_string h1), run_underlying (und_string h2)]
        · simp only [convV, h2]; exact .str c
      · refine DOp.new fun a w hs hr => ?_
        have hx := hr x (by simp [hop, Op.operands])
        rw [hd] at hx
        have hv : a.eval x = .string (bs c) := by generalize a.eval x = v at hx; cases hx; rfl
        have hrun := run_bytes_of_string (P := P) w sT dT (ty P dT).elem (bs c) (und_string h1) (und_slice h2) (und_int h3)
        have hm := hs.more (w' := w.drew.alloc (.cells (bytesRow (bs c) (grownCap w (bs c).size 0 (ty P dT).elem)) (ty P dT).elem ((bytesRow (bs c) (grownCap w (bs c).size 0 (ty P dT).elem)).size, (bytesRow (bs c) (grownCap w (bs c).size 0 (ty P dT).elem)).size + 1))) rfl rfl rfl (by simp) (fun b hb => Below.heap_alloc w.drew _ b hb)
        refine ⟨_, _, run a w _ _ (by rw [hv]; exact hrun), hm, ?_⟩
        simp only [convV, h2, if_true]
        have hcell : ∀ i, i < c.length → (w.drew.alloc (.cells (bytesRow (bs c) (grownCap w (bs c).size 0 (ty P dT).elem)) (ty P dT).elem ((bytesRow (bs c) (grownCap w (bs c).size 0 (ty P dT).elem)).size, (bytesRow (bs c) (grownCap w (bs c).size 0 (ty P dT).elem)).size + 1))).cell? ⟨w.heap.size, i, none⟩ = some (u8v c i) := fun i hi => by
          have := World.cell?_alloc_mark w.drew (bytesRow (bs c) (grownCap w (bs c).size 0 (ty P dT).elem)) (ty P dT).elem ((bytesRow (bs c) (grownCap w (bs c).size 0 (ty P dT).elem)).size, (bytesRow (bs c) (grownCap w (bs c).size 0 (ty P dT).elem)).size + 1) i
          refine this.trans ?_
          have hi' : i < (bs c).data.size := by simpa [bs] using hi
          rw [bytesRow_at (bs c) _ i hi']
          simp [bs, u8v, hi]
        refine .sl _ _ _ _ 1 (by simp [bs_size]) (grownCap_ge w _ 0 _) (fun h => nomatch h) (fun b hb _ => by injection hb with hb; subst hb; rfl) (fun i hi => ?_) (fun b i k hb hi hk => ?_) (fun b i k hb hi hk => ?_)
        · simp at hi; simp [hi, u8, V.n]
        · injection hb with hb; subst hb
          simp only [List.length_map] at hi
          have hk0 : k = 0 := by omega
          subst hk0
          simp only [Nat.zero_add, Nat.mul_one, Nat.add_zero]
          refine ⟨by rw [hcell i hi]; rfl, fun e he ha => absurd (owns_lt hs he ha) (Nat.lt_irrefl _)⟩
        · injection hb with hb; subst hb
          simp only [List.length_map] at hi
          have hk0 : k = 0 := by omega
          subst hk0
          simp only [Nat.zero_add, Nat.mul_one, Nat.add_zero]
          rw [cellAt, hcell i hi]
          simp [hi, u8, V.cell, u8v]
          exact .int _ _
    | sl l =>
      rw [hd] at h
      obtain ⟨h1, h2, h3, h4⟩ := h
      refine DOp.same fun a w hs hr => ?_
      have hx := hr x (by simp [hop, Op.operands])
      rw [hd] at hx
      have hb := bytes_run (P := P) (fun a ha => ha.1) hx h4
      refine ⟨_, run a w _ w ?_, by simp only [convV]; exact .str _⟩
      obtain ⟨p, cap, sz, hv, _⟩ := hx.slc
      rw [hv] at hb ⊢
      rw [run_convert_bytes_string w sT dT _ _ _ _ (und_slice h1) (und_int h3) (und_string h2)]
      exact hb
    | gs v l =>
      rw [hd] at h
      obtain ⟨h1, h2, h3, h4⟩ := h
      refine DOp.same fun a w hs hr => ?_
      have hx := hr x (by simp [hop, Op.operands])
      rw [hd] at hx
      have hx : R (stable w H) w (a.eval x) (.sl l) := by generalize a.eval x = u at hx; cases hx with | gs v l h => exact h
      have hb := bytes_run (P := P) (fun a ha => ha.1) hx h4
      refine ⟨_, run a w _ w ?_, by simp only [convV]; exact .str _⟩
      obtain ⟨p, cap, sz, hv, _⟩ := hx.slc
      rw [hv] at hb ⊢
      rw [run_convert_bytes_string w sT dT _ _ _ _ (und_slice h1) (und_int h3) (und_string h2)]
      exact hb
    | _ => rw [hd] at h; exact h.elim
  | nilCheck x =>
    rw [hop] at h
    simp only at h ⊢
    refine DOp.same fun a w hs hr => ?_
    have hx := hr x (by simp [hop, Op.operands])
    have key : ∃ p, a.eval x = .pointer (some p) := by
      generalize a.eval x = v at hx
      split at h
      · rename_i cs hd; rw [hd] at hx; cases hx with | sp b cs h1 h3 h4 => exact ⟨b, rfl⟩
      · rename_i p hd; rw [hd] at hx; cases hx; exact ⟨p, rfl⟩
      · rename_i v k hd; rw [hd] at hx; cases hx with | ep b n cap k => exact ⟨_, rfl⟩
      · exact h.elim
    obtain ⟨p, hp⟩ := key
    exact ⟨a.eval x, by unfold execOp; rw [hop]; simp [hp], hx⟩
  | load t x =>
    rw [hop] at h
    simp only at h ⊢
    refine DOp.same fun a w hs hr => ?_
    have hx := hr x (by simp [hop, Op.operands])
    split at h
    · rename_i cs hd
      rw [hd] at hx
      generalize ha : a.eval x = v at hx
      cases hx with
      | sp b cs h1 h3 h4 =>
        obtain ⟨v, hv, hR⟩ := loadVar_run (P := P) (t := t) h1 (fun k hk => (h3 k hk).1) h4 h
        refine ⟨v, ?_, hR⟩
        unfold execOp
        rw [hop]
        simp [Instr.loadAt, ha, Instr.sureAddr, hv]
    · exact h.elim
  | fieldAddr sT x i =>
    rw [hop] at h
    simp only at h ⊢
    refine DOp.same fun a w hs hr => ?_
    have hx := hr x (by simp [hop, Op.operands])
    have run : ∀ b : Addr, a.eval x = .pointer (some b) → (ty P sT).kind = 6 → i < (ty P sT).offs.length → (ty P ((ty P sT).offs.getD i (0, 0)).2).kind ≠ 0 → (ty P ((ty P sT).offs.getD i (0, 0)).2).kind ≠ 11 → (ty P ((ty P sT).offs.getD i (0, 0)).2).size ≠ 0 →
        (execOp a.eval o).run P w = .ok (.value (.pointer (some (b.add ((ty P sT).offs.getD i (0, 0)).1)))) w := fun b hb h1 h2 h3 h4 h5 => by
      obtain ⟨fs, hu, ho⟩ := und_struct h1
      have hi : i < fs.size := by rw [ho] at h2; simpa using h2
      have hf : (ty P sT).offs.getD i (0, 0) = (fs[i].offset, fs[i].type) := by rw [ho]; simp [List.getD_eq_getElem?_getD, hi]
      rw [hf] at h3 h4 h5
      rw [hf]
      unfold execOp
      rw [hop]
      simp [Instr.fieldAt, run_underlying hu, hi, hb, Instr.sureAddr, fieldPlace, run_sizeOf h3 h4, h5]
    split at h
    · rename_i cs hd
      obtain ⟨h1, h2, h3, h4, h5⟩ := h
      rw [hd] at hx
      generalize ha : a.eval x = v at hx
      cases hx with
      | sp b cs g1 g3 g4 =>
        refine ⟨_, run b ha h1 h2 h3 h4 h5, ?_⟩
        rw [addr_add b _ g1]
        refine .sp _ _ rfl (fun k hk => ?_) (fun k hk => ?_)
        · have hk' : ((ty P sT).offs.getD i (0, 0)).1 + k < cs.length := by rw [List.length_drop] at hk; omega
          simp only [Nat.add_assoc]
          exact g3 _ hk'
        · have hk' : ((ty P sT).offs.getD i (0, 0)).1 + k < cs.length := by rw [List.length_drop] at hk; omega
          have := g4 _ hk'
          simp only [List.getD_eq_getElem?_getD, List.getElem?_drop, Nat.add_assoc] at this ⊢
          exact this
    · rename_i b hd
      obtain ⟨h1, h2, h3, h4, h5⟩ := h
      rw [hd] at hx
      generalize ha : a.eval x = v at hx
      cases hx
      exact ⟨_, run b ha h1 h2 h3 h4 h5, .raw _⟩
    · rename_i v k hd
      obtain ⟨h1, h2, h3, h4, h5⟩ := h
      rw [hd] at hx
      generalize ha : a.eval x = u at hx
      cases hx with
      | ep b n cap k =>
        refine ⟨_, run (b.add k) ha h1 h2 h3 h4 h5, ?_⟩
        rw [addr_two]
        exact .ep b n cap _
    · exact h.elim
  | field sT x i =>
    rw [hop] at h
    simp only at h ⊢
    refine DOp.same fun a w hs hr => ?_
    have hx := hr x (by simp [hop, Op.operands])
    split at h
    · rename_i cs hd
      obtain ⟨h1, h2, h3⟩ := h
      rw [hd] at hx
      generalize ha : a.eval x = v at hx
      cases hx with
      | agg xs cs hn hk =>
        obtain ⟨fs, hu, ho⟩ := und_struct h1
        have hi : i < fs.size := by rw [ho] at h2; simpa using h2
        have hf : (ty P sT).offs.getD i (0, 0) = (fs[i].offset, fs[i].type) := by rw [ho]; simp [List.getD_eq_getElem?_getD, hi]
        rw [hf] at h3 ⊢
        obtain ⟨v, hv, hR⟩ := part_run (P := P) hn hk h3
        refine ⟨v, ?_, hR⟩
        unfold execOp
        rw [hop]
        simp [Instr.field, run_underlying hu, hi, ha, asAgg, hv]
    · exact h.elim
  | extract x i =>
    rw [hop] at h
    simp only at h ⊢
    refine DOp.same fun a w hs hr => ?_
    have hx := hr x (by simp [hop, Op.operands])
    split at h
    · rename_i ds hd
      rw [hd] at hx
      generalize ha : a.eval x = v at hx
      cases hx with
      | tup xs ds hn hk =>
        have hi : i < xs.size := by omega
        refine ⟨xs.getD i undef, ?_, hk i h⟩
        unfold execOp
        rw [hop]
        simp [Instr.extract, ha, hi]
    · exact h.elim
  | box t x =>
    rw [hop] at h
    simp only at h ⊢
    refine DOp.new fun a w hs hr => ?_
    have hx := hr x (by simp [hop, Op.operands])
    obtain ⟨c1, c2⟩ := hx.solid h
    have hm := hs.new (.cells (a.eval x).cells t)
    refine ⟨.pointer (some ⟨w.heap.size, 0, none⟩), w.alloc (.cells (a.eval x).cells t), ?_, hm, ?_⟩
    · unfold execOp
      rw [hop]
      simp [Instr.box, newVar, newRow]
    · refine .sp _ _ rfl (fun k hk => ?_) (fun k hk => ?_)
      · simp only [Nat.zero_add]
        exact stable_new hs _ t k (by omega)
      · simp only [Nat.zero_add]
        have e : cellAt (w.alloc (.cells (a.eval x).cells t)) ⟨w.heap.size, k, none⟩ = (a.eval x).cells.getD k undef := by
          unfold cellAt
          rw [World.cell?_alloc_new]
          simp [Array.getD_eq_getD_getElem?]
        rw [e]
        exact hm.2.rel (c2 k hk)
  | makeFunc fn first cap =>
    simp only
    refine DOp.same fun a w hs hr => ?_
    refine ⟨.func fn (first.map a.eval) (cap.map a.eval), by unfold execOp; rw [hop]; simp [Instr.makeFunc], ?_⟩
    have hin : ∀ x, x ∈ first ∨ x ∈ cap → R (stable w H) w (a.eval x) (f x) := fun x hx => hr x (by simp [hop, Op.operands]; exact hx)
    refine .fn _ _ _ _ _ (by simp) (fun k hk => ?_) (by simp) (fun k hk => ?_)
    · have hk' : k < first.size := by simpa using hk
      have := hin first[k] (.inl (Array.getElem_mem hk'))
      simpa [Array.getD_eq_getD_getElem?, List.getD_eq_getElem?_getD, hk'] using this
    · have hk' : k < cap.size := by simpa using hk
      have := hin cap[k] (.inr (Array.getElem_mem hk'))
      simpa [Array.getD_eq_getD_getElem?, List.getD_eq_getElem?_getD, hk'] using this
  | indexAddr t x i =>
    rw [hop] at h
    simp only at h ⊢
    refine DOp.same fun a w hs hr => ?_
    have hx := hr x (by simp [hop, Op.operands])
    have hi := hr i (by simp [hop, Op.operands])
    have run : ∀ u, (Instr.indexAt t (a.eval x) (a.eval i)).run P w = .ok u w → (execOp a.eval o).run P w = .ok (.value u) w := fun u hu => by
      unfold execOp
      rw [hop]
      simp [hu]
    cases hdi : f i with
    | int k n =>
      rw [hdi] at hi
      have hvi : a.eval i = .int k n := by generalize a.eval i = v at hi; cases hi; rfl
      rw [hvi] at run
      cases hdx : f x with
      | sl l =>
        rw [hdx] at hx h
        rw [hdi] at h
        obtain ⟨h1, h2, h3, h4, h5, h6, _⟩ := h
        obtain ⟨u, hu, hR⟩ := idx_run (P := P) (k := k) hx h1 h2 h3 h4 h5 h6
        exact ⟨u, run u hu, hR⟩
      | gs v l =>
        rw [hdx] at hx h
        rw [hdi] at h
        have hx : R (stable w H) w (a.eval x) (.sl l) := by generalize a.eval x = u at hx; cases hx with | gs v l h => exact h
        obtain ⟨h1, h2, h3, h4, h5, h6, _⟩ := h
        obtain ⟨u, hu, hR⟩ := idx_run (P := P) (k := k) hx h1 h2 h3 h4 h5 h6
        exact ⟨u, run u hu, hR⟩
      | raw v =>
        rw [hdx] at hx h
        rw [hdi] at h
        have hvx : a.eval x = v := by generalize a.eval x = u at hx; cases hx; rfl
        rw [hvx] at run
        cases v with
        | slice p n' cap =>
          cases p with
          | none => exact h.elim
          | some p =>
            obtain ⟨h1, h2, h3, h4, h5⟩ := h
            refine ⟨_, run _ ?_, .raw _⟩
            simp [Instr.indexAt, asIntOf, run_underlying (und_slice h1), h4, h5, run_sizeOf h2 h3]
        | pointer p =>
          cases p with
          | none => exact h.elim
          | some p =>
            obtain ⟨h1, h2, h3, h4, h5⟩ := h
            refine ⟨_, run _ ?_, .raw _⟩
            simp [Instr.indexAt, asIntOf, run_underlying (und_array h1), h4, h5, run_sizeOf h2 h3, Instr.sureAddr]
        | _ => exact h.elim
      | sp cs =>
        rw [hdx] at hx h
        rw [hdi] at h
        obtain ⟨h1, h2, h3, h4, h5⟩ := h
        generalize ha : a.eval x = v at hx run
        cases hx with
        | sp b cs g1 g3 g4 =>
          refine ⟨_, run (.pointer (some (b.add (n.toNat * (ty P (ty P t).elem).size)))) (by simp [Instr.indexAt, asIntOf, run_underlying (und_array h1), h4, h5, run_sizeOf h2 h3, Instr.sureAddr]), ?_⟩
          rw [addr_add b _ g1]
          refine .sp _ _ rfl (fun k hk => ?_) (fun k hk => ?_)
          · have hk' : n.toNat * (ty P (ty P t).elem).size + k < cs.length := by rw [List.length_drop] at hk; omega
            simp only [Nat.add_assoc]
            exact g3 _ hk'
          · have hk' : n.toNat * (ty P (ty P t).elem).size + k < cs.length := by rw [List.length_drop] at hk; omega
            have := g4 _ hk'
            simp only [List.getD_eq_getElem?_getD, List.getElem?_drop, Nat.add_assoc] at this ⊢
            exact this
      | ar v n' =>
        rw [hdx] at hx h
        rw [hdi] at h
        obtain ⟨h1, h2, h3, h4, h5⟩ := h
        generalize ha : a.eval x = u at hx run
        cases hx with
        | ar p n' cap hc hnone =>
          cases p with
          | none => have := hnone rfl; omega
          | some p => exact ⟨_, run (.pointer (some (p.add (n.toNat * (ty P (ty P t).elem).size)))) (by simp [Instr.indexAt, asIntOf, run_underlying (und_slice h1), h4, h5, run_sizeOf h2 h3]), .ep p n' cap _⟩
      | _ => rw [hdx] at h; exact h.elim
    | _ => rw [hdi] at h; revert h; cases f x <;> intro h <;> first | exact h.elim | (simp only [idxAddrS] at h) | skip
  | index t x i =>
    rw [hop] at h
    simp only at h ⊢
    refine DOp.same fun a w hs hr => ?_
    have hx := hr x (by simp [hop, Op.operands])
    have hi := hr i (by simp [hop, Op.operands])
    have run : ∀ u, (Instr.index t (a.eval x) (a.eval i)).run P w = .ok u w → (execOp a.eval o).run P w = .ok (.value u) w := fun u hu => by
      unfold execOp
      rw [hop]
      simp [hu]
    cases hdi : f i with
    | int k n =>
      rw [hdi] at hi
      have hvi : a.eval i = .int k n := by generalize a.eval i = v at hi; cases hi; rfl
      rw [hvi] at run
      cases hdx : f x with
      | str c =>
        rw [hdx] at hx h
        rw [hdi] at h
        obtain ⟨h1, h2, h3⟩ := h
        have hvx : a.eval x = .string (bs c) := by generalize a.eval x = v at hx; cases hx; rfl
        rw [hvx] at run
        have hlt : n.toNat < c.length := by omega
        refine ⟨.int .u8 ((c.getD n.toNat 0).toNat : Nat), run _ ?_, by simp only [idxV, u8]; exact .int _ _⟩
        have hb : (bs c)[n.toNat]? = some c[n.toNat] := by
          rw [getElem?_pos (bs c) n.toNat (by rw [bs_size]; exact hlt)]
          rfl
        simp [Instr.index, asIntOf, run_underlying (und_string h1), h2, hb, List.getD_eq_getElem?_getD, hlt]
      | agg cs =>
        rw [hdx] at hx h
        rw [hdi] at h
        obtain ⟨h1, h2, h3, h4⟩ := h
        generalize ha : a.eval x = v at hx run
        cases hx with
        | agg xs cs hn hk =>
          obtain ⟨v, hv, hR⟩ := part_run (P := P) hn hk h4
          refine ⟨v, run v ?_, hR⟩
          simp [Instr.index, asIntOf, run_underlying (und_array h1), h2, h3, run_sizeOf h4.1 h4.2.1, hv]
      | _ => rw [hdx] at h; exact h.elim
    | _ => rw [hdi] at h; revert h; cases f x <;> intro h <;> exact h.elim
  | build t parts =>
    rw [hop] at h
    simp only at h ⊢
    refine DOp.same fun a w hs hr => ?_
    obtain ⟨h12, h3, h4⟩ := h
    have hk : (ty P t).kind ≠ 0 ∧ (ty P t).kind ≠ 11 := by rcases h12 with h | h <;> rw [h.1] <;> decide
    obtain ⟨i, d, hi, _, _, _, _, hz⟩ := ty_info rfl hk.1 hk.2
    cases hzz : i.zero with
    | none => rw [hzz] at hz; exact absurd hz h3
    | some z =>
      obtain ⟨z1, z2⟩ := zero_rel (S := stable w H) (w := w) hi hzz hz
      obtain ⟨ys, e1, e2, e3, e4⟩ := fill_run (S := stable w H) (w := w) (placeT P t) (parts.toList.map fun (i, x) => (i, a.eval x)) (parts.toList.map fun (i, x) => (i, f x)) z.cells (ty P t).zero (by simp)
        (fun k hk => by
          simp only [List.length_map, Array.length_toList] at hk
          have hin : parts[k].2 ∈ o.op.operands := by
            rw [hop]
            simp [Op.operands]
            exact ⟨parts[k].1, Array.getElem_mem hk⟩
          have := hr _ hin
          simpa [List.getD_eq_getElem?_getD, hk] using this) z1 z2 h4
      refine ⟨.agg ys, ?_, .agg _ _ e2 e4⟩
      have hzr : (zeroValue t).run P w = .ok z w := by simp [zeroValue, typeInfo, program, Sem.run, hi, hzz]
      unfold execOp
      rw [hop]
      simp only [Sem.run_bind]
      have : (Instr.build t (parts.map fun (i, x) => (i, a.eval x))).run P w = .ok (.agg ys) w := by
        rcases h12 with ⟨h1, h2⟩ | ⟨h1, h2, h2'⟩
        · obtain ⟨fs, hu, ho⟩ := und_struct h1
          rw [ho] at h2
          obtain ⟨places, hp, hpl⟩ := built_place (P := P) (fs := fs) (w := w) h2
          have hplace : placeT P t = (places[·]?) := by
            unfold placeT
            rw [if_neg (by rw [h1]; decide)]
            funext i; rw [hpl, ho]
          rw [hplace] at e1
          unfold Instr.build
          simp only [Sem.run_bind, hzr, Result.andThen, run_underlying hu]
          rw [show (fs.mapM (m := Sem) fun f => do pure (f.offset, ← sizeOf f.type)) = fs.mapM placeOf from rfl, hp]
          simp [e1]
        · have hu := und_array h1
          have hplace : placeT P t = fun i => some (i * (ty P (ty P t).elem).size, (ty P (ty P t).elem).size) := by
            unfold placeT
            rw [if_pos h1]
          rw [hplace] at e1
          unfold Instr.build
          simp only [Sem.run_bind, hzr, Result.andThen, run_underlying hu, run_sizeOf h2 h2']
          simp [e1]
      rw [this]
      rfl
  | buildSlice t n parts =>
    rw [hop] at h
    simp only at h ⊢
    refine DOp.new fun a w hs hr => ?_
    obtain ⟨h1, h2, h3, h4, h5, h6, h7, h8⟩ := h
    generalize hE : (ty P t).elem = E at *
    obtain ⟨i, d, hi, _, _, hsz, _, hz⟩ := ty_info (t := E) rfl h2 h3
    cases hzz : i.zero with
    | none => rw [hzz] at hz; simp [hz] at h5; omega
    | some z =>
      obtain ⟨z1, z2⟩ := zero_rel (S := stable w H) (w := w) hi hzz hz
      have hzn : z.cells.size = (ty P E).size := z1.trans h5
      have hlen : ((List.replicate n (ty P E).zero).flatten).length = n * (ty P E).size := by simp [h5]
      have hmod : ∀ k, k < n * (ty P E).size → ((List.replicate n (ty P E).zero).flatten).getD k .any = (ty P E).zero.getD (k % (ty P E).size) .any := fun k hk => by
        have := flat_at (ty P E).zero n k (by rw [h5]; exact hk)
        rwa [h5] at this
      obtain ⟨ys, e1, e2, e3, e4⟩ := fill_run (S := stable w H) (w := w) (fun i => some (i * (ty P E).size, (ty P E).size)) (parts.toList.map fun (i, x) => (i, a.eval x)) (parts.toList.map fun (i, x) => (i, f x))
        ((Array.range (n * (ty P E).size)).map (z.cells[· % z.cells.size]!)) ((List.replicate n (ty P E).zero).flatten) (by simp)
        (fun k hk => by
          simp only [List.length_map, Array.length_toList] at hk
          have hin : parts[k].2 ∈ o.op.operands := by
            rw [hop]
            simp [Op.operands]
            exact ⟨parts[k].1, Array.getElem_mem hk⟩
          have := hr _ hin
          simpa [List.getD_eq_getElem?_getD, hk] using this) (by simp [hlen]) (fun k hk => by
          rw [hlen] at hk
          rw [hmod k hk]
          have hm : k % (ty P E).size < (ty P E).size := Nat.mod_lt _ h6
          have := z2 (k % (ty P E).size) (by omega)
          have e : ((Array.range (n * (ty P E).size)).map (z.cells[· % z.cells.size]!)).getD k undef = z.cells.getD (k % (ty P E).size) undef := by
            simp [Array.getD_eq_getD_getElem?, hk, hzn]
            rw [getElem!_pos z.cells _ (by omega)]
            have : k % (ty P E).size < z.cells.size := by omega
            simp [this]
          rw [e]; exact this) h8
      have hm := hs.new (.cells ys E)
      have hlen2 := e3.trans hlen
      refine ⟨.slice (some ⟨w.heap.size, 0, none⟩) n n, w.alloc (.cells ys E), ?_, hm, ?_⟩
      · have hzr : (zeroValue E).run P w = .ok z w := by simp [zeroValue, typeInfo, program, Sem.run, hi, hzz]
        unfold execOp
        rw [hop]
        simp only [Sem.run_bind]
        have : (Instr.buildSlice t n (parts.map fun (i, x) => (i, a.eval x))).run P w = .ok (.slice (some ⟨w.heap.size, 0, none⟩) n n) (w.alloc (.cells ys E)) := by
          unfold Instr.buildSlice
          have hu := und_slice h1
          rw [hE] at hu
          simp only [Sem.run_bind, run_underlying hu, Result.andThen, run_sizeOf h2 h3]
          rw [if_neg (by omega)]
          by_cases h0 : n * (ty P E).size = 0
          · rw [if_pos h0]
            rw [h0] at e1 ⊢
            rw [Sem.run_bind]
            simp only [Sem.run_pure, Result.andThen]
            rw [show ((Array.range 0).map ((#[] : Array Value)[· % (#[] : Array Value).size]!)) = ((Array.range 0).map (z.cells[· % z.cells.size]!)) from by simp]
            simp only [Array.toList_map]
            rw [e1]
            simp [newRow]
          · rw [if_neg h0]
            simp only [Sem.run_bind, hzr, Sem.run_pure, Result.andThen, Array.toList_map]
            rw [e1]
            simp [newRow]
        rw [this]
        rfl
      · refine row_rel hs ys E _ n (ty P E).size (ty P E).agg h6 h7 e2 hlen2 e4
  | slice t x lo hi mx =>
    rw [hop] at h
    cases mx with
    | some m => exact h.elim
    | none =>
    simp only at h ⊢
    refine DOp.same fun a w hs hr => ?_
    have hx := hr x (by simp [hop, Op.operands])
    have run : ∀ u, (Instr.sliceAt t (a.eval x) (lo.map a.eval) (hi.map a.eval) none).run P w = .ok u w → (execOp a.eval o).run P w = .ok (.value u) w := fun u hu => by
      unfold execOp
      rw [hop]
      simp only [Option.map_none]
      rw [Sem.run_bind, hu]
      rfl
    have bnd : ∀ n c isS, n ≤ c → bndS n (lo.map f) (hi.map f) → (Instr.sliceBounds isS n c (lo.map a.eval) (hi.map a.eval) none).run P w = .ok (loN (lo.map f), hiN n (hi.map f), c) w ∧ loN (lo.map f) ≤ hiN n (hi.map f) ∧ hiN n (hi.map f) ≤ n := fun n c isS hnc hb => by
      have iv : ∀ y, y ∈ o.op.operands → ∀ k m, f y = .int k m → a.eval y = .int k m := fun y hy k m he => by
        have := hr y hy
        rw [he] at this
        generalize a.eval y = v at this
        cases this
        rfl
      have inlo : ∀ y, lo = some y → y ∈ o.op.operands := fun y e => by rw [hop, e]; simp [Op.operands]
      have inhi : ∀ y, hi = some y → y ∈ o.op.operands := fun y e => by rw [hop, e]; simp [Op.operands]
      cases hlo : lo with
      | none =>
        cases hhi : hi with
        | none => simp [Instr.sliceBounds, loN, hiN]
        | some y =>
          rw [hlo, hhi] at hb
          simp only [Option.map_none, Option.map_some] at hb ⊢
          cases hy : f y with
          | int k m =>
            rw [hy] at hb
            simp only [bndS] at hb
            have := iv y (inhi y hhi) k m hy
            refine ⟨?_, by simp [loN], by simp only [hiN]; omega⟩
            simp [Instr.sliceBounds, this, Instr.sliceBound, asIntOf, loN, hiN, hb.1, show m ≤ (c : Int) by omega]
          | _ => rw [hy] at hb; exact hb.elim
      | some z =>
        cases hhi : hi with
        | none =>
          rw [hlo, hhi] at hb
          simp only [Option.map_none, Option.map_some] at hb ⊢
          cases hz : f z with
          | int k m =>
            rw [hz] at hb
            simp only [bndS] at hb
            have := iv z (inlo z hlo) k m hz
            refine ⟨?_, by simp only [loN, hiN]; omega, by simp only [hiN]; omega⟩
            simp [Instr.sliceBounds, this, Instr.sliceBound, asIntOf, loN, hiN, hb.1, hb.2]
          | _ => rw [hz] at hb; exact hb.elim
        | some y =>
          rw [hlo, hhi] at hb
          simp only [Option.map_some] at hb ⊢
          cases hz : f z with
          | int k m =>
            cases hy : f y with
            | int k' m' =>
              rw [hz, hy] at hb
              simp only [bndS] at hb
              have e1 := iv z (inlo z hlo) k m hz
              have e2 := iv y (inhi y hhi) k' m' hy
              refine ⟨?_, by simp only [loN, hiN]; omega, by simp only [hiN]; omega⟩
              simp [Instr.sliceBounds, e1, e2, Instr.sliceBound, asIntOf, loN, hiN, hb.1, show 0 ≤ m' by omega, show m' ≤ (c : Int) by omega, show m ≤ max m' 0 by omega]
            | _ => rw [hz, hy] at hb; exact hb.elim
          | _ => rw [hz] at hb; revert hb; cases f y <;> intro hb <;> exact hb.elim
    have sl : ∀ l, R (stable w H) w (a.eval x) (.sl l) → (ty P t).kind = 4 → (ty P (ty P t).elem).kind ≠ 0 → (ty P (ty P t).elem).kind ≠ 11 → bndS l.length (lo.map f) (hi.map f) → (∀ y ∈ l, y.n = (ty P (ty P t).elem).size) →
        ∃ v, (execOp a.eval o).run P w = .ok (.value v) w ∧ R (stable w H) w v (.sl ((l.take (hiN l.length (hi.map f))).drop (loN (lo.map f)))) := fun l hR h1 h2 h3 h4 h5 => by
      obtain ⟨p, cap, sz, hv, hc, _⟩ := hR.slc
      obtain ⟨b1, b2, b3⟩ := bnd l.length cap true hc h4
      refine ⟨_, run _ ?_, hR.part_ h5 _ _ b2 b3 p cap hv⟩
      have hu := und_slice h1
      rw [hv]
      simp only [Instr.sliceAt, Instr.slice, Sem.run_bind, run_underlying hu, Result.andThen, b1, run_sizeOf h2 h3, Sem.run_pure]
    cases hd : f x with
    | sl l =>
      rw [hd] at hx h
      obtain ⟨h1, h2, h3, h4, h5⟩ := h
      exact sl l hx h1 h2 h3 h4 h5
    | gs v l =>
      rw [hd] at hx h
      obtain ⟨h1, h2, h3, h4, h5⟩ := h
      exact sl l (by generalize a.eval x = u at hx; cases hx with | gs v l h => exact h) h1 h2 h3 h4 h5
    | str c =>
      rw [hd] at hx h
      obtain ⟨h1, h2⟩ := h
      have hv : a.eval x = .string (bs c) := by generalize a.eval x = v at hx; cases hx; rfl
      obtain ⟨b1, b2, b3⟩ := bnd c.length c.length false (Nat.le_refl _) h2
      refine ⟨.string ((bs c).extract (loN (lo.map f)) (hiN c.length (hi.map f))), run _ ?_, ?_⟩
      · have hu := und_string h1
        rw [hv]
        simp [Instr.sliceAt, Instr.slice, run_underlying hu, bs_size, b1]
      · have : (bs c).extract (loN (lo.map f)) (hiN c.length (hi.map f)) = bs ((c.take (hiN c.length (hi.map f))).drop (loN (lo.map f))) := by
          rw [List.drop_take]
          exact ByteArray.extract_mk c _ _
        rw [this]
        exact .str _
    | _ => rw [hd] at h; exact h.elim
  | call c =>
    rw [hop] at h
    obtain ⟨callee, args, argTypes⟩ := c
    cases callee with
    | builtin b =>
      cases b <;> first | exact h.elim | skip
      case len =>
        simp only at h ⊢
        refine DOp.same fun a w hs hr => ?_
        obtain ⟨args⟩ := args
        obtain ⟨argTypes⟩ := argTypes
        match args, argTypes, h with
        | [x], [T], h3 =>
        simp only at h3 ⊢
        have hx := hr x (by rw [hop]; simp [Op.operands, Call.operands])
        have run : ∀ u, (Builtin.len_ #[T] o.type #[a.eval x]).run P w = .ok u w → (execOp a.eval o).run P w = .ok (.value u) w := fun u hu => by
          unfold execOp
          rw [hop]
          simp [resolve, invoke, Go.builtin, hu]
        cases hd : f x with
        | sl l =>
          rw [hd] at hx h3
          obtain ⟨p, cap, sz, hv, _⟩ := hx.slc
          exact ⟨_, run _ (by rw [hv]; simp [Builtin.len_, run_underlying (und_slice h3), goInt]), .int _ _⟩
        | gs v l =>
          rw [hd] at hx h3
          have hx : R (stable w H) w (a.eval x) (.sl l) := by generalize a.eval x = u at hx; cases hx with | gs v l h => exact h
          obtain ⟨p, cap, sz, hv, _⟩ := hx.slc
          exact ⟨_, run _ (by rw [hv]; simp [Builtin.len_, run_underlying (und_slice h3), goInt]), .int _ _⟩
        | str c =>
          rw [hd] at hx h3
          have hv : a.eval x = .string (bs c) := by generalize a.eval x = v at hx; cases hx; rfl
          exact ⟨_, run _ (by rw [hv]; simp [Builtin.len_, run_underlying (und_string h3), goInt, bs_size]), .int _ _⟩
        | raw v =>
          rw [hd] at hx h3
          have hv : a.eval x = v := by generalize a.eval x = u at hx; cases hx; rfl
          cases v with
          | slice p n cap => exact ⟨_, run _ (by rw [hv]; simp [Builtin.len_, run_underlying (und_slice h3), goInt]), .int _ _⟩
          | _ => exact h3.elim
        | ar v n =>
          rw [hd] at hx h3
          generalize ha : a.eval x = u at hx run
          cases hx with
          | ar p n cap hc hnone => exact ⟨_, run _ (by simp [Builtin.len_, run_underlying (und_slice h3), goInt]), .int _ _⟩
        | _ => rw [hd] at h3; exact h3.elim
      case max =>
        simp only at h ⊢
        refine DOp.same fun a w hs hr => ?_
        obtain ⟨args⟩ := args
        match args, h with
        | [x, y], h3 =>
        simp only at h3 ⊢
        have hx := hr x (by rw [hop]; simp [Op.operands, Call.operands])
        have hy := hr y (by rw [hop]; simp [Op.operands, Call.operands])
        generalize f x = dx at *
        generalize f y = dy at *
        generalize hvx : a.eval x = vx at *
        generalize hvy : a.eval y = vy at *
        cases hx <;> first | exact h3.elim | skip
        cases hy <;> first | exact h3.elim | skip
        rename_i k m k' m'
        refine ⟨.int k (max m m'), ?_, by simp only [mmV, if_true]; exact .int _ _⟩
        have e : (if m' > m then m' else m) = max m m' := by rw [Int.max_def]; split <;> split <;> omega
        unfold execOp
        rw [hop]
        simp [resolve, invoke, Go.builtin, Builtin.max_, Builtin.max2, hvx, hvy, e]
      case min =>
        simp only at h ⊢
        refine DOp.same fun a w hs hr => ?_
        obtain ⟨args⟩ := args
        match args, h with
        | [x, y], h3 =>
        simp only at h3 ⊢
        have hx := hr x (by rw [hop]; simp [Op.operands, Call.operands])
        have hy := hr y (by rw [hop]; simp [Op.operands, Call.operands])
        generalize f x = dx at *
        generalize f y = dy at *
        generalize hvx : a.eval x = vx at *
        generalize hvy : a.eval y = vy at *
        cases hx <;> first | exact h3.elim | skip
        cases hy <;> first | exact h3.elim | skip
        rename_i k m k' m'
        refine ⟨.int k (min m m'), ?_, by simp only [mmV, if_false, Bool.false_eq_true]; exact .int _ _⟩
        have e : (if m' < m then m' else m) = min m m' := by rw [Int.min_def]; split <;> split <;> omega
        unfold execOp
        rw [hop]
        simp [resolve, invoke, Go.builtin, Builtin.min_, Builtin.min2, hvx, hvy, e]
    | _ => exact h.elim
  | _ => rw [hop] at h; exact h.elim
theorem list_run {o : Oper} {f : Operand → V} {H : Own} {t : TypeId} {n : Nat} {parts : Array (Nat × Operand)} (hop : o.op = .buildSlice t n parts) (h : side P o f) {a : Act} {w : World} (hs : Sim w H) (hr : ∀ x, x ∈ o.op.operands → R (stable w H) w (a.eval x) (f x)) :
    ∃ ys E, (execOp a.eval o).run P w = .ok (.value (.slice (some ⟨w.heap.size, 0, none⟩) n n)) (w.alloc (.cells ys E)) ∧ ys.size = n * (ty P (ty P t).elem).size ∧ R (stable (w.alloc (.cells ys E)) H) (w.alloc (.cells ys E)) (.slice (some ⟨w.heap.size, 0, none⟩) n n) (val P o f) := by
  unfold side at h
  unfold val
  rw [hop] at h ⊢
  simp only at h ⊢
  obtain ⟨h1, h2, h3, h4, h5, h6, h7, h8⟩ := h
  generalize hE : (ty P t).elem = E at *
  have hsz0 : (ty P E).size = (ty P E).size := rfl
  obtain ⟨i, d, hi, _, _, hsz, _, hz⟩ := ty_info (t := E) rfl h2 h3
  cases hzz : i.zero with
  | none => rw [hzz] at hz; simp [hz] at h5; omega
  | some z =>
    obtain ⟨z1, z2⟩ := zero_rel (S := stable w H) (w := w) hi hzz hz
    have hzn : z.cells.size = (ty P E).size := z1.trans h5
    have hlen : ((List.replicate n (ty P E).zero).flatten).length = n * (ty P E).size := by simp [h5]
    have hmod : ∀ k, k < n * (ty P E).size → ((List.replicate n (ty P E).zero).flatten).getD k .any = (ty P E).zero.getD (k % (ty P E).size) .any := fun k hk => by
      have := flat_at (ty P E).zero n k (by rw [h5]; exact hk)
      rwa [h5] at this
    obtain ⟨ys, e1, e2, e3, e4⟩ := fill_run (S := stable w H) (w := w) (fun i => some (i * (ty P E).size, (ty P E).size)) (parts.toList.map fun (i, x) => (i, a.eval x)) (parts.toList.map fun (i, x) => (i, f x))
      ((Array.range (n * (ty P E).size)).map (z.cells[· % z.cells.size]!)) ((List.replicate n (ty P E).zero).flatten) (by simp)
      (fun k hk => by
        simp only [List.length_map, Array.length_toList] at hk
        have hin : parts[k].2 ∈ o.op.operands := by
          rw [hop]
          simp [Op.operands]
          exact ⟨parts[k].1, Array.getElem_mem hk⟩
        have := hr _ hin
        simpa [List.getD_eq_getElem?_getD, hk] using this) (by simp [hlen]) (fun k hk => by
        rw [hlen] at hk
        rw [hmod k hk]
        have hm : k % (ty P E).size < (ty P E).size := Nat.mod_lt _ h6
        have := z2 (k % (ty P E).size) (by omega)
        have e : ((Array.range (n * (ty P E).size)).map (z.cells[· % z.cells.size]!)).getD k undef = z.cells.getD (k % (ty P E).size) undef := by
          simp [Array.getD_eq_getD_getElem?, hk, hzn]
          rw [getElem!_pos z.cells _ (by omega)]
          have : k % (ty P E).size < z.cells.size := by omega
          simp [this]
        rw [e]; exact this) h8
    have hm := hs.new (.cells ys E)
    have hlen2 := e3.trans hlen
    refine ⟨ys, E, ?_, by rw [hsz0, e2, hlen2], ?_⟩
    · have hzr : (zeroValue E).run P w = .ok z w := by simp [zeroValue, typeInfo, program, Sem.run, hi, hzz]
      unfold execOp
      rw [hop]
      simp only [Sem.run_bind]
      have : (Instr.buildSlice t n (parts.map fun (i, x) => (i, a.eval x))).run P w = .ok (.slice (some ⟨w.heap.size, 0, none⟩) n n) (w.alloc (.cells ys E)) := by
        unfold Instr.buildSlice
        have hu := und_slice h1
        rw [hE] at hu
        simp only [Sem.run_bind, run_underlying hu, Result.andThen, run_sizeOf h2 h3]
        rw [if_neg (by omega)]
        by_cases h0 : n * (ty P E).size = 0
        · rw [if_pos h0]
          rw [h0] at e1 ⊢
          rw [Sem.run_bind]
          simp only [Sem.run_pure, Result.andThen]
          rw [show ((Array.range 0).map ((#[] : Array Value)[· % (#[] : Array Value).size]!)) = ((Array.range 0).map (z.cells[· % z.cells.size]!)) from by simp]
          simp only [Array.toList_map]
          rw [e1]
          simp [newRow]
        · rw [if_neg h0]
          simp only [Sem.run_bind, hzr, Sem.run_pure, Result.andThen, Array.toList_map]
          rw [e1]
          simp [newRow]
      rw [this]
      rfl
    · refine row_rel hs ys E _ n (ty P E).size (ty P E).agg h6 h7 e2 hlen2 e4
end
end Go.Proofs.YtnnigbnlhhikjaaDoor
