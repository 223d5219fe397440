/- slices.Sort and slices.Compact at numbers that are owned. No statement of the program. -/
import Derived.Test.YtfamfamgopchnaaGreatDoorSox
import Derived.Shelf.Sort.Plain
import Derived.Shelf.Slices.In.SortNone
import Derived.Shelf.Slices.CompactI
import Derived.Lib.RowBridge
import Derived.Test.YtfamfamgopchnaaGreatDoorProg
import Derived.Test.YtfamfamgopchnaaGreatDoorSrx
import Derived.KernelRfl
namespace Go.Proofs.YtfamfamgopchnaaGreatDoor
open Go.RowKit
set_option linter.unusedSimpArgs false
set_option linter.unusedVariables false
set_option linter.unusedSectionVars false

theorem one_of {xs : Array Value} (h : xs.size = 1) : ∃ a, xs = #[a] := by
  obtain ⟨l⟩ := xs
  match l, h with
  | [a], _ => exact ⟨a, rfl⟩
/-- A row of numbers is written anew. -/
theorem row_put {w : World} {F : Own} {pb po n cap : Nat} {cs : List V} (hs : Sim w (.arr 1 (.slice (some ⟨pb, po, none⟩) n cap) cs :: F)) (hcz : cap ≠ 0) (m : Nat) (os : Array Obj) (ds : List Int) (hd : ds.length ≤ cap) (n' : Nat) (hn' : n' ≤ ds.length) :
    Sim (Go.Sort.grow (Go.Sort.putRow (Value.int .i64) (Go.Sort.ahead w m) pb po ds.toArray) os) (.arr 1 (.slice (some ⟨pb, po, none⟩) n' cap) ((ds.take n').map (V.int .i64)) :: F) ∧
    Ext w (.arr 1 (.slice (some ⟨pb, po, none⟩) n cap) cs :: F) (Go.Sort.grow (Go.Sort.putRow (Value.int .i64) (Go.Sort.ahead w m) pb po ds.toArray) os) (.arr 1 (.slice (some ⟨pb, po, none⟩) n' cap) ((ds.take n').map (V.int .i64)) :: F) := by
  obtain ⟨s0, hnc, hln, xs, Ty, fr, g1, g2, g3, g4, g5, g6⟩ := arr_of (L1 := []) hs hcz
  simp only at s0 g1 g2 g3 g4 g5
  have hpb : pb < w.heap.size := by
    rcases Nat.lt_or_ge pb w.heap.size with h | h
    · exact h
    · rw [Array.getElem?_eq_none h] at g1; cases g1
  generalize hw : Go.Sort.grow (Go.Sort.putRow (Value.int .i64) (Go.Sort.ahead w m) pb po ds.toArray) os = w2
  have hheap : w2.heap = w.heap.modify pb (Go.Sort.onCells (Go.Sort.putCells (Value.int .i64) po ds.toArray)) ++ os := by rw [← hw]; rfl
  have hmz : (w.heap.modify pb (Go.Sort.onCells (Go.Sort.putCells (Value.int .i64) po ds.toArray))).size = w.heap.size := Array.size_modify
  have hblk : w2.heap[pb]? = some (.cells (Go.Sort.putCells (Value.int .i64) po ds.toArray xs) Ty fr) := by
    rw [hheap, Array.getElem?_append_left (by rw [hmz]; exact hpb), Array.getElem?_modify, if_pos rfl, g1]
    rfl
  have hoth : ∀ b, b < w.heap.size → b ≠ pb → w2.heap[b]? = w.heap[b]? := by
    intro b hb hne
    rw [hheap, Array.getElem?_append_left (by rw [hmz]; exact hb), Array.getElem?_modify, if_neg (Ne.symm hne)]
  have hput : ∀ j, (Go.Sort.putCells (Value.int .i64) po ds.toArray xs)[j]? = if po ≤ j ∧ j < po + ds.length then (xs[j]?).map (fun _ => Value.int .i64 (ds.toArray[j - po]!)) else xs[j]? := by
    intro j
    unfold Go.Sort.putCells
    rw [Array.getElem?_mapIdx, List.size_toArray]
    by_cases hc' : po ≤ j ∧ j < po + ds.length
    · simp only [if_pos hc']
    · simp only [if_neg hc']
      cases xs[j]? <;> rfl
  have hpsz : (Go.Sort.putCells (Value.int .i64) po ds.toArray xs).size = xs.size := by simp [Go.Sort.putCells]
  refine Sim.swap (w' := w2) (L1 := []) hs (e1 := .arr 1 (.slice (some ⟨pb, po, none⟩) n' cap) ((ds.take n').map (V.int .i64))) (by rw [← hw]; rfl) (by rw [← hw]; rfl) (by rw [← hw]; rfl) (by rw [hheap, Array.size_append, hmz]; omega)
    (fun b hb hn => hoth b hb fun e => hn ⟨e, hcz⟩) (fun q hq hn => ?_) (fun b h => .inl h) (fun q h => .inl h) (fun hst => ?_) (by rw [← hw]; exact Nat.le_add_right _ _)
  · have hn' : ¬ (q.block = pb ∧ po ≤ q.off ∧ q.off < po + cap * 1) := hn
    obtain ⟨u, hu⟩ := Option.isSome_iff_exists.1 hq
    have hqb := World.block_lt_of_cell? w q hu
    by_cases hqp : q.block = pb
    · unfold World.cell?
      rw [hqp, hblk, g1]
      simp only
      by_cases hsp : q.spot.isSome = true
      · rw [if_pos hsp, if_pos hsp]
      · rw [if_neg hsp, if_neg hsp, hput, if_neg (by omega)]
    · unfold World.cell?
      rw [hoth _ hqb hqp]
  · have hl : ((ds.take n').map (V.int .i64)).length = n' := by rw [List.length_map, List.length_take]; omega
    refine ⟨by omega, by rw [hl, Nat.mul_one], fun _ => ⟨rfl, _, Ty, fr, hblk, g2, by rw [hpsz]; exact g3, fun t ht => ?_⟩⟩
    rw [hl] at ht
    have hxt : po + t < xs.size := by omega
    have e1 : (Go.Sort.putCells (Value.int .i64) po ds.toArray xs).getD (po + t) undef = Value.int .i64 (ds[t]'(by omega)) := by
      rw [Array.getD_eq_getD_getElem?, hput, if_pos (by omega), Array.getElem?_eq_getElem hxt]
      simp only [Option.map_some, Option.getD_some, Nat.add_sub_cancel_left]
      rw [getElem!_pos ds.toArray t (by simpa using (by omega : t < ds.length))]
      simp
    have e2 : ((ds.take n').map (V.int .i64)).getD t .any = V.int .i64 (ds[t]'(by omega)) := by
      rw [List.getD_eq_getElem?_getD, List.getElem?_map, List.getElem?_take, if_pos ht, List.getElem?_eq_getElem (by omega)]
      rfl
    simp only
    rw [e1, e2]
    exact .int _ _
/-- The row of numbers that is owned. -/
theorem row_holds {w : World} {F : Own} {pb po cap : Nat} {l : List Int} (hs : Sim w (.arr 1 (.slice (some ⟨pb, po, none⟩) l.length cap) (l.map (V.int .i64)) :: F)) (hcz : cap ≠ 0) : Go.Sort.Holds (Value.int .i64) w pb po l.toArray ∧ pb < w.heap.size ∧ l.length ≤ cap := by
  obtain ⟨s0, hnc, hln, xs, Ty, fr, g1, g2, g3, g4, g5, g6⟩ := arr_of (L1 := []) hs hcz
  simp only at s0 g1 g2 g3 g4 g5
  refine ⟨fun t ht => ?_, ?_, hnc⟩
  · have ht : t < l.length := by simpa using ht
    have h := g4 t (by simpa using ht)
    obtain ⟨h1, h2⟩ := g5 (po + t) (by omega) (by omega)
    have e : (l.map (V.int .i64)).getD t .any = V.int .i64 l[t] := by
      rw [List.getD_eq_getElem?_getD, List.getElem?_map, List.getElem?_eq_getElem ht]; rfl
    rw [e] at h
    refine ⟨?_, h2⟩
    rw [h1, getElem!_pos l.toArray t (by simpa using ht)]
    generalize xs.getD (po + t) undef = u at h
    cases h
    simp
  · rcases Nat.lt_or_ge pb w.heap.size with h | h
    · exact h
    · rw [Array.getElem?_eq_none h] at g1; cases g1

section
variable {P : Program} {ρ : Go.Shelf.Ren}
def sortedI (l : List Int) : List Int := l.mergeSort fun x y => decide (x ≤ y)
theorem DC.sortI (L : Lays.n189 P ρ) (he : enterB P (ρ.f 189) = true) (l : List Int) (v : Value) (n : Nat) (F : Own) (hn : n = l.length ∧ l.length < 4611686018427387904) :
    DC P (ρ.f 189) [.ar v n] ([.arr 1 v (l.map (V.int .i64))] ++ F) fun d G => d = .tup [] ∧ G = [.arr 1 v ((sortedI l).map (V.int .i64))] ++ F := by
  obtain ⟨rfl, hlen⟩ := hn
  refine ⟨he, fun xs w hs hsz hr => ?_⟩
  have h0 := hr 0 (by simp)
  obtain ⟨x0, rfl⟩ := one_of hsz
  clear hr hsz
  change R _ w x0 (.ar v l.length) at h0
  generalize hN : l.length = N at h0
  cases h0 with
  | ar a _ cap hc ha =>
  subst hN
  by_cases hl0 : l = []
  · subst hl0
    refine (Any.slices_Sort_int_none L a cap w).mono ?_
    rintro e w' ⟨rfl, rfl⟩
    exact ⟨_, .tup [], _, rfl, hs, .refl _ _, .tup _ _ rfl (fun k hk => absurd hk (by simp)), rfl, by simp [sortedI]⟩
  · have hpos : 0 < l.length := List.length_pos_iff.2 hl0
    obtain ⟨hcz, p, rfl⟩ := arr_cap (L1 := []) hs (by simpa using hpos)
    obtain ⟨pb, po, ps⟩ := p
    obtain ⟨s0, _⟩ := arr_of (L1 := []) hs hcz
    simp only at s0
    subst s0
    obtain ⟨hH, hb, hcap⟩ := row_holds hs hcz
    refine (Any.slices_Sort_int L pb po cap l w hH hb hlen).mono ?_
    rintro e w' ⟨rfl, m, os, rfl⟩
    have hz : (sortedI l).length = l.length := List.length_mergeSort l
    obtain ⟨h1, h2⟩ := row_put hs hcz m os (sortedI l) (by rw [hz]; exact hcap) l.length (by rw [hz]; exact Nat.le_refl _)
    rw [List.take_of_length_le (by rw [hz]; exact Nat.le_refl _)] at h1 h2
    exact ⟨_, .tup [], _, rfl, h1, h2, .tup _ _ rfl (fun k hk => absurd hk (by simp)), rfl, rfl⟩
theorem DC.compactI (L : Lays2.n20 P ρ) (he : enterB P (ρ.f 20) = true) (l : List Int) (v : Value) (n : Nat) (F : Own) (hn : n = l.length ∧ l.length < 4611686018427387904) :
    DC P (ρ.f 20) [.ar v n] ([.arr 1 v (l.map (V.int .i64))] ++ F) fun d G => ∃ v', d = .ar v' (Go.Lib.compact l).length ∧ G = [.arr 1 v' ((Go.Lib.compact l).map (V.int .i64))] ++ F := by
  obtain ⟨rfl, hlen⟩ := hn
  refine ⟨he, fun xs w hs hsz hr => ?_⟩
  have h0 := hr 0 (by simp)
  obtain ⟨x0, rfl⟩ := one_of hsz
  clear hr hsz
  change R _ w x0 (.ar v l.length) at h0
  generalize hN : l.length = N at h0
  cases h0 with
  | ar a _ cap hc ha =>
  subst hN
  by_cases hl0 : l = []
  · subst hl0
    refine (Any.slices_Compact_int_empty L a cap w).mono ?_
    rintro e w' ⟨rfl, rfl⟩
    exact ⟨_, _, _, rfl, hs, .refl _ _, .ar a 0 cap hc ha, _, rfl, rfl⟩
  · have hpos : 0 < l.length := List.length_pos_iff.2 hl0
    obtain ⟨hcz, p, rfl⟩ := arr_cap (L1 := []) hs (by simpa using hpos)
    obtain ⟨pb, po, ps⟩ := p
    obtain ⟨s0, _⟩ := arr_of (L1 := []) hs hcz
    simp only at s0
    subst s0
    obtain ⟨hH, hb, hcap⟩ := row_holds hs hcz
    refine (Any.slices_Compact_int L pb po cap l w hH (by omega) hcap).mono ?_
    rintro e w' ⟨rfl, m, rfl⟩
    have hz : (Go.Lib.compact l).length ≤ l.length := Go.Lib.compact_length_le l
    obtain ⟨h1, h2⟩ := row_put hs hcz m #[] (Go.Lib.compact l ++ List.replicate (l.length - (Go.Lib.compact l).length) 0) (by simp; omega) (Go.Lib.compact l).length (by simp)
    rw [List.take_left' rfl] at h1 h2
    have hg : ∀ w : World, Go.Sort.grow w #[] = w := fun w => by simp [Go.Sort.grow]
    rw [hg] at h1 h2
    exact ⟨_, _, _, rfl, h1, h2, .ar _ _ _ (by omega) (fun h => nomatch h), _, rfl, rfl⟩
end
end Go.Proofs.YtfamfamgopchnaaGreatDoor
/- slices.Sort at int, as it lies in this program (printed by the kit). -/
namespace Go.Proofs.YtfamfamgopchnaaGreatDoor
open Go.Shelf Go.RowKit
set_option linter.unusedVariables false
def laySi_ren : Go.Shelf.Ren := ⟨fun | 189 => 94 | 125 => 141 | 257 => 148 | 128 => 185 | 129 => 186 | 294 => 189 | 295 => 190 | 296 => 191 | 297 => 192 | 298 => 193 | 299 => 194 | 216 => 195 | 300 => 196 | 301 => 197 | 328 => 213 | 329 => 207 | 330 => 208 | 331 => 214 | 332 => 215 | 215 => 142 | 343 => 224 | n => n, fun | 28 => 67 | 3 => 3 | 46 => 162 | 0 => 0 | 51 => 196 | 53 => 82 | 4 => 4 | 183 => 190 | 182 => 189 | 131 => 118 | 5 => 5 | 9 => 9 | 218 => 211 | 222 => 214 | 228 => 222 | 229 => 223 | n => n, fun | n => n⟩
theorem laySi : Go.Proofs.Lays.n189 Tryz.prog laySi_ren := {
  mixed := by kernel_rfl
  f125 := Tryz.func141.trans (congrArg some (by kernel_rfl))
  f128 := Tryz.func185.trans (congrArg some (by kernel_rfl))
  f129 := Tryz.func186.trans (congrArg some (by kernel_rfl))
  f189 := Tryz.func94.trans (congrArg some (by kernel_rfl))
  f215 := Tryz.func142.trans (congrArg some (by kernel_rfl))
  f216 := Tryz.func195.trans (congrArg some (by kernel_rfl))
  f257 := Tryz.func148.trans (congrArg some (by kernel_rfl))
  f294 := Tryz.func189.trans (congrArg some (by kernel_rfl))
  f295 := Tryz.func190.trans (congrArg some (by kernel_rfl))
  f296 := Tryz.func191.trans (congrArg some (by kernel_rfl))
  f297 := Tryz.func192.trans (congrArg some (by kernel_rfl))
  f298 := Tryz.func193.trans (congrArg some (by kernel_rfl))
  f299 := Tryz.func194.trans (congrArg some (by kernel_rfl))
  f300 := Tryz.func196.trans (congrArg some (by kernel_rfl))
  f301 := Tryz.func197.trans (congrArg some (by kernel_rfl))
  f328 := Tryz.func213.trans (congrArg some (by kernel_rfl))
  f329 := Tryz.func207.trans (congrArg some (by kernel_rfl))
  f330 := Tryz.func208.trans (congrArg some (by kernel_rfl))
  f331 := Tryz.func214.trans (congrArg some (by kernel_rfl))
  f332 := Tryz.func215.trans (congrArg some (by kernel_rfl))
  f343 := Tryz.func224.trans (congrArg some (by kernel_rfl))
  t0 := Tryz.underlying0
  a0 := Tryz.isAgg0
  z0 := Tryz.sizeOf0
  v0 := Tryz.zeroValue0
  t3 := Tryz.underlying3
  a3 := Tryz.isAgg3
  z3 := Tryz.sizeOf3
  v3 := Tryz.zeroValue3
  t4 := Tryz.underlying4
  a4 := Tryz.isAgg4
  z4 := Tryz.sizeOf4
  v4 := Tryz.zeroValue4
  t5 := Tryz.underlying5
  a5 := Tryz.isAgg5
  z5 := Tryz.sizeOf5
  v5 := Tryz.zeroValue5
  t9 := Tryz.underlying9
  a9 := Tryz.isAgg9
  z9 := Tryz.sizeOf9
  v9 := Tryz.zeroValue9
  t28 := Tryz.underlying67
  a28 := Tryz.isAgg67
  z28 := Tryz.sizeOf67
  v28 := Tryz.zeroValue67
  t46 := Tryz.underlying162
  a46 := Tryz.isAgg162
  z46 := Tryz.sizeOf162
  v46 := Tryz.zeroValue162
  t51 := Tryz.underlying196
  a51 := Tryz.isAgg196
  z51 := Tryz.sizeOf196
  v51 := Tryz.zeroValue196
  t53 := Tryz.underlying82
  a53 := Tryz.isAgg82
  z53 := Tryz.sizeOf82
  v53 := Tryz.zeroValue82
  t131 := Tryz.underlying118
  a131 := Tryz.isAgg118
  z131 := Tryz.sizeOf118
  v131 := Tryz.zeroValue118
  t182 := Tryz.underlying189
  a182 := Tryz.isAgg189
  z182 := Tryz.sizeOf189
  v182 := Tryz.zeroValue189
  t183 := Tryz.underlying190
  a183 := Tryz.isAgg190
  z183 := Tryz.sizeOf190
  v183 := Tryz.zeroValue190
  t218 := Tryz.underlying211
  a218 := Tryz.isAgg211
  z218 := Tryz.sizeOf211
  v218 := Tryz.zeroValue211
  t222 := Tryz.underlying214
  a222 := Tryz.isAgg214
  z222 := Tryz.sizeOf214
  v222 := Tryz.zeroValue214
  t228 := Tryz.underlying222
  a228 := Tryz.isAgg222
  z228 := Tryz.sizeOf222
  v228 := Tryz.zeroValue222
  t229 := Tryz.underlying223
  a229 := Tryz.isAgg223
  z229 := Tryz.sizeOf223
  v229 := Tryz.zeroValue223 }
end Go.Proofs.YtfamfamgopchnaaGreatDoor
/- slices.Compact at int, as it lies in this program (printed by the kit). -/
namespace Go.Proofs.YtfamfamgopchnaaGreatDoor
open Go.Shelf Go.RowKit
set_option linter.unusedVariables false
def layCi_ren : Go.Shelf.Ren := ⟨fun | 20 => 95 | n => n, fun | 22 => 67 | 3 => 3 | 4 => 4 | 0 => 0 | n => n, fun | n => n⟩
theorem layCi : Go.Proofs.Lays2.n20 Tryz.prog layCi_ren := {
  mixed := by kernel_rfl
  f20 := Tryz.func95.trans (congrArg some (by kernel_rfl))
  t0 := Tryz.underlying0
  a0 := Tryz.isAgg0
  z0 := Tryz.sizeOf0
  v0 := Tryz.zeroValue0
  t3 := Tryz.underlying3
  a3 := Tryz.isAgg3
  z3 := Tryz.sizeOf3
  v3 := Tryz.zeroValue3
  t4 := Tryz.underlying4
  a4 := Tryz.isAgg4
  z4 := Tryz.sizeOf4
  v4 := Tryz.zeroValue4
  t22 := Tryz.underlying67
  a22 := Tryz.isAgg67
  z22 := Tryz.sizeOf67
  v22 := Tryz.zeroValue67
  i3 := by kernel_rfl }
end Go.Proofs.YtfamfamgopchnaaGreatDoor
/- Who owns a topic. -/
namespace Go.Proofs.YtfamfamgopchnaaGreatDoor
open Go.RowKit
set_option linter.unusedSimpArgs false
set_option linter.unusedVariables false
set_option linter.unusedSectionVars false
set_option maxHeartbeats 4000000
set_option maxRecDepth 100000


def matchR (f tp : List UInt8) : Bool := okF (levs f) && (!wildT tp && matchM (levs f) (levs tp))
def ownsT (ro : List TRoute) (tp : Str) : List Int := (ro.filter fun r => matchR r.filter tp).map fun r => r.dot.node
def filtOK (ro : List TRoute) : Prop := ∀ r ∈ ro, topicT r.filter ∧ lvOK r.filter
theorem rt_3 {ro : List TRoute} {k : Nat} (h : filtOK ro) : ro.length ≤ k ∨ (k < ro.length ∧ (topicT (ro.getD k default).filter ∧ lvOK (ro.getD k default).filter)) := by
  rcases Nat.lt_or_ge k ro.length with hi | hi
  · refine .inr ⟨hi, h _ ?_⟩
    rw [List.getD_eq_getElem?_getD, List.getElem?_eq_getElem hi]
    exact List.getElem_mem hi
  · exact .inl hi
theorem owns_nil (tp : Str) : ownsT [] tp = [] := rfl
theorem owns_s (ro : List TRoute) (tp : Str) {k : Nat} (h : k < ro.length) : ownsT (ro.take (k + 1)) tp = ownsT (ro.take k) tp ++ (if matchR (ro.getD k default).filter tp then [(ro.getD k default).dot.node] else []) := by
  unfold ownsT
  rw [List.take_add_one, List.getElem?_eq_getElem h, List.filter_append, List.map_append]
  have e : ro.getD k default = ro[k] := by rw [List.getD_eq_getElem?_getD, List.getElem?_eq_getElem h]; rfl
  rw [e]
  simp only [Option.toList_some, List.filter_cons, List.filter_nil]
  split <;> simp
theorem owns_le (ro : List TRoute) (tp : Str) (k : Nat) : (ownsT (ro.take k) tp).length ≤ ro.length := by
  unfold ownsT
  rw [List.length_map]
  exact Nat.le_trans (List.length_filter_le _ _) (by rw [List.length_take]; omega)
theorem cells_ints (l : List Int) : cells (l.map (V.int .i64)) = l.map (V.int .i64) := by
  induction l with
  | nil => rfl
  | cons x l ih => rw [List.map_cons, cells_cons, ih]; rfl
theorem sorti_dc (l : List Int) (v : Value) (n : Nat) (F : Own) : (n = l.length ∧ l.length ≤ 1000000000) → DC Tryz.prog 94 [.ar v n] ([.arr 1 v (l.map (V.int .i64))] ++ F) fun d G => d = .tup [] ∧ G = .arr 1 v ((sortedI l).map (V.int .i64)) :: F := fun h =>
  DC.sortI laySi (by kernel_rfl) l v n F ⟨h.1, by omega⟩
theorem compi_dc (l : List Int) (v : Value) (n : Nat) (F : Own) : (n = l.length ∧ l.length ≤ 1000000000) → DC Tryz.prog 95 [.ar v n] ([.arr 1 v (l.map (V.int .i64))] ++ F) fun d G => ∃ v', d = .ar v' (Go.Lib.compact l).length ∧ G = .arr 1 v' ((Go.Lib.compact l).map (V.int .i64)) :: F := fun h =>
  DC.compactI layCi (by kernel_rfl) l v n F ⟨h.1, by omega⟩
theorem sortedI_len (l : List Int) : (sortedI l).length = l.length := List.length_mergeSort l
attribute [local irreducible] DW SeqD DV DOp DC DVX DVJ
theorem sv_powners_dc {p : Prop} (h : p := by first | exact sv | exact ⟨hrk, hT⟩ | exact ⟨rfl, hol⟩ | exact ⟨(sortedI_len _).symm, by rw [sortedI_len]; exact hol⟩ | fail) : p := h
section
attribute [local push_cast 2000] encRoute encRoute_eta List.take_length owns_nil List.take_zero
theorem powners_dc (se : List TDot) (fe : List TFence) (ro : List TRoute) (ce : List TCell) (tp : Str) (m : Int) (F : Own) : ((se.length ≤ 1000000000 ∧ fe.length ≤ 1000000000 ∧ ro.length ≤ 1000000000 ∧ ce.length ≤ 1000000000 ∧ ∀ k, k < ce.length → (ce.getD k default).payload.length ≤ 1000000000) ∧ filtOK ro ∧ (topicT tp ∧ lvOK tp)) → DC Tryz.prog 37 [.agg [.sl (se.map encDot), .sl (fe.map encFence), .sl (ro.map encRoute), .sl (ce.map encCell)], .str tp] ([knF, knA, knM m] ++ F) fun d G => ∃ v, d = .ar v (Go.Lib.compact (sortedI (ownsT ro tp))).length ∧ G = .arr 1 v ((Go.Lib.compact (sortedI (ownsT ro tp))).map (V.int .i64)) :: ([knF, knA, knM m] ++ F) := by
  intro hA
  obtain ⟨hL, hro, hT⟩ := hA
  refine DC.bodyS (n_ := 30) (show Tryz.prog.funcs[37]? = some Tryz.f37 by kernel_rfl) rfl rfl (by rfl) ?_
  simp only [env0, List.take_zero, owns_nil, List.map_nil, List.length_nil, List.cons_append, List.nil_append]
  have kw := ksIs [0, 1, 2, 4, 5, 7, 9, 10, 11, 12, 18]
  have ow := ownIs []
  have hr := hL.2.2.1
  have hol : (ownsT ro tp).length ≤ 1000000000 := Nat.le_trans (by simpa using owns_le ro tp ro.length) hr
  repeat' (first
    | ((refine DW.own0 1 5 (by rfl) ?_); (simp only [put_cons, put_nil, Nat.reduceEqDiff, ↓reduceIte, if_true, if_false, reduceCtorEq]); ((with_reducible refine DW.loopB 0 (X := Nat × Value) (fun x => x.1 ≤ ro.length) (fun x => [(1, .str tp), (5, .ar x.2 (ownsT (ro.take x.1) tp).length), (9, .sl (ro.map encRoute)), (10, .int .i64 ro.length), (11, .int .i64 x.1)]) (fun x => [.arr 1 x.2 ((ownsT (ro.take x.1) tp).map (V.int .i64)), knF, knA, knM m]) (fun x => ro.length - x.1) ((0, .slice none 0 0)) ?_ ?_ ?_); exact (Nat.zero_le _); (simp [Sub, get, keepL, owns_nil] <;> fail); (try simp only [List.take_zero, owns_nil, List.map_nil, List.length_nil, List.cons_append, List.nil_append]); refine pl_ ?_; intro ⟨k, v⟩ hk; (try simp only [List.take_zero, owns_nil, List.map_nil, List.length_nil, List.cons_append, List.nil_append]); have hwk := Nat.le_trans (owns_le ro tp k) hr; rcases rt_3 (k := k) hro with hge | ⟨hlt, hrk⟩; (try rw [List.take_of_length_le hge])))
    | refine g_ ?_
    | ((with_reducible refine And.intro ?_ ?_); (exact sv_powners_dc))
    | (refine DW.cond (by rfl) ?_ ?_ <;> (first | exact i0_ | (refine ic_ ?_; intro hb)))
    | ((with_reducible refine FVg_cases ?_ ?_) <;> (intro hb; rw [hb]; revert hb; (first | exact i0_ | (refine i_ ?_; intro hb))))
    | refine r_ ?_
    | refine k_ ?_
    | (refine q_ (match_dc _ _ _ _) ?_ (ha := by exact sv_powners_dc))
    | (refine p_ (sorti_dc _ _ _ _) ?_ (ha := by exact sv_powners_dc); rintro d H1 ⟨rfl, rfl⟩ <;> refine s_ ?_)
    | (refine p_ (compi_dc _ _ _ _) ?_ (ha := by exact sv_powners_dc); rintro d H1 ⟨v5, rfl, rfl⟩ <;> refine s_ ?_)
    | refine o_ ?_
    | refine f_ ?_
    | with_reducible intro b)
  all_goals first
  | ((have e := owns_s ro tp hlt); (rw [show matchR (ro.getD k default).filter tp = true from by simp only [matchR, hb.1, hb.2.1, hb.2.2, Bool.not_false, Bool.and_self], if_pos rfl] at e); (refine ⟨(k + 1, b), ?_, ?_, ?_, ?_⟩; (try simp only); omega; (try simp only); omega; rotate_left; (simp only [e, List.map_append, List.map_cons, List.map_nil]; (exact sub_)); (simp [Sub, get, e])); done)
  | ((have e := owns_s ro tp hlt); (rw [show matchR (ro.getD k default).filter tp = false from hb, if_neg (by simp), List.append_nil] at e); (refine ⟨(k + 1, v), ?_, ?_, ?_, ?_⟩; (try simp only); omega; (try simp only); omega; rotate_left; (simp only [e]; (exact sub_)); (simp [Sub, get, e])); done)
  | ((refine ⟨_, _, le.rfl_, ⟨_, rfl, rfl⟩, ?_⟩); (exact sub_); done)
end
end Go.Proofs.YtfamfamgopchnaaGreatDoor
