/- slices.SortFunc at elements that are owned: what it leaves is the same elements, one behind another as the comparison says. No statement of the program. -/
import Derived.Test.YtfamfamgopchnaaGreatDoorEu
import Derived.Shelf.SlSortCmp.WholeK
import Derived.Shelf.SlSortCmp.NoneTotal
import Derived.Test.YtfamfamgopchnaaGreatDoorEzx
import Derived.Lib.Overlaps
namespace Go.Proofs.YtfamfamgopchnaaGreatDoor
open Go.RowKit
set_option linter.unusedSimpArgs false
set_option linter.unusedVariables false
set_option linter.unusedSectionVars false

/-- An element as it lies in memory. -/
structure Elm (S : Addr → Prop) (w : World) (k : Nat) {T : Type} (encV : T → V) (ok : T → Prop) where
  t : T
  vs : List Value
  len : vs.length = k
  one : ∀ v ∈ vs, v.oneCell' = true
  rel : ∀ j, j < k → R S w (vs.getD j undef) ((encV t).cell j)
  good : ok t

theorem two_of {xs : Array Value} (h : xs.size = 2) : ∃ a b, xs = #[a, b] := by
  obtain ⟨l⟩ := xs
  match l, h with
  | [a, b], _ => exact ⟨a, b, rfl⟩
theorem zero_of {xs : Array Value} (h : xs.size = 0) : xs = #[] := by
  obtain ⟨l⟩ := xs
  match l, h with
  | [], _ => rfl

theorem sim_nil (w : World) : Sim w [] := ⟨(fun _ h => nomatch h), List.Pairwise.nil, List.Pairwise.nil⟩
/-- Where nothing is owned a call's world is the old one, grown. -/
theorem grown_of {w w' : World} {H' : Own} (h : Ext w [] w' H') : ∃ q os', w' = Go.Sort.grow (w.drewN q) os' := by
  refine ⟨w'.drawn - w.drawn, w'.heap.extract w.heap.size w'.heap.size, ?_⟩
  have hz := h.size
  have hd := h.drawn
  have hh : w'.heap = w.heap ++ w'.heap.extract w.heap.size w'.heap.size := by
    apply Array.ext_getElem?
    intro i
    by_cases hi : i < w.heap.size
    · rw [Array.getElem?_append_left hi]
      exact (h.full i hi (by simp)).1
    · rw [Array.getElem?_append_right (by omega), Array.getElem?_extract]
      by_cases hi2 : i < w'.heap.size
      · rw [if_pos (by omega)]
        congr 1; omega
      · rw [if_neg (by omega)]
        exact Array.getElem?_eq_none (by omega)
  obtain ⟨hp, tp, dr, o, ou⟩ := w'
  obtain ⟨hp0, tp0, dr0, o0, ou0⟩ := w
  have e1 := h.os; have e2 := h.tape; have e3 := h.output
  simp only at e1 e2 e3 hh hd
  subst e1 e2 e3
  unfold Go.Sort.grow World.drewN
  simp only [World.mk.injEq, true_and, and_true]
  exact ⟨hh, by omega⟩

section
variable {P : Program} {T : Type} {encV : T → V} {ok : T → Prop}
theorem cells_enc {k : Nat} (hcs : ∀ x, ok x → ∃ cs, encV x = .agg cs ∧ cs.length = k ∧ cs.all V.one = true) (l : List T) (hl : ∀ x ∈ l, ok x) : (cells (l.map encV)).length = l.length * k := by
  rw [cells_len (sz := k) _ (fun y hy => by
    obtain ⟨x, hx, rfl⟩ := List.mem_map.1 hy
    obtain ⟨cs, e, h, _⟩ := hcs x (hl x hx)
    rw [e]; exact h), List.length_map]
theorem cells_enc_at {k : Nat} (hcs : ∀ x, ok x → ∃ cs, encV x = .agg cs ∧ cs.length = k ∧ cs.all V.one = true) (l : List T) (hl : ∀ x ∈ l, ok x) (i j : Nat) (hi : i < l.length) (hj : j < k) : (cells (l.map encV)).getD (i * k + j) .any = (encV l[i]).cell j := by
  rw [cells_at (sz := k) _ i j (fun y hy => by
    obtain ⟨x, hx, rfl⟩ := List.mem_map.1 hy
    obtain ⟨cs, e, h, _⟩ := hcs x (hl x hx)
    rw [e]; exact h) (by simpa using hi) hj]
  congr 1
  simp [List.getD_eq_getElem?_getD, hi]

theorem DC.sortF {ρ : Go.Shelf.Ren} {k g : Nat} {cf : T → T → Int} (L : SlLaysF0.n6 P ρ) (aE : ∀ w, (isAgg (ρ.t 24)).run P w = .ok true w) (zE : ∀ w, (Go.sizeOf (ρ.t 24)).run P w = .ok k w) (eg : ∀ args w, (callFunc g args).run P w = .ok (.enter g args) w)
    (hk0 : 0 < k) (hcs : ∀ x, ok x → ∃ cs, encV x = .agg cs ∧ cs.length = k ∧ cs.all V.one = true) (hO : Go.Sort.SWO (fun x y : T => decide (cf x y < 0))) (he : enterB P (ρ.f 6) = true)
    (hcmp : ∀ x y : T, ok x → ok y → DC P g [encV x, encV y] [] fun d G => d = .int .i64 (cf x y))
    (l : List T) (v : Value) (n : Nat) (F : Own) (hn : n = l.length ∧ l.length < 4611686018427387904 ∧ ∀ x ∈ l, ok x) :
    DC P (ρ.f 6) [.ar v n, .fn (.func g) [] []] ([.arr k v (cells (l.map encV))] ++ F) fun d G => d = .tup [] ∧ ∃ l' : List T, l'.Perm l ∧ l'.Pairwise (fun x y => ¬ cf y x < 0) ∧ G = [.arr k v (cells (l'.map encV))] ++ F := by
  obtain ⟨rfl, hlen, hok⟩ := hn
  refine ⟨he, fun xs w hs hsz hr => ?_⟩
  have h0 := hr 0 (by simp)
  have h1 := hr 1 (by simp)
  obtain ⟨x0, x1, rfl⟩ := two_of hsz
  clear hr hsz
  have hcl := cells_enc hcs l hok
  change R _ w x0 (.ar v l.length) at h0
  change R _ w x1 (.fn (.func g) [] []) at h1
  cases h1 with
  | fn f ys zs cs ds hn h hm h' =>
  have hy := zero_of (show ys.size = 0 from hn); subst hy
  have hz := zero_of (show zs.size = 0 from hm); subst hz
  generalize hN : l.length = N at h0
  cases h0 with
  | ar a _ cap hc ha =>
  subst hN
  by_cases hl0 : l = []
  · subst hl0
    refine (AnyF.slices_SortFunc_none L a cap _ w).mono ?_
    rintro e w' ⟨rfl, rfl⟩
    exact ⟨_, .tup [], _, rfl, hs, .refl _ _, .tup _ _ rfl (fun k hk => absurd hk (by simp)), rfl, [], List.Perm.refl _, List.Pairwise.nil, rfl⟩
  · have hpos : 0 < l.length := List.length_pos_iff.2 hl0
    have hlk : 0 < l.length * k := Nat.mul_pos hpos hk0
    obtain ⟨hcz, p, rfl⟩ := arr_cap (L1 := []) hs (by rw [hcl]; exact hlk)
    obtain ⟨s0, hnc, hln, xs, Ty, fr, g1, g2, g3, g4, g5, g6⟩ := arr_of (L1 := []) hs hcz
    obtain ⟨pb, po, ps⟩ := p
    simp only at s0 g1 g2 g3 g4 g5
    subst s0
    have hkc : l.length * k ≤ cap * k := Nat.mul_le_mul_right _ hc
    -- the elements
    have hrel : ∀ i (hi : i < l.length) j, j < k → R (stable w (.arr k (.slice (some ⟨pb, po, none⟩) l.length cap) (cells (l.map encV)) :: F)) w (xs.getD (po + (i * k + j)) undef) ((encV l[i]).cell j) := by
      intro i hi j hj
      have hb : i * k + j < l.length * k := by
        have := Nat.mul_le_mul_right k (show i + 1 ≤ l.length from hi)
        rw [Nat.add_mul, Nat.one_mul] at this; omega
      have := g4 (i * k + j) (by rw [hcl]; exact hb)
      rwa [cells_enc_at hcs l hok i j hi hj] at this
    let E := Elm (stable w (.arr k (.slice (some ⟨pb, po, none⟩) l.length cap) (cells (l.map encV)) :: F)) w k encV ok
    let el : (i : Nat) → i < l.length → E := fun i hi =>
      { t := l[i], vs := (List.range k).map fun j => xs.getD (po + (i * k + j)) undef, len := by simp
        one := by
          intro u hu
          obtain ⟨j, hj, rfl⟩ := List.mem_map.1 hu
          have hj' := List.mem_range.1 hj
          obtain ⟨cs, e, h3, h4⟩ := hcs _ (hok _ (List.getElem_mem hi))
          have := hrel i hi j hj'
          rw [e] at this
          have h5 : V.one (cs.getD j .any) = true := by
            rw [List.getD_eq_getElem?_getD, List.getElem?_eq_getElem (by omega)]
            exact List.all_eq_true.1 h4 _ (List.getElem_mem _)
          exact one_all (vs := [xs.getD (po + (i * k + j)) undef]) (ds := [cs.getD j .any]) rfl (fun q hq => by
            obtain rfl : q = 0 := by simpa using hq
            exact this) (by simp only [List.all_cons, List.all_nil, h5, Bool.and_true]) _ (List.mem_singleton.2 rfl)
        rel := fun j hj => by
          have := hrel i hi j hj
          rw [List.getD_eq_getElem?_getD]
          simpa [hj] using this
        good := hok _ (List.getElem_mem hi) }
    haveI : Inhabited E := ⟨el 0 hpos⟩
    let d : Array E := Array.ofFn (n := l.length) fun i => el i.1 i.2
    have hds : d.size = l.length := by simp [d]
    have hdt : d.toList.map Elm.t = l := by
      apply List.ext_getElem
      · simp [d]
      · intro i h1 h2
        simp [d, el]
    have hdg : ∀ i, i < l.length → ∀ j, j < k → ((d[i]!).vs)[j]! = xs.getD (po + (i * k + j)) undef := by
      intro i hi j hj
      rw [getElem!_pos d i (by rw [hds]; exact hi)]
      simp [d, el, hj]
    have hH : Go.Sort.HoldsK Elm.vs k w pb po d := by
      intro t ht
      rw [Go.Sort.size_flatK, hds] at ht
      have hq : t / k < l.length := (Nat.div_lt_iff_lt_mul hk0).2 ht
      have hm : t % k < k := Nat.mod_lt _ hk0
      rw [Go.Sort.get_flatK _ _ _ _ (by rw [hds]; exact ht), hdg _ hq _ hm, Nat.mul_comm, Nat.div_add_mod]
      exact g5 (po + t) (by omega) (by omega)
    have hpb : pb < w.heap.size := by
      rcases Nat.lt_or_ge pb w.heap.size with h | h
      · exact h
      · rw [Array.getElem?_eq_none h] at g1; cases g1
    -- the world of a sort, as this frame has it
    have hsim : ∀ (m : Nat) (os : Array Obj) (dk : Array E), dk.size = d.size →
        Sim (sortWorldK Elm.vs k w pb po m dk os) (.arr k (.slice (some ⟨pb, po, none⟩) l.length cap) (cells (dk.toList.map fun x => encV x.t)) :: F) ∧
        Ext w (.arr k (.slice (some ⟨pb, po, none⟩) l.length cap) (cells (l.map encV)) :: F) (sortWorldK Elm.vs k w pb po m dk os) (.arr k (.slice (some ⟨pb, po, none⟩) l.length cap) (cells (dk.toList.map fun x => encV x.t)) :: F) := by
      intro m os dk hdk
      rw [hds] at hdk
      have hheap : (sortWorldK Elm.vs k w pb po m dk os).heap = w.heap.modify pb (Go.Sort.onCells (Go.Sort.putCells id po (Go.Sort.flatK Elm.vs k dk))) ++ os := rfl
      have hmz : (w.heap.modify pb (Go.Sort.onCells (Go.Sort.putCells id po (Go.Sort.flatK Elm.vs k dk)))).size = w.heap.size := Array.size_modify
      have hblk : (sortWorldK Elm.vs k w pb po m dk os).heap[pb]? = some (.cells (Go.Sort.putCells id po (Go.Sort.flatK Elm.vs k dk) xs) Ty fr) := by
        rw [hheap, Array.getElem?_append_left (by rw [hmz]; exact hpb), Array.getElem?_modify, if_pos rfl, g1]
        rfl
      have hoth : ∀ b, b < w.heap.size → b ≠ pb → (sortWorldK Elm.vs k w pb po m dk os).heap[b]? = w.heap[b]? := by
        intro b hb hne
        rw [hheap, Array.getElem?_append_left (by rw [hmz]; exact hb), Array.getElem?_modify, if_neg (Ne.symm hne)]
      have hput : ∀ j, (Go.Sort.putCells id po (Go.Sort.flatK Elm.vs k dk) xs)[j]? = if po ≤ j ∧ j < po + l.length * k then (xs[j]?).map (fun _ => (Go.Sort.flatK Elm.vs k dk)[j - po]!) else xs[j]? := by
        intro j
        unfold Go.Sort.putCells
        rw [Array.getElem?_mapIdx, Go.Sort.size_flatK, hdk]
        by_cases hc' : po ≤ j ∧ j < po + l.length * k
        · simp only [if_pos hc', id]
        · simp only [if_neg hc']
          cases xs[j]? <;> rfl
      have hpsz : (Go.Sort.putCells id po (Go.Sort.flatK Elm.vs k dk) xs).size = xs.size := by simp [Go.Sort.putCells]
      have hokd : ∀ x ∈ dk.toList.map Elm.t, ok x := by
        intro x hx
        obtain ⟨y, _, rfl⟩ := List.mem_map.1 hx
        exact y.good
      have hmm : (dk.toList.map fun x => encV x.t) = (dk.toList.map Elm.t).map encV := by rw [List.map_map]; rfl
      have hcl' : (cells (dk.toList.map fun x => encV x.t)).length = l.length * k := by
        rw [hmm, cells_enc hcs _ hokd]; simp [hdk]
      refine Sim.swap (w' := sortWorldK Elm.vs k w pb po m dk os) (L1 := []) hs (e1 := .arr k (.slice (some ⟨pb, po, none⟩) l.length cap) (cells (dk.toList.map fun x => encV x.t))) rfl rfl rfl (by rw [hheap, Array.size_append, hmz]; omega)
        (fun b hb hn => hoth b hb fun e => hn ⟨e, hcz⟩) (fun q hq hn => ?_) (fun b h => .inl h) (fun q h => .inl h) (fun hst => ?_) (Nat.le_add_right _ _)
      · have hn' : ¬ (q.block = pb ∧ po ≤ q.off ∧ q.off < po + cap * k) := hn
        obtain ⟨u, hu⟩ := Option.isSome_iff_exists.1 hq
        have hqb := World.block_lt_of_cell? w q hu
        by_cases hqp : q.block = pb
        · unfold World.cell?
          rw [hqp, hblk, g1]
          simp only
          by_cases hsp : q.spot.isSome = true
          · rw [if_pos hsp, if_pos hsp]
          · rw [if_neg hsp, if_neg hsp, hput, if_neg (by omega)]
        · unfold World.cell?
          rw [hoth _ hqb hqp]
      · refine ⟨hc, hcl', fun _ => ⟨rfl, _, Ty, fr, hblk, g2, by rw [hpsz]; exact g3, fun t ht => ?_⟩⟩
        rw [hcl'] at ht
        have hq : t / k < l.length := (Nat.div_lt_iff_lt_mul hk0).2 ht
        have hm : t % k < k := Nat.mod_lt _ hk0
        have hxt : po + t < xs.size := by omega
        have e1 : (Go.Sort.putCells id po (Go.Sort.flatK Elm.vs k dk) xs).getD (po + t) undef = ((dk[t / k]!).vs)[t % k]! := by
          rw [Array.getD_eq_getD_getElem?, hput, if_pos (by omega), Array.getElem?_eq_getElem hxt]
          simp only [Option.map_some, Option.getD_some, Nat.add_sub_cancel_left]
          exact Go.Sort.get_flatK _ _ _ _ (by rw [hdk]; exact ht)
        have e2 : (cells (dk.toList.map fun x => encV x.t)).getD t .any = (encV (dk[t / k]!).t).cell (t % k) := by
          rw [hmm]
          have := cells_enc_at hcs (dk.toList.map Elm.t) hokd (t / k) (t % k) (by simp [hdk]; exact hq) hm
          rw [Nat.mul_comm, Nat.div_add_mod] at this
          rw [this, getElem!_pos dk (t / k) (by rw [hdk]; exact hq)]
          simp
        simp only
        rw [e1, e2]
        have := ((dk[t / k]!).rel (t % k) hm).mono hst
        have hl5 := (dk[t / k]!).len
        rwa [List.getD_eq_getElem?_getD, List.getElem?_eq_getElem (by omega), Option.getD_some, ← getElem!_pos] at this
    have hcmp' : CmpLays P g #[] (fun x : E => x.vs) k (fun x y : E => cf x.t y.t) pb po d.size w := by
      intro m os dk hdk x y
      obtain ⟨hs', hx'⟩ := hsim m os dk hdk
      obtain ⟨cx, ex, lx, ox⟩ := hcs x.t x.good
      obtain ⟨cy, ey, ly, oy⟩ := hcs y.t y.good
      have hrx : ∀ (z : E) cz, encV z.t = .agg cz → cz.length = k → R (stable (sortWorldK Elm.vs k w pb po m dk os) []) (sortWorldK Elm.vs k w pb po m dk os) (.agg z.vs.toArray) (encV z.t) := by
        intro z cz ez lz
        rw [ez]
        refine .agg _ _ (by rw [lz]; simpa using z.len) fun j hj => ?_
        have := (hx'.rel (z.rel j (by omega))).mono (S' := stable (sortWorldK Elm.vs k w pb po m dk os) []) (w' := sortWorldK Elm.vs k w pb po m dk os) (fun a ha => ⟨ha.drop (by simp), rfl⟩)
        rw [ez] at this
        simpa [Array.getD_eq_getD_getElem?, List.getD_eq_getElem?_getD, V.cell] using this
      have := (hcmp x.t y.t x.good y.good).2 #[.agg x.vs.toArray, .agg y.vs.toArray] (sortWorldK Elm.vs k w pb po m dk os) (sim_nil _) rfl (by
        intro q hq
        match q, hq with
        | 0, _ => exact hrx x cx ex lx
        | 1, _ => exact hrx y cy ey ly)
      refine this.mono ?_
      rintro e w' ⟨u, dd, H', rfl, _, hE, hR, rfl⟩
      cases hR
      exact ⟨rfl, grown_of hE⟩
    have hswo : Go.Sort.SWO (ltOf fun x y : E => cf x.t y.t) := ⟨fun x => hO.irrefl x.t, fun x y z => hO.trans x.t y.t z.t, fun x y z => hO.ntrans x.t y.t z.t⟩
    have key := AnyQ.slices_SortFunc (α := E) L k aE zE (fun x => x.vs) (fun x => x.len) (fun x => x.one) (fun x y => cf x.t y.t) hswo g #[] pb po cap d w eg hcmp' hH hpb (by rw [hds]; exact hlen)
    rw [hds] at key
    refine key.mono ?_
    rintro e w' ⟨rfl, d', m, os, ⟨hp1, _, hp3⟩, hsrt, rfl⟩
    obtain ⟨hs', hx'⟩ := hsim m os d' (by rw [hds] at *; exact hp1)
    refine ⟨_, .tup [], _, rfl, hs', hx', .tup _ _ rfl (fun k hk => absurd hk (by simp)), rfl, d'.toList.map Elm.t, ?_, ?_, ?_⟩
    · have e1 : d'.extract 0 l.length = d' := by rw [← hds, ← hp1]; simp
      have e2 : d.extract 0 l.length = d := by rw [← hds]; simp
      rw [e1, e2] at hp3
      have := hp3.map Elm.t
      rwa [hdt] at this
    · rw [List.pairwise_map, List.pairwise_iff_getElem]
      intro i j hi hj hij
      have hj' : j < d'.size := by simpa using hj
      have h9 := hsrt i j (Nat.zero_le _) hij (by rw [← hds, ← hp1]; exact hj')
      rw [getElem!_pos d' j hj', getElem!_pos d' i (by omega)] at h9
      simpa [ltOf] using h9
    · rw [List.map_map]; rfl
end
end Go.Proofs.YtfamfamgopchnaaGreatDoor
/- Appends of zeros; two rows that are owned do not overlap. No statement of the program. -/
namespace Go.Proofs.YtfamfamgopchnaaGreatDoor
open Go.RowKit
set_option linter.unusedSimpArgs false
set_option linter.unusedVariables false
set_option linter.unusedSectionVars false
section
variable {P : Program} {o : Oper} {f : Operand → V} {H : Own} {K : V → Own → Prop}
/-- What is asked of an append of so many zeros. -/
def AppZ (P : Program) (sT xT : TypeId) (n : Nat) (m : Int) : Prop := (ty P sT).kind = 4 ∧ (ty P (ty P sT).elem).kind ≠ 0 ∧ (ty P (ty P sT).elem).kind ≠ 11 ∧ (ty P xT).ik = some .i64 ∧ 0 < (ty P (ty P sT).elem).size ∧
    (ty P (ty P sT).elem).zero.length = (ty P (ty P sT).elem).size ∧ (n + m.toNat) * (ty P (ty P sT).elem).bytes ≤ 140737488355328 ∧ n + m.toNat ≤ 4611686018427387904
/-- An append of so many zeros to a part that has no room: a new row; what the zeros are is not told. -/
theorem DOp.appsubz_ {s x : Operand} {sT xT : TypeId} {v : Value} {sz lo n : Nat} {kk : IntKind} {m : Int} (hop : o.op = .call { callee := .builtin .append, args := #[s, x], argTypes := #[sT, xT] }) (hfs : f s = .sub sz v lo n) (hfx : f x = .int kk m)
    (h : OnA H v fun z cs _ => (z = sz ∧ sz = (ty P (ty P sT).elem).size ∧ lo * sz + n * sz ≤ cs.length ∧ AppZ P sT xT n m ∧ 0 < m ∧ (capI v : Int) < lo + n + m) ∧ ∀ v', K (.ar v' (n + m.toNat)) (.arr sz v' ((cs.drop (lo * sz)).take (n * sz) ++ List.replicate (m.toNat * sz) .any) :: H)) : DOp P o f H K := by
  obtain ⟨z, cs, L1, L2, rfl, ⟨hzz, hsz, hf, hA, hm0, hcp⟩, hk⟩ := h
  have hzz := hzz.symm
  subst hzz
  generalize hE : (ty P sT).elem = E at *
  refine DOp.step fun a w hs hr => ?_
  have hvs := hr s (by simp [hop, Op.operands, Call.operands])
  rw [hfs] at hvs
  generalize hvv : a.eval s = u at hvs
  cases hvs with
  | sub sz A N cap lo n hc ha =>
  obtain ⟨hA0, hA1, hA2, hA3, hA6, hA7, hA8, hA9⟩ := hA
  rw [hE] at hA1 hA2 hA6 hA7 hA8
  rw [← hsz] at hA6 hA7
  obtain ⟨mm, rfl⟩ : ∃ mm : Nat, m = mm := ⟨m.toNat, by omega⟩
  have hcp : (cap : Int) < lo + n + mm := hcp
  have hcp : cap - lo < n + mm := by omega
  simp only [Int.toNat_natCast] at hA8 hA9 hk
  have hxv : a.eval x = .int kk mm := by
    have := hr x (by simp [hop, Op.operands, Call.operands])
    rw [hfx] at this
    generalize a.eval x = y at this ⊢
    cases this; rfl
  have hu := und_slice hA0
  rw [hE] at hu
  have hEsz : ∀ w, (sizeOf E).run P w = .ok sz w := fun w => by rw [run_sizeOf hA1 hA2, ← hsz]
  have hdx := und_int (P := P) hA3
  have hfit : ¬ n + mm ≤ cap - lo := by omega
  have hneed : cap - lo < n + mm := by omega
  have hgrow := growslice_fits hneed hA8
  obtain ⟨i, d', hi, _, _, _, hby, hz⟩ := ty_info (t := E) rfl hA1 hA2
  cases hzz : i.zero with
  | none => rw [hzz] at hz; simp [hz] at hA7; omega
  | some z =>
    obtain ⟨zr1, zr2⟩ := zero_rel (P := P) (S := stable w (L1 ++ .arr sz (.slice A N cap) cs :: L2)) (w := w) hi hzz hz
    have hzr : ∀ w, (zeroValue E).run P w = .ok z w := fun w => by simp [zeroValue, typeInfo, program, Sem.run, hi, hzz]
    have hti : ∀ w, (typeInfo E).run P w = .ok i w := fun w => by simp [typeInfo, program, Sem.run, hi]
    have hdr := hs.drew
    obtain ⟨olds, o1, o2, o3⟩ := read_sub (P := P) (n := n) (H := L1 ++ .arr sz (.slice A N cap) cs :: L2) hdr.1 n (Nat.le_refl _) hf
    have hcl : ((cs.drop (lo * sz)).take (n * sz)).length = n * sz := by rw [List.length_take, List.length_drop]; omega
    have hge := grownCap_ge w (n + mm) (cap - lo) E
    generalize hcapn : grownCap w (n + mm) (cap - lo) E = newCap at *
    have hrest := size_zeroCells z.cells (newCap - (n + mm))
    generalize hrs : Builtin.zeroCells z.cells (newCap - (n + mm)) = rest at *
    have hzc : z.cells.size = sz := zr1.trans hA7
    have hnews := size_zeroCells z.cells mm
    generalize hns : Builtin.zeroCells z.cells mm = news' at *
    have hsize : (olds.toArray ++ news' ++ rest).size = newCap * sz := by
      simp only [Array.size_append, List.size_toArray, o2, hnews, hrest, hzc, ← Nat.add_mul]
      congr 1; omega
    have hmul : n * sz + mm * sz ≤ newCap * sz := by rw [← Nat.add_mul]; exact Nat.mul_le_mul_right _ hge
    have hv1 : ∀ j, j < n * sz → (olds.toArray ++ news' ++ rest).getD j undef = olds.getD j undef := fun j hj => by
      simp only [Array.getD_eq_getD_getElem?, List.getD_eq_getElem?_getD]
      rw [Array.append_assoc, Array.getElem?_append_left (by simp; omega)]
      simp
    generalize hA : olds.toArray ++ news' ++ rest = row at *
    have hsw := hs.add (w' := w.drew.alloc (.cells row E)) (e1 := .arr sz (.slice (some ⟨w.heap.size, 0, none⟩) (n + mm) newCap) ((cs.drop (lo * sz)).take (n * sz) ++ List.replicate (mm * sz) .any)) rfl rfl rfl (by simp) (fun b hb => Below.heap_alloc w.drew _ b hb)
      (fun b h => Nat.le_of_eq h.1.symm) (fun hst => ⟨hge, by rw [List.length_append, hcl, List.length_replicate, Nat.add_mul], fun _ => ⟨rfl, row, E, (0, 0), heap_alloc_new w.drew _, ⟨.inl rfl, fun _ => rfl⟩, by simp only [hsize, Nat.zero_add]; exact Nat.le_refl _, fun k hk => by
        rw [List.length_append, hcl, List.length_replicate] at hk
        simp only [Nat.zero_add]
        by_cases hkc : k < n * sz
        · rw [hv1 k hkc, List.getD_eq_getElem?_getD (l := (cs.drop (lo * sz)).take (n * sz) ++ List.replicate (mm * sz) V.any), List.getElem?_append_left (by omega), ← List.getD_eq_getElem?_getD]
          exact (o3 k hkc).mono hst
        · rw [List.getD_eq_getElem?_getD (l := (cs.drop (lo * sz)).take (n * sz) ++ List.replicate (mm * sz) V.any), List.getElem?_append_right (by omega), hcl, List.getElem?_replicate, if_pos (by omega)]
          exact .any _⟩⟩)
    refine ⟨.slice (some ⟨w.heap.size, 0, none⟩) (n + mm) newCap, w.drew.alloc (.cells row E), .ar _ (n + mm), _, ?_, hsw, .ar _ _ _ hge (fun h => nomatch h), hk _⟩
    unfold execOp
    rw [hop]
    have hg2 : ¬ 281474976710656 < Builtin.nextslicecap (n + mm) (cap - lo) * i.bytes := by rw [← hby]; omega
    have hzd : (zeroValue E).run P w.drew = .ok z w.drew := hzr w.drew
    have htd : (typeInfo E).run P w.drew = .ok i w.drew := hti w.drew
    have hask : (askRoom (newCap * i.bytes)).run P w.drew = .ok () w.drew := by unfold askRoom; split <;> rfl
    unfold grownCap at hcapn
    revert o1 hvv
    generalize (if cap = lo then A else A.map (·.add (lo * sz))) = base
    intro hvv o1
    have hwr : IntKind.i64.wrap (mm : Int) = mm := by rw [IntKind.wrap_i64] <;> omega
    have hneg : ¬ ((mm : Int) < 0) := by omega
    have hb48 : ¬ (281474976710656 < (mm : Int) * (i.bytes : Int)) := by
      rw [← Int.natCast_mul]
      have : mm * i.bytes ≤ (n + mm) * i.bytes := Nat.mul_le_mul_right _ (by omega)
      rw [← hby] at this ⊢
      omega
    have hns0 : ¬ (mm * sz = 0) := Nat.mul_ne_zero (by omega) (by omega)
    have h63 : ¬ (9223372036854775807 < ((n : Int) + (mm : Int))) := by omega
    simp [resolve, invoke, Go.builtin, Builtin.append_, hvv, hxv, run_underlying hu, run_underlying hdx, hEsz, asInt, asIntOf, hwr, hneg, hb48, hns0, h63, hfit, hti, hg2, Question.forced, hcapn, hask, o1, hzd, hns, hrs, newRow]
    rw [← hA, Array.append_assoc]
/-- Two rows that are owned, at two places. -/
inductive InA (sz : Nat) (u : Value) : Own → Prop
  | here {cs : List V} {H : Own} : InA sz u (.arr sz u cs :: H)
  | next {e : Ent} {H : Own} (h : InA sz u H) : InA sz u (e :: H)
inductive Two (sz : Nat) (v u : Value) : Own → Prop
  | here {cs : List V} {H : Own} (h : InA sz u H) : Two sz v u (.arr sz v cs :: H)
  | there {cs : List V} {H : Own} (h : InA sz v H) : Two sz v u (.arr sz u cs :: H)
  | next {e : Ent} {H : Own} (h : Two sz v u H) : Two sz v u (e :: H)
theorem InA.mem {sz : Nat} {u : Value} {H : Own} (h : InA sz u H) : ∃ cs, Ent.arr sz u cs ∈ H := by
  induction h with
  | here => exact ⟨_, List.mem_cons_self ..⟩
  | next _ ih => obtain ⟨cs, h⟩ := ih; exact ⟨cs, List.mem_cons_of_mem _ h⟩
theorem touch_any {sz : Nat} {v : Value} (cs ds : List V) (b : Nat) : Ent.touches (.arr sz v cs) b → Ent.touches (.arr sz v ds) b := by
  unfold Ent.touches
  cases v with
  | slice a n cap => cases a <;> exact fun h => h
  | _ => exact fun h => h
theorem Two.spec {sz : Nat} {v u : Value} {H : Own} (h : Two sz v u H) : (∃ cs, Ent.arr sz v cs ∈ H) ∧ (∃ cs, Ent.arr sz u cs ∈ H) ∧ (H.Pairwise (fun e f => ∀ b, e.touches b → ¬ f.touches b) → ∀ b, (Ent.arr sz v []).touches b → ¬ (Ent.arr sz u []).touches b) := by
  induction h with
  | here h =>
    obtain ⟨cs, h⟩ := h.mem
    refine ⟨⟨_, List.mem_cons_self ..⟩, ⟨cs, List.mem_cons_of_mem _ h⟩, fun hp b h1 h2 => ?_⟩
    exact (List.pairwise_cons.1 hp).1 _ h b (touch_any _ _ b h1) (touch_any _ _ b h2)
  | there h =>
    obtain ⟨cs, h⟩ := h.mem
    refine ⟨⟨cs, List.mem_cons_of_mem _ h⟩, ⟨_, List.mem_cons_self ..⟩, fun hp b h1 h2 => ?_⟩
    exact (List.pairwise_cons.1 hp).1 _ h b (touch_any _ _ b h2) (touch_any _ _ b h1)
  | next _ ih =>
    obtain ⟨⟨c1, h1⟩, ⟨c2, h2⟩, h3⟩ := ih
    exact ⟨⟨c1, List.mem_cons_of_mem _ h1⟩, ⟨c2, List.mem_cons_of_mem _ h2⟩, fun hp => h3 (List.pairwise_cons.1 hp).2⟩
/-- slices.overlaps at two rows that are owned. -/
theorem DOp.over_ {c x y : Operand} {ts : Array TypeId} {k : FuncId} {tS tR : TypeId} {v u : Value} {n sz lo m : Nat} (hop : o.op = .call { callee := .value c, args := #[x, y], argTypes := ts }) (hc : f c = .fn (.func k) [] []) (hx : f x = .ar v n) (hy : f y = .sub sz u lo m)
    (hcl : ∀ args w, (callFunc k args).run P w = ((Extern.SlicesOverlaps.overlaps #[tS, tS] #[tR] args).run P w).andThen fun v w' => .ok (.value v) w')
    (h : ((ty P tS).kind = 4 ∧ (ty P (ty P tS).elem).kind ≠ 0 ∧ (ty P (ty P tS).elem).kind ≠ 11 ∧ (ty P (ty P tS).elem).size = sz ∧ 1 < sz ∧ 0 < n ∧ 0 < m) ∧ Two sz v u H ∧ K (.bool false) H) : DOp P o f H K := by
  obtain ⟨⟨h1, h2, h3, h4, h5, h6, h7⟩, ht, hk⟩ := h
  obtain ⟨⟨c1, m1⟩, ⟨c2, m2⟩, hap⟩ := ht.spec
  refine DOp.step fun a w hs hr => ?_
  have hcv := hr c (by simp [hop, Op.operands, Call.operands])
  have hxv := hr x (by simp [hop, Op.operands, Call.operands])
  have hyv := hr y (by simp [hop, Op.operands, Call.operands])
  rw [hc] at hcv
  rw [hx] at hxv
  rw [hy] at hyv
  have hcv : a.eval c = .func (.func k) #[] #[] := by
    generalize a.eval c = z at hcv
    cases hcv with
    | fn _ ys zs _ _ n1 r1 n2 r2 => rw [zero_of n1, zero_of n2]
  generalize hva : a.eval x = z1 at hxv
  generalize hvb : a.eval y = z2 at hyv
  cases hxv with
  | ar A1 n cap1 hc1 ha1 =>
  cases hyv with
  | sub sz A2 N cap2 lo m hc2 ha2 =>
  have hE : ∀ w, (sizeOf (ty P tS).elem).run P w = .ok sz w := fun w => by rw [run_sizeOf h2 h3, h4]
  have hu := und_slice h1
  have key : (Extern.SlicesOverlaps.overlaps #[tS, tS] #[tR] #[.slice A1 n cap1, .slice (if cap2 = lo then A2 else A2.map (·.add (lo * sz))) m (cap2 - lo)]).run P w = .ok (.bool false) w := by
    obtain ⟨L1, L2, hL⟩ := List.append_of_mem m1
    obtain ⟨M1, M2, hM⟩ := List.append_of_mem m2
    have hcz1 : cap1 ≠ 0 := by omega
    have hcz2 : cap2 ≠ 0 := by omega
    have hlo : ¬ cap2 = lo := by omega
    rw [if_neg hlo]
    cases A1 with
    | none => exact absurd (ha1 rfl) hcz1
    | some p =>
      cases A2 with
      | none => exact absurd (ha2 rfl) hcz2
      | some q0 =>
            obtain ⟨s1, _, _, xs1, T1, fr1, g1, g2, g3, _, g5, _⟩ := arr_of (hL ▸ hs) hcz1
            obtain ⟨s2, _, _, xs2, T2, fr2, k1, k2, k3, _, k5, _⟩ := arr_of (hM ▸ hs) hcz2
            have hne : p.block ≠ q0.block := fun e => hap hs.apart p.block ⟨rfl, hcz1⟩ ⟨e, hcz2⟩
            have hqb : (q0.add (lo * sz)).block = q0.block := by rw [addr_add q0 _ s2]
            rw [Option.map_some]
            have f1 := g2.2 (by omega)
            have hfz : ∀ b, b.block = p.block → w.frozen? b = false := fun b hb => by
              unfold World.frozen?
              rw [hb, g1]
              obtain ⟨x1, x2⟩ := fr1
              simp only at f1 ⊢
              subst f1
              simp only [Bool.and_eq_false_iff, decide_eq_false_iff_not]
              omega
            have hcs : 0 < cap2 * sz := Nat.mul_pos (by omega) (by omega)
            exact Lib.run_overlaps_apart w tS tR (ty P tS).elem hu sz hE p (q0.add (lo * sz)) n cap1 m (cap2 - lo) (by rw [hqb]; exact hne) T1 T2 xs1.size xs2.size (by unfold World.shape?; rw [g1]) (by unfold World.shape?; rw [hqb, k1]) (by omega) (hfz p rfl) (hfz _ rfl)
  refine ⟨.bool false, w, .bool false, H, ?_, ⟨hs, .refl _ _⟩, .bool _, hk⟩
  unfold execOp
  rw [hop]
  have e := hcl #[.slice A1 n cap1, .slice (if cap2 = lo then A2 else A2.map (·.add (lo * sz))) m (cap2 - lo)] w
  rw [key] at e
  simp only [resolve, hcv, Deferred.ofValue, invoke]
  simp [hva, hvb, e]
theorem DOp.slicexd_ {t : TypeId} {x y : Operand} {v : Value} {n : Nat} {k : IntKind} {m : Int} (ext : List Nat) (hd : o.dst.any (fun d => ext.contains d) = true) (hop : o.op = .slice t x none (some y) none) (hx : f x = .ar v n) (hy : f y = .int k m)
    (h : OnA H v fun sz cs C => (((ty P t).kind = 4 ∧ (ty P (ty P t).elem).kind ≠ 0 ∧ (ty P (ty P t).elem).kind ≠ 11) ∧ (n : Int) ≤ m ∧ m ≤ (capI v : Int)) ∧ ∀ v', capI v' = capI v → K (.ar v' m.toNat) (C (.arr sz v' (cs ++ List.replicate ((m.toNat - n) * sz) .any)))) : DOp P o f H K := DOp.slicex_ hop hx hy h
theorem DOp.copyaa2_ {d s : Operand} {T T' : TypeId} {sz lo n lo2 n2 : Nat} {v v2 : Value} (hop : o.op = .call { callee := .builtin .copy, args := #[d, s], argTypes := #[T, T'] }) (hd : f d = .sub sz v lo n) (hs2 : f s = .sub sz v2 lo2 n2)
    (h : OnA H v2 fun z2 cs2 _ => OnA H v fun z cs C => (((ty P T).kind = 4 ∧ (ty P (ty P T).elem).kind ≠ 0 ∧ (ty P (ty P T).elem).kind ≠ 11 ∧ (ty P (ty P T).elem).size = sz) ∧ (z2 = sz ∧ lo2 * sz + min n2 n * sz ≤ cs2.length ∧ ((cs2.drop (lo2 * sz)).take (min n2 n * sz)).all V.one = true) ∧
      (z = sz ∧ lo * sz + min n2 n * sz ≤ cs.length)) ∧ K (.int .i64 (min n2 n : Nat)) (C (.arr sz v (layV cs (lo * sz) ((cs2.drop (lo2 * sz)).take (min n2 n * sz)))))) : DOp P o f H K := by
  obtain ⟨z2, cs2, M1, M2, hM, z, cs, L1, L2, hL, ⟨h1, h2, h3⟩, hk⟩ := h
  exact DOp.copyaa_ hop hd hs2 ⟨h1, z2, cs2, M1, M2, hM, h2, z, cs, L1, L2, hL, h3, hk⟩
theorem DOp.copyas2_ {d s : Operand} {T T' : TypeId} {sz lo n : Nat} {v : Value} {xs : List V} (hop : o.op = .call { callee := .builtin .copy, args := #[d, s], argTypes := #[T, T'] }) (hd : f d = .sub sz v lo n) (hs2 : srcL (f s) = some xs)
    (h : OnA H v fun z cs C => (((ty P T).kind = 4 ∧ (ty P (ty P T).elem).kind ≠ 0 ∧ (ty P (ty P T).elem).kind ≠ 11 ∧ (ty P (ty P T).elem).size = sz ∧ 0 < sz) ∧ (xs.length ≤ n ∧ (∀ y ∈ xs, y.n = sz ∧ y.cs.all V.one = true)) ∧ (z = sz ∧ lo * sz + xs.length * sz ≤ cs.length)) ∧
      K (.int .i64 xs.length) (C (.arr sz v (layV cs (lo * sz) (cells xs))))) : DOp P o f H K := by
  obtain ⟨z, cs, L1, L2, hL, ⟨h1, h2, h3⟩, hk⟩ := h
  exact DOp.copyas_ hop hd hs2 ⟨h1, h2, z, cs, L1, L2, hL, h3, hk⟩
theorem DOp.cleara2_ {x : Operand} {T : TypeId} {sz lo n : Nat} {v : Value} (hop : o.op = .call { callee := .builtin .clear, args := #[x], argTypes := #[T] }) (hx : f x = .sub sz v lo n)
    (h : OnA H v fun z cs C => (((ty P T).kind = 4 ∧ (ty P (ty P T).elem).kind ≠ 0 ∧ (ty P (ty P T).elem).kind ≠ 11 ∧ (ty P (ty P T).elem).size = sz ∧ (ty P (ty P T).elem).zero.length = (ty P (ty P T).elem).size ∧ 0 < (ty P (ty P T).elem).size ∧ (ty P (ty P T).elem).zero.all V.one = true) ∧
      (z = sz ∧ lo * sz + n * sz ≤ cs.length)) ∧ K (.tup []) (C (.arr sz v (layV cs (lo * sz) ((List.replicate n (ty P (ty P T).elem).zero).flatten))))) : DOp P o f H K := by
  obtain ⟨z, cs, L1, L2, hL, ⟨h1, h3⟩, hk⟩ := h
  exact DOp.cleara_ hop hx ⟨h1, z, cs, L1, L2, hL, h3, hk⟩
theorem DVop.slicea_ {e : Env} {mv tm : List Nat} {ops : Array Oper} {K : Env → Own → Prop} {i : Nat} {o : Oper} {rest : List Oper} {t : TypeId} {x : Operand} {lo hi : Option Operand} {v : Value} {n : Nat} (hm : mv.contains i = false) (ht : tm.contains i = true) (hop : o.op = .slice t x lo hi none) (hx : opd e x = .ar v n)
    (h : ((ty P t).kind = 4 ∧ (ty P (ty P t).elem).kind ≠ 0 ∧ (ty P (ty P t).elem).kind ≠ 11 ∧ bndS n (lo.map (opd e)) (hi.map (opd e))) ∧
      FD P (mv ++ tm) ops (fun i' l' e' => DV P mv tm ops K i' l' e' H) (i + 1) rest (putO e o.dst (.sub (ty P (ty P t).elem).size v (loN (lo.map (opd e))) (hiN n (hi.map (opd e)) - loN (lo.map (opd e)))))) : DVop P mv tm ops K i o rest e H :=
  DVop.tm_ hm ht (DOp.slicea_ hop hx ⟨h.1, rfl, rfl⟩) h.2
theorem SeqD.opP {ops : Array Oper} {K : Env → Own → Prop} {e : Env} {o : Oper} {rest : List Oper} (hg : o.guard = none) (h : side P o (opd e) ∧ SeqD P ops K rest (putO e o.dst (val P o (opd e))) H) : SeqD P ops K (o :: rest) e H := SeqD.op hg (SeqD.one h.1 h.2)
end
end Go.Proofs.YtfamfamgopchnaaGreatDoor
