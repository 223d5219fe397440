/- ViewPlays: any row of words and silences comes to just the view that the document tells: the given statement, without a condition of its own. -/
import Derived.Test.YtdplieimkphneaaVx7
import Derived.Test.YtdplieimkphneaaEl
namespace Go.Proofs.Ytdplieimkphneaa
open Go.RowKit Go.ChangeShapes Go.WideShapes Go.ChangeAt Go.Joins Go.Deep
set_option linter.unusedSimpArgs false
set_option linter.unusedVariables false

theorem bounds_w64 {x : Int} (h : (Lit.int .i64 x).wf = true) : -9223372036854775808 ≤ x ∧ x ≤ 9223372036854775807 := by
  simp [Lit.wf, IntKind.min, IntKind.max, IntKind.bits, IntKind.signed] at h
  omega
section
variable {H : Type} {enc : TypeId × Value → H} {W : World}
theorem cell_int {cs : List Value} {o : Nat} {a : Int} (h : cs[o]? = some (.int .i64 a)) : R (stable W []) W (cs.getD o undef) (.int .i64 a) := by
  rw [List.getD_eq_getElem?_getD, h]; exact .int _ _
theorem opens_fence : Opens Try.prog enc W 41 2 encF (fun _ => True) := fun cs n y hl ht => by
  have hl' : cs.length = Try.prog.cellsOf 41 := hl.trans (by kernel_rfl)
  obtain ⟨a, ha, _⟩ := int_at ht hl' 1 0 0 3 .i64 (by kernel_rfl) (by kernel_rfl) Try.underlying3
  obtain ⟨b, hb, _⟩ := int_at ht hl' 1 1 1 3 .i64 (by kernel_rfl) (by kernel_rfl) Try.underlying3
  refine ⟨(a, b), trivial, fun o ho => ?_⟩
  match o, ho with
  | 0, _ => exact cell_int ha
  | 1, _ => exact cell_int hb
theorem opens_act : Opens Try.prog enc W 33 5 encA (fun _ => True) := fun cs n y hl ht => by
  have hl' : cs.length = Try.prog.cellsOf 33 := hl.trans (by kernel_rfl)
  obtain ⟨a, ha, _⟩ := int_at ht hl' 1 0 0 3 .i64 (by kernel_rfl) (by kernel_rfl) Try.underlying3
  obtain ⟨b, hb, _⟩ := int_at ht hl' 1 1 1 3 .i64 (by kernel_rfl) (by kernel_rfl) Try.underlying3
  obtain ⟨c, hc, _⟩ := int_at ht hl' 1 2 2 3 .i64 (by kernel_rfl) (by kernel_rfl) Try.underlying3
  obtain ⟨v, n', y', hv, hy⟩ := leaf_at ht hl' 1 3 3 31 (by kernel_rfl) (by kernel_rfl)
  obtain ⟨A, len, cap, hs, hE⟩ := elems_of_cell (C := 2) Try.underlying31 (by kernel_rfl) (by decide) hy
  obtain ⟨fs, h1, _, h3⟩ := open_elems (C := 2) (by decide) (fun a => rfl) opens_fence hE
  obtain ⟨d, hd⟩ := bool_at ht hl' 1 4 4 4 (by kernel_rfl) (by kernel_rfl) Try.underlying4
  have hs : v = .slice A len cap := by simpa using hs
  subst hs
  refine ⟨⟨a, b, c, fs, d⟩, trivial, fun o ho => ?_⟩
  match o, ho with
  | 0, _ => exact cell_int ha
  | 1, _ => exact cell_int hb
  | 2, _ => exact cell_int hc
  | 3, _ => rw [List.getD_eq_getElem?_getD, hv]; exact h3
  | 4, _ => rw [List.getD_eq_getElem?_getD, hd]; exact .bool _
end
theorem viewPlays.walk {H : Type} {enc : TypeId × Value → H} (W : World) (base : Nat) {v0 v1 v2 v3 : Value} {d0 d1 d2 d3 : DataW H} {p0 p1 p2 p3 : List MemPlace}
    (o0 : Value.okWide Try.prog W .any base 3 v0) (h0 : DataW.Trod enc Try.prog W 0 (fun _ => true) true 3 v0 d0 p0)
    (o1 : Value.okWide Try.prog W .any base 3 v1) (h1 : DataW.Trod enc Try.prog W 0 (fun _ => true) true 3 v1 d1 p1)
    (o2 : Value.okWide Try.prog W .any base 3 v2) (h2 : DataW.Trod enc Try.prog W 0 (fun _ => true) true 3 v2 d2 p2)
    (o3 : Value.okWide Try.prog W .any base 22 v3) (h3 : DataW.Trod enc Try.prog W 0 (fun _ => true) true 22 v3 d3 p3) :
    Calls Try.prog 3 #[v0, v1, v2, v3] W fun e w' => e = .returned (.bool true) ∧ Below W.heap.size W w' := by
  obtain ⟨n, rfl, _, _, w0⟩ := open_int Try.underlying3 o0 h0
  obtain ⟨self, rfl, _, _, _⟩ := open_int Try.underlying3 o1 h1
  obtain ⟨now, rfl, _, _, _⟩ := open_int Try.underlying3 o2 h2
  obtain ⟨A, len, cap, rfl, hE⟩ := elems_of (C := 5) Try.underlying22 (by kernel_rfl) (by decide) o3 h3
  obtain ⟨l, hl, _, hr⟩ := open_elems (C := 5) (by decide) (fun a => rfl) opens_act hE
  refine DC.law (args := [.int .i64 n, .int .i64 self, .int .i64 now, .sl (l.map encA)]) (viewPlays_dc n self now l [] (bounds_w64 w0)) rfl fun k hk => ?_
  match k, hk with
  | 0, _ => exact .int _ _
  | 1, _ => exact .int _ _
  | 2, _ => exact .int _ _
  | 3, _ => exact hr
theorem viewPlays.own : ownKnob Try.prog.godebug = none := by kernel_rfl
theorem viewPlays.laidOut : laidOutB Try.prog = true := by kernel_rfl
set_option maxRecDepth 100000 in
theorem viewPlays.lifted (os : Os) (started : os.Started) (H : Type) (enc : TypeId × Value → H) :
    ReturnsInHanded {} Try.checked os 3 .any (Rows.viewPlaysSpec.pre6 enc Try.prog Try.f3 Rows.viewPlaysRow.domain false) (Rows.viewPlaysSpec.post enc Try.prog Try.f3 false true false false) := by
  refine returnsInHanded_of_change (C := Try.checked) viewPlays.own started (by kernel_rfl) Try.func3
    (ChangeSpec.witness6 (enc := enc) (C := Try.checked) false ⟨#[], #[.int .i64 0, .int .i64 0, .int .i64 0, .slice none 0 0], []⟩ 8 (by kernel_rfl) (by kernel_rfl) (by kernel_rfl) (by kernel_rfl)) ?_
  intro W base args ds gs before hval0 hW hcnd _
  have hval : ∀ (j : Nat) t v, Try.f3.params[j]? = some t → args[j]? = some v → Value.okWide Try.prog W .any base t v := hval0
  have hW' := hW
  obtain ⟨p, q, hA0, hV, rfl, hfz, hnd⟩ := hW
  have hA : DataW.TrodAll enc Try.prog W 0 (fun _ => true) true Try.f3.params.toList args.toList ds p := hA0
  rw [Try.params3] at hA hval
  obtain ⟨v0, vs0, d0, ds0, p0, q0, hargs, rfl, rfl, h0, r0⟩ := trodAll_cons hA
  obtain ⟨v1, vs1, d1, ds1, p1, q1, rfl, rfl, rfl, h1, r1⟩ := trodAll_cons r0
  obtain ⟨v2, vs2, d2, ds2, p2, q2, rfl, rfl, rfl, h2, r2⟩ := trodAll_cons r1
  obtain ⟨v3, vs3, d3, ds3, p3, q3, rfl, rfl, rfl, h3, r3⟩ := trodAll_cons r2
  obtain ⟨rfl, rfl, rfl⟩ := trodAll_nil r3
  obtain rfl : args = #[v0, v1, v2, v3] := by cases args; simp_all
  obtain ⟨rfl, rfl⟩ := trodVars_none hV
  have k0 := h0
  have lt0 : ∀ x ∈ p0, x.block < W.heap.size := by obtain ⟨m, hm⟩ := k0; exact DataW.trod_lt m _ _ _ hm
  have k1 := h1
  have lt1 : ∀ x ∈ p1, x.block < W.heap.size := by obtain ⟨m, hm⟩ := k1; exact DataW.trod_lt m _ _ _ hm
  have k2 := h2
  have lt2 : ∀ x ∈ p2, x.block < W.heap.size := by obtain ⟨m, hm⟩ := k2; exact DataW.trod_lt m _ _ _ hm
  have k3 := h3
  have lt3 : ∀ x ∈ p3, x.block < W.heap.size := by obtain ⟨m, hm⟩ := k3; exact DataW.trod_lt m _ _ _ hm
  clear hA0 hval0
  refine (viewPlays.walk W base (hval 0 3 v0 rfl rfl) h0 (hval 1 3 v1 rfl rfl) h1 (hval 2 3 v2 rfl rfl) h2 (hval 3 22 v3 rfl rfl) h3).mono fun e W' ⟨he, bel⟩ => ?_
  subst he
  exact ⟨_, rfl, _, _, _, [], _, [], hW', trodAll_mk1 (shut_bool Try.underlying4 _), (trodAll_cons_mk (Below.trod viewPlays.laidOut (by kernel_rfl) (of_decide_eq_true (by kernel_rfl)) k0 bel lt0) (trodAll_cons_mk (Below.trod viewPlays.laidOut (by kernel_rfl) (of_decide_eq_true (by kernel_rfl)) k1 bel lt1) (trodAll_cons_mk (Below.trod viewPlays.laidOut (by kernel_rfl) (of_decide_eq_true (by kernel_rfl)) k2 bel lt2) (trodAll_cons_mk (Below.trod viewPlays.laidOut (by kernel_rfl) (of_decide_eq_true (by kernel_rfl)) k3 bel lt3) trodAll_mk0)))), rfl, bel.frame _, fun h => by cases h⟩

theorem viewPlays.over : Rows.viewPlaysRow.holds Try.pinned (OpenSpec.ofChange Rows.viewPlaysSpec) :=
  OpenClaim.holds_of_wide 3 Try.f3 rfl rfl rfl rfl rfl rfl rfl ⟨rfl, rfl, rfl, rfl, rfl⟩ rfl rfl rfl rfl rfl (by kernel_rfl) Try.func3 (by kernel_rfl)
    (of_decide_eq_true (by kernel_rfl)) (by unfold Func.isWrapper; first | (rw [if_pos (by decide +kernel)]; kernel_rfl) | (rw [if_neg (by decide +kernel)]; exact ⟨rfl, rfl⟩))
    (fun os started H enc _ => viewPlays.lifted os started H enc)

theorem viewPlays.proved : Rows.ViewPlaysSaid := viewPlays.over
#print axioms viewPlays.proved
end Go.Proofs.Ytdplieimkphneaa
