/- ViewEpochs: epochs never go back, and who comes in a greater one is heard anew: the given statement, without a condition of its own. -/
import Derived.Test.YtdplieimkphneaaVx6
import Derived.Test.YtdplieimkphneaaEl
namespace Go.Proofs.Ytdplieimkphneaa
open Go.RowKit Go.ChangeShapes Go.WideShapes Go.ChangeAt Go.Joins Go.Deep
set_option linter.unusedSimpArgs false
set_option linter.unusedVariables false

theorem opens_u8 {H : Type} {enc : TypeId × Value → H} {W : World} : Opens Try.prog enc W 5 1 encB (fun x => 0 ≤ x ∧ x ≤ 255) := fun cs n y hl ht => by
  obtain ⟨a, e, _, wf⟩ := DataW.trod_int Try.underlying5 ht
  subst e
  refine ⟨a, bounds_u8 wf, fun o ho => ?_⟩
  have : o = 0 := by omega
  subst this
  exact .int _ _
theorem viewEpochs.walk {H : Type} {enc : TypeId × Value → H} (W : World) (base : Nat) {v0 : Value} {d0 : DataW H} {p0 : List MemPlace}
    (o0 : Value.okWide Try.prog W .any base 43 v0) (h0 : DataW.Trod enc Try.prog W 0 (fun _ => true) true 43 v0 d0 p0) :
    Calls Try.prog 5 #[v0] W fun e w' => e = .returned (.bool true) ∧ Below W.heap.size W w' := by
  obtain ⟨A, len, cap, rfl, hE⟩ := elems_of (C := 1) Try.underlying43 (by kernel_rfl) (by decide) o0 h0
  obtain ⟨l, hl, hq, hr⟩ := open_elems (C := 1) (by decide) (fun a => rfl) opens_u8 hE
  refine DC.law (args := [.sl (l.map encB)]) (viewEpochs_dc l [] hq) rfl fun k hk => ?_
  have : k = 0 := by simpa using hk
  subst this
  exact hr
theorem viewEpochs.own : ownKnob Try.prog.godebug = none := by kernel_rfl
theorem viewEpochs.laidOut : laidOutB Try.prog = true := by kernel_rfl
set_option maxRecDepth 100000 in
theorem viewEpochs.lifted (os : Os) (started : os.Started) (H : Type) (enc : TypeId × Value → H) :
    ReturnsInHanded {} Try.checked os 5 .any (Rows.viewEpochsSpec.pre6 enc Try.prog Try.f5 Rows.viewEpochsRow.domain false) (Rows.viewEpochsSpec.post enc Try.prog Try.f5 false true false false) := by
  refine returnsInHanded_of_change (C := Try.checked) viewEpochs.own started (by kernel_rfl) Try.func5
    (ChangeSpec.witness6 (enc := enc) (C := Try.checked) false ⟨#[], #[.slice none 0 0], []⟩ 8 (by kernel_rfl) (by kernel_rfl) (by kernel_rfl) (by kernel_rfl)) ?_
  intro W base args ds gs before hval0 hW hcnd _
  have hval : ∀ (j : Nat) t v, Try.f5.params[j]? = some t → args[j]? = some v → Value.okWide Try.prog W .any base t v := hval0
  have hW' := hW
  obtain ⟨p, q, hA0, hV, rfl, hfz, hnd⟩ := hW
  have hA : DataW.TrodAll enc Try.prog W 0 (fun _ => true) true Try.f5.params.toList args.toList ds p := hA0
  rw [Try.params5] at hA hval
  obtain ⟨v0, vs0, d0, ds0, p0, q0, hargs, rfl, rfl, h0, r0⟩ := trodAll_cons hA
  obtain ⟨rfl, rfl, rfl⟩ := trodAll_nil r0
  obtain rfl : args = #[v0] := by cases args; simp_all
  obtain ⟨rfl, rfl⟩ := trodVars_none hV
  have k0 := h0
  have lt0 : ∀ x ∈ p0, x.block < W.heap.size := by obtain ⟨m, hm⟩ := k0; exact DataW.trod_lt m _ _ _ hm
  clear hA0 hval0
  refine (viewEpochs.walk W base (hval 0 43 v0 rfl rfl) h0).mono fun e W' ⟨he, bel⟩ => ?_
  subst he
  exact ⟨_, rfl, _, _, _, [], _, [], hW', trodAll_mk1 (shut_bool Try.underlying4 _), (trodAll_cons_mk (Below.trod viewEpochs.laidOut (by kernel_rfl) (of_decide_eq_true (by kernel_rfl)) k0 bel lt0) trodAll_mk0), rfl, bel.frame _, fun h => by cases h⟩

theorem viewEpochs.over : Rows.viewEpochsRow.holds Try.pinned (OpenSpec.ofChange Rows.viewEpochsSpec) :=
  OpenClaim.holds_of_wide 5 Try.f5 rfl rfl rfl rfl rfl rfl rfl ⟨rfl, rfl, rfl, rfl, rfl⟩ rfl rfl rfl rfl rfl (by kernel_rfl) Try.func5 (by kernel_rfl)
    (of_decide_eq_true (by kernel_rfl)) (by unfold Func.isWrapper; first | (rw [if_pos (by decide +kernel)]; kernel_rfl) | (rw [if_neg (by decide +kernel)]; exact ⟨rfl, rfl⟩))
    (fun os started H enc _ => viewEpochs.lifted os started H enc)

theorem viewEpochs.proved : Rows.ViewEpochsSaid := viewEpochs.over
#print axioms viewEpochs.proved
end Go.Proofs.Ytdplieimkphneaa
