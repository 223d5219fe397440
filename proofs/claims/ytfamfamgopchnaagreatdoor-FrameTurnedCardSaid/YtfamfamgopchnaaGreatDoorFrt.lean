/- FrameTurned: a frame with a turned byte is told: the given statement as its tied card, without a condition of its own. -/
import Derived.Test.YtfamfamgopchnaaGreatDoorSp6
import Derived.Test.YtfamfamgopchnaaGreatDoorEl
import Derived.Test.YtfamfamgopchnaaGreatDoorCards
import Derived.Test.YtfamfamgopchnaaGreatDoorTie
import Derived.Lay
import Derived.SevenTiedAt
import Derived.LaidMore
import Derived.OpenShut
import Derived.ChangeMaps5
namespace Go.Proofs.YtfamfamgopchnaaGreatDoor
open Go.RowKit Go.ChangeMaps Go.ChangeShapes Go.WideShapes Go.ChangeAt Go.Joins Go.Deep
set_option linter.unusedSimpArgs false
set_option linter.unusedVariables false
set_option maxRecDepth 100000

section
variable {H : Type} {enc : TypeId × Value → H} {W : World}
theorem ofNat_back {x : Int} (h : 0 ≤ x ∧ x ≤ 255) : (((UInt8.ofNat x.toNat).toNat : Nat) : Int) = x := by simp; omega
theorem wf_u8 {x : Int} (h : (Lit.int .u8 x).wf = true) : 0 ≤ x ∧ x ≤ 255 := by simpa [Lit.wf, IntKind.min, IntKind.max, IntKind.bits, IntKind.signed] using h
theorem wf_u16 {x : Int} (h : (Lit.int .u16 x).wf = true) : 0 ≤ x ∧ x ≤ 65535 := by simpa [Lit.wf, IntKind.min, IntKind.max, IntKind.bits, IntKind.signed] using h
theorem opens_byte : Opens Tryz.prog enc W 5 1 u8 (fun _ => True) := fun cs n y hl ht => by
  obtain ⟨a, e, _, wf⟩ := DataW.trod_int Tryz.underlying5 ht
  subst e
  refine ⟨UInt8.ofNat a.toNat, trivial, fun o ho => ?_⟩
  have : o = 0 := by omega
  subst this
  show R (stable W []) W (.int .u8 a) (.int .u8 (((UInt8.ofNat a.toNat).toNat : Nat) : Int))
  rw [ofNat_back (wf_u8 wf)]
  exact .int _ _
theorem cell_u8 {cs : List Value} {o : Nat} {a : Int} (h : cs[o]? = some (.int .u8 a)) : R (stable W []) W (cs.getD o undef) (.int .u8 a) := by
  rw [List.getD_eq_getElem?_getD, h]; exact .int _ _
theorem opens_deed : Opens Tryz.prog enc W 79 4 encDeed deedR := fun cs n y hl ht => by
  have hl' : cs.length = Tryz.prog.cellsOf 79 := hl.trans (by kernel_rfl)
  obtain ⟨a, ha, wa⟩ := int_at ht hl' 1 0 0 5 .u8 (by kernel_rfl) (by kernel_rfl) Tryz.underlying5
  obtain ⟨b, hb, wb⟩ := int_at ht hl' 1 1 1 5 .u8 (by kernel_rfl) (by kernel_rfl) Tryz.underlying5
  obtain ⟨c, hc, wc⟩ := int_at ht hl' 1 2 2 5 .u8 (by kernel_rfl) (by kernel_rfl) Tryz.underlying5
  obtain ⟨v, n', y', hv, hy⟩ := leaf_at ht hl' 1 3 3 23 (by kernel_rfl) (by kernel_rfl)
  obtain ⟨A, len, cap, hs, hE⟩ := elems_of_cell (C := 1) Tryz.underlying23 (by kernel_rfl) (by decide) hy
  obtain ⟨xs, h1, _, h3⟩ := open_elems (C := 1) (by decide) (fun a => rfl) opens_byte hE
  have hs : v = .slice A len cap := by simpa using hs
  subst hs
  refine ⟨⟨a, b, c, xs⟩, ⟨wf_u8 wa, wf_u8 wb, wf_u8 wc⟩, fun o ho => ?_⟩
  match o, ho with
  | 0, _ => exact cell_u8 ha
  | 1, _ => exact cell_u8 hb
  | 2, _ => exact cell_u8 hc
  | 3, _ => rw [List.getD_eq_getElem?_getD, hv]; exact h3
end
theorem frameTurned.walk {H : Type} {enc : TypeId × Value → H} (W : World) (base : Nat) {v0 v1 v2 v3 v4 v5 : Value} {d0 d1 d2 d3 d4 d5 : DataW H} {p0 p1 p2 p3 p4 p5 : List MemPlace}
    (o0 : Value.okWide Tryz.prog W .any base 22 v0) (h0 : DataW.Trod enc Tryz.prog W 0 (fun _ => true) true 22 v0 d0 p0)
    (o1 : Value.okWide Tryz.prog W .any base 5 v1) (h1 : DataW.Trod enc Tryz.prog W 0 (fun _ => true) true 5 v1 d1 p1)
    (o2 : Value.okWide Tryz.prog W .any base 5 v2) (h2 : DataW.Trod enc Tryz.prog W 0 (fun _ => true) true 5 v2 d2 p2)
    (o3 : Value.okWide Tryz.prog W .any base 23 v3) (h3 : DataW.Trod enc Tryz.prog W 0 (fun _ => true) true 23 v3 d3 p3)
    (o4 : Value.okWide Tryz.prog W .any base 24 v4) (h4 : DataW.Trod enc Tryz.prog W 0 (fun _ => true) true 24 v4 d4 p4)
    (o5 : Value.okWide Tryz.prog W .any base 5 v5) (h5 : DataW.Trod enc Tryz.prog W 0 (fun _ => true) true 5 v5 d5 p5) :
    Calls Tryz.prog 3 #[v0, v1, v2, v3, v4, v5] W fun e w' => e = .returned (.bool true) ∧ Below W.heap.size W w' := by
  obtain ⟨A, len, cap, rfl, hE⟩ := elems_of (C := 4) Tryz.underlying22 (by kernel_rfl) (by decide) o0 h0
  obtain ⟨l, hl, hq, hr⟩ := open_elems (C := 4) (by decide) (fun a => rfl) opens_deed hE
  obtain ⟨k, rfl, _, _, w1⟩ := open_int Tryz.underlying5 o1 h1
  obtain ⟨a, rfl, _, _, w2⟩ := open_int Tryz.underlying5 o2 h2
  obtain ⟨A3, len3, cap3, rfl, hE3⟩ := elems_of (C := 1) Tryz.underlying23 (by kernel_rfl) (by decide) o3 h3
  obtain ⟨x, hl3, _, hr3⟩ := open_elems (C := 1) (by decide) (fun a => rfl) opens_byte hE3
  obtain ⟨q, rfl, _, _, w4⟩ := open_int Tryz.underlying24 o4 h4
  obtain ⟨v, rfl, _, _, w5⟩ := open_int Tryz.underlying5 o5 h5
  refine DC.law (args := [.sl (l.map encDeed), .int .u8 k, .int .u8 a, .sl (x.map u8), .int .u16 q, .int .u8 v]) (frameTurned_dc l k a x q v [] ⟨hq, wf_u8 w1, wf_u8 w2, wf_u16 w4, wf_u8 w5⟩) rfl fun k hk => ?_
  match k, hk with
  | 0, _ => exact hr
  | 1, _ => exact .int _ _
  | 2, _ => exact .int _ _
  | 3, _ => exact hr3
  | 4, _ => exact .int _ _
  | 5, _ => exact .int _ _
theorem frameTurned.own : ownKnob Tryz.prog.godebug = none := by kernel_rfl
theorem frameTurned.laidOut : laidOutB Tryz.prog = true := by kernel_rfl
set_option maxRecDepth 100000 in
theorem frameTurned.lifted (os : Os) (started : os.Started) (H : Type) (enc : TypeId × Value → H) :
    ReturnsInHanded {} Tryz.checked os 3 .any (fun w args => (Rows.frameTurnedSpec.pre enc Tryz.prog Tryz.f3 [] false w args ∧ laidMetH Tryz.prog Rows.frameTurnedRow.laid w) ∧ sizedMet enc Tryz.prog Tryz.f3 (OpenSpec.ofChange Rows.frameTurnedSpec) false w args)
      (Rows.frameTurnedSpec.post enc Tryz.prog Tryz.f3 false true false false) := by
  refine returnsInHanded_of_change_and (C := Tryz.checked) (X := fun w _ => laidMetH Tryz.prog Rows.frameTurnedRow.laid w) (fun _ _ _ hh h => h.of_heap hh) frameTurned.own started (by kernel_rfl) Tryz.func3
    (ChangeSpec.witness_shaped (enc := enc) (C := Tryz.checked) (os := os) (X := fun w _ => laidMetH Tryz.prog Rows.frameTurnedRow.laid w) false (World.laidAll Tryz.prog os Rows.frameTurnedRow.laid) #[.slice none 0 0, .int .u8 0, .int .u8 0, .slice none 0 0, .int .u16 0, .int .u8 0] 8 (World.laidAll_os _ _ _)
      (World.shaped_of_ZipB (by kernel_rfl) (by kernel_rfl)) (by kernel_rfl) (by kernel_rfl) (by kernel_rfl)
      (by rw [MakeChecks.laidMetH_plain _ _ _ (by kernel_rfl)]; exact laidMet_laidAll _ (by kernel_rfl) (by kernel_rfl))) ?_
  intro W base args ds gs before hval0 hW _ _ hL _
  have hval : ∀ (j : Nat) t v, Tryz.f3.params[j]? = some t → args[j]? = some v → Value.okWide Tryz.prog W .any base t v := hval0
  have hW' := hW
  obtain ⟨p, q, hA0, hV, rfl, hfz, hnd⟩ := hW
  have hA : DataW.TrodAll enc Tryz.prog W 0 (fun _ => true) true Tryz.f3.params.toList args.toList ds p := hA0
  rw [Tryz.params3] at hA hval
  obtain ⟨v0, vs0, d0, ds0, p0, q0, hargs, rfl, rfl, h0, r0⟩ := trodAll_cons hA
  obtain ⟨v1, vs1, d1, ds1, p1, q1, rfl, rfl, rfl, h1, r1⟩ := trodAll_cons r0
  obtain ⟨v2, vs2, d2, ds2, p2, q2, rfl, rfl, rfl, h2, r2⟩ := trodAll_cons r1
  obtain ⟨v3, vs3, d3, ds3, p3, q3, rfl, rfl, rfl, h3, r3⟩ := trodAll_cons r2
  obtain ⟨v4, vs4, d4, ds4, p4, q4, rfl, rfl, rfl, h4, r4⟩ := trodAll_cons r3
  obtain ⟨v5, vs5, d5, ds5, p5, q5, rfl, rfl, rfl, h5, r5⟩ := trodAll_cons r4
  obtain ⟨rfl, rfl, rfl⟩ := trodAll_nil r5
  obtain rfl : args = #[v0, v1, v2, v3, v4, v5] := by cases args; simp_all
  obtain ⟨rfl, rfl⟩ := trodVars_none hV
  have k0 := h0
  have lt0 : ∀ x ∈ p0, x.block < W.heap.size := by obtain ⟨m, hm⟩ := k0; exact DataW.trod_lt m _ _ _ hm
  have k1 := h1
  have lt1 : ∀ x ∈ p1, x.block < W.heap.size := by obtain ⟨m, hm⟩ := k1; exact DataW.trod_lt m _ _ _ hm
  have k2 := h2
  have lt2 : ∀ x ∈ p2, x.block < W.heap.size := by obtain ⟨m, hm⟩ := k2; exact DataW.trod_lt m _ _ _ hm
  have k3 := h3
  have lt3 : ∀ x ∈ p3, x.block < W.heap.size := by obtain ⟨m, hm⟩ := k3; exact DataW.trod_lt m _ _ _ hm
  have k4 := h4
  have lt4 : ∀ x ∈ p4, x.block < W.heap.size := by obtain ⟨m, hm⟩ := k4; exact DataW.trod_lt m _ _ _ hm
  have k5 := h5
  have lt5 : ∀ x ∈ p5, x.block < W.heap.size := by obtain ⟨m, hm⟩ := k5; exact DataW.trod_lt m _ _ _ hm
  clear hA0 hval0
  refine (frameTurned.walk W base (hval 0 22 v0 rfl rfl) h0 (hval 1 5 v1 rfl rfl) h1 (hval 2 5 v2 rfl rfl) h2 (hval 3 23 v3 rfl rfl) h3 (hval 4 24 v4 rfl rfl) h4 (hval 5 5 v5 rfl rfl) h5).mono fun e W' ⟨he, bel⟩ => ?_
  subst he
  exact ⟨_, rfl, _, _, _, [], _, [], hW', trodAll_mk1 (shut_bool Tryz.underlying4 _), (trodAll_cons_mk (Below.trod frameTurned.laidOut (by kernel_rfl) (of_decide_eq_true (by kernel_rfl)) k0 bel lt0) (trodAll_cons_mk (Below.trod frameTurned.laidOut (by kernel_rfl) (of_decide_eq_true (by kernel_rfl)) k1 bel lt1) (trodAll_cons_mk (Below.trod frameTurned.laidOut (by kernel_rfl) (of_decide_eq_true (by kernel_rfl)) k2 bel lt2) (trodAll_cons_mk (Below.trod frameTurned.laidOut (by kernel_rfl) (of_decide_eq_true (by kernel_rfl)) k3 bel lt3) (trodAll_cons_mk (Below.trod frameTurned.laidOut (by kernel_rfl) (of_decide_eq_true (by kernel_rfl)) k4 bel lt4) (trodAll_cons_mk (Below.trod frameTurned.laidOut (by kernel_rfl) (of_decide_eq_true (by kernel_rfl)) k5 bel lt5) trodAll_mk0)))))), rfl, bel.frame _, fun h => by cases h⟩

theorem and_t {a b : Bool} (h1 : a = true) (h2 : b = true) : (a && b) = true := by rw [h1, h2]; rfl
set_option maxHeartbeats 40000000 in
theorem frameTurned.closed : joinedFacts Tryz.prog 3 Tryz.f3 Rows.frameTurnedSpec Rows.frameTurnedRow = true := by
  unfold joinedFacts
  repeat' (with_reducible apply and_t)
  all_goals (as_aux_lemma => kernel_rfl)
theorem frameTurned.over : Rows.frameTurnedRow.holds Tryz.pinned (OpenSpec.ofChange Rows.frameTurnedSpec) :=
  OpenClaim.holds_of_wide 3 Tryz.f3 rfl rfl rfl rfl rfl rfl rfl ⟨rfl, rfl, rfl, rfl, rfl⟩ rfl rfl rfl rfl rfl (by kernel_rfl) Tryz.func3 frameTurned.closed
    (of_decide_eq_true (by kernel_rfl)) (by unfold Func.isWrapper; first | (rw [if_pos (by decide +kernel)]; kernel_rfl) | (rw [if_neg (by decide +kernel)]; exact ⟨rfl, rfl⟩))
    (fun os started H enc _ => frameTurned.lifted os started H enc)
theorem frameTurned.plain (f : FuncId) (fn : Func) (hf : Tryz.pinned.checked.prog.funcNamed "hubbub/hubbublaw14.FrameTurned" = some f) (hfn : Tryz.pinned.checked.prog.funcs[f]? = some fn) :
    false = Tryz.pinned.checked.prog.looks [] ∧ ∀ (j : Nat) t, fn.params[j]? = some t → Tryz.pinned.checked.prog.wantsStandIn t = false := by
  obtain rfl : f = 3 := Option.some.inj ((show Tryz.prog.funcNamed "hubbub/hubbublaw14.FrameTurned" = some 3 by kernel_rfl).symm.trans hf) |>.symm
  obtain rfl : fn = Tryz.f3 := (Option.some.inj (Tryz.func3.symm.trans hfn)).symm
  refine ⟨by kernel_rfl, fun j t ht => ?_⟩
  rw [Tryz.params3] at ht
  have hm : t ∈ [22, 5, 5, 23, 24, 5] := by simpa using Array.mem_of_getElem? ht
  have hall : ([22, 5, 5, 23, 24, 5].all fun u => !Tryz.prog.wantsStandIn u) = true := by kernel_rfl
  exact (show Tryz.prog.wantsStandIn t = false by simpa using List.all_eq_true.1 hall t hm)
theorem frameTurned.proved : Rows.FrameTurnedCardSaid :=
  Claim7.holds_tied_plain_at .later [] _ _ _ _ frameTurned.over (fun _ h => by cases h) (by as_aux_lemma => kernel_rfl) (fun _ h => by cases h) frameTurned_row_tie rfl ⟨rfl, rfl⟩ (by as_aux_lemma => kernel_rfl) rfl frameTurned.plain (by as_aux_lemma => kernel_rfl)
#print axioms frameTurned.proved
end Go.Proofs.YtfamfamgopchnaaGreatDoor
