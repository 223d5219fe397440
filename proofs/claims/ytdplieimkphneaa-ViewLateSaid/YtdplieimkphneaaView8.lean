/- hubbublaw16.ViewLate answers true: a node is late just when it was silent for long, and no fence says that it is gone. -/
import Derived.Test.YtdplieimkphneaaView7
import Derived.Test.YtdplieimkphneaaOpen
namespace Go.Proofs.Ytdplieimkphneaa
open Go.RowKit Go.ChangeShapes Go.WideShapes Go.ChangeAt Go.Joins
set_option linter.unusedSimpArgs false
set_option linter.unusedVariables false

theorem bounds_i32 {x : Int} (h : (Lit.int .i32 x).wf = true) : -2147483648 ≤ x ∧ x ≤ 2147483647 := by
  simp [Lit.wf, IntKind.min, IntKind.max, IntKind.signed, IntKind.bits] at h
  omega
theorem bounds_i8 {x : Int} (h : (Lit.int .i8 x).wf = true) : -128 ≤ x ∧ x ≤ 127 := by
  simp [Lit.wf, IntKind.min, IntKind.max, IntKind.signed, IntKind.bits] at h
  omega
theorem seq_new (w : World) (t : TypeId) (a b : Int) : SeqL (w.alloc (.cells #[.int .i64 a, .int .i64 b] t)) (some ⟨w.heap.size, 0, none⟩) 2 fenF [(a, b)] := by
  intro i x hx
  cases i with
  | succ i => simp at hx
  | zero =>
    simp at hx
    subst hx
    refine ⟨_, 0, rfl, by simp, fun o v hv => ?_⟩
    rw [Blk.cell (Blk.new w t #[.int .i64 a, .int .i64 b]) (0 + 0 * 2 + o)]
    rcases o with _ | _ | o
    · simpa [fenF] using hv
    · simpa [fenF] using hv
    · simp [fenF] at hv
theorem late4 (e t now f : Int) (he : 0 < e) : lateU (hE true (fun _ => 0) 2 e) (hE true (fun _ => 0) 2 t) now [(2, f)] 4 = if 6 < tnear now - t ∧ f < e then [(2, e)] else [] := by
  simp only [lateU, List.range_succ, List.range_zero, List.nil_append, List.filterMap_append, List.filterMap_cons, List.filterMap_nil, lateC, hE, upd, fencedB, cond_true]
  simp [he]
  by_cases h1 : 6 < tnear now - t <;> by_cases h2 : f < e <;> simp [h1, h2, Int.not_le.2, Int.not_lt.1] <;> omega
theorem tnear_id {x : Int} (h : -1099511627776 ≤ x ∧ x ≤ 1099511627776) : tnear x = x := by unfold tnear; omega

set_option maxHeartbeats 2000000 in
theorem viewLate.core (at_ now epoch fence : Int) (w : World) (ha : -2147483648 ≤ at_ ∧ at_ ≤ 2147483647) (hn : -2147483648 ≤ now ∧ now ≤ 2147483647) (he : 0 ≤ epoch ∧ epoch ≤ 255) (hf : -128 ≤ fence ∧ fence ≤ 127) :
    Calls Try.prog 4 #[.int .i32 at_, .int .i32 now, .int .u8 epoch, .int .i8 fence] w fun e w' => e = .returned (.bool true) ∧ Below w.heap.size w w' := by
  have hN : Hid (min (max 4 1) 16 = ((4 : Nat) : Int)) := by unfold Hid; decide
  have wa : IntKind.i64.wrap at_ = at_ := IntWalk.i64_in _ (by omega)
  have wn : IntKind.i64.wrap now = now := IntWalk.i64_in _ (by omega)
  have we : IntKind.i64.wrap epoch = epoch := IntWalk.i64_in _ (by omega)
  have wf : IntKind.i64.wrap fence = fence := IntWalk.i64_in _ (by omega)
  have we1 : IntKind.i64.wrap (epoch + 1) = epoch + 1 := IntWalk.i64_in _ (by omega)
  have wef : IntKind.i64.wrap (epoch + 1 + fence) = epoch + 1 + fence := IntWalk.i64_in _ (by omega)
  have wsub : IntKind.i64.wrap (now - at_) = now - at_ := IntWalk.i64_in _ (by omega)
  have hh : Hid (hearB 4 3 (fun _ => 0) 2 (epoch + 1) = true) := by simp [Hid, hearB]; omega
  have ta : Hid (tnear at_ = at_) := tnear_id (by omega)
  have tn : tnear now = now := tnear_id (by omega)
  have hl := late4 (epoch + 1) at_ now (epoch + 1 + fence) (by omega)
  rw [tn] at hl
  have HL := Lib.hid hl
  clear hl tn
  have hAb := hE_bd (b := true) (At := fun _ => 0) (frm := 2) (x := at_) (fun _ => by decide) (by omega)
  have hEp : Hid (epochV 4 (hE true (fun _ => 0) 2 (epoch + 1)) 2 = epoch + 1) := by simp [Hid, epochV, hE, upd]
  go_enter Try.func4, Try.ntmps4
  go_wp2_with fail
  refine (vwKnown _).mono ?_
  rintro e w0 ⟨rfl, hb0⟩
  go_wp2_with fail
  refine (vnew 4 3 0 w0 4 hN.out).mono ?_
  rintro e w1 ⟨rfl, hv, hb1⟩
  have hz : min (max (3 : Int) 0) (((4 : Nat) : Int) - 1) = 3 := by decide
  rw [hz] at hv
  clear hz
  have hb01 := bthen hb0 hb1
  have hs0 := hb0.size
  clear hb0 hb1
  generalize w0.heap.size = B at *
  go_wp2_with fail
  refine (vhear (B + 1) B 4 3 _ _ 2 (epoch + 1) at_ w1 hv (by decide) true hh.out).mono ?_
  rintro e w2 ⟨rfl, hv2, ho2⟩
  rw [ta.out] at hv2
  have hb2 : Below w.heap.size w w2 := hb01.trans (Only.below ho2 hb01.size hs0)
  clear hv hb01 ho2
  generalize hEE : hE true (fun _ => 0) 2 (epoch + 1) = EE at *
  generalize hAA : hE true (fun _ => 0) 2 at_ = AA at *
  clear hEE hAA
  have hx2 := Blk.new w2 41 #[.int .i64 2, .int .i64 (epoch + 1 + fence)]
  have hb3 := hb2.alloc hb2.size (.cells #[.int .i64 2, .int .i64 (epoch + 1 + fence)] 41)
  have hv3 : PView (w2.alloc (.cells #[.int .i64 2, .int .i64 (epoch + 1 + fence)] 41)) (B + 1) B 4 3 EE AA := hv2.below ((Below.refl _ w2).alloc (Nat.le_refl _) _)
  have hsq : SeqL (w2.alloc (.cells #[.int .i64 2, .int .i64 (epoch + 1 + fence)] 41)) (some ⟨w2.heap.size, 0, none⟩) 2 fenF [(2, epoch + 1 + fence)] := seq_new _ _ _ _
  by_cases hw : 6 < now - at_ ∧ epoch + 1 + fence < epoch + 1
  · have hU := HL.out
    rw [if_pos hw] at hU
    have HU := Lib.hid hU
    clear hU
    obtain ⟨d1, d2⟩ := hw
    have d2' : fence < 0 := by omega
    go_wp2_with (first | (go_at_call 18; (with_reducible refine (vlateM (B + 1) B 4 3 EE AA now (some ⟨w2.heap.size, 0, none⟩) 1 [(2, epoch + 1 + fence)] _ hv3 (by decide) hAb hsq 1 rfl (by decide) [(2, epoch + 1)] HU.out 1 rfl).mono ?_); rintro e w4 ⟨A', cap', rfl, hs4, hb4⟩; have hv4 := hv3.below hb4; obtain ⟨b, off, rfl, lb, cb0, cb1⟩ := hs4.at0) | (go_at_call 20; (with_reducible refine (vepoch (B + 1) B 4 3 EE AA 2 (epoch + 1) _ hv4 (by decide) hEp.out).mono ?_); rintro e w' ⟨rfl, rfl⟩))
    go_ret
    exact ⟨rfl, bthen hb3 hb4⟩
  · have hU := HL.out
    rw [if_neg hw] at hU
    have HU := Lib.hid hU
    clear hU
    by_cases d1 : 6 < now - at_
    · have d2' : ¬ fence < 0 := by omega
      have d2'' : decide (fence < 0) = false := by simpa using d2'
      go_wp2_with (first | (go_at_call 18; (with_reducible refine (vlateM (B + 1) B 4 3 EE AA now (some ⟨w2.heap.size, 0, none⟩) 1 [(2, epoch + 1 + fence)] _ hv3 (by decide) hAb hsq 1 rfl (by decide) [] HU.out 0 rfl).mono ?_); rintro e w4 ⟨A', cap', rfl, hs4, hb4⟩; have hv4 := hv3.below hb4) | (go_at_call 20; (with_reducible refine (vepoch (B + 1) B 4 3 EE AA 2 (epoch + 1) _ hv4 (by decide) hEp.out).mono ?_); rintro e w' ⟨rfl, rfl⟩))
      go_ret
      exact ⟨rfl, bthen hb3 hb4⟩
    · have d1'' : decide (6 < now - at_) = false := by simpa using d1
      go_wp2_with (first | (go_at_call 18; (with_reducible refine (vlateM (B + 1) B 4 3 EE AA now (some ⟨w2.heap.size, 0, none⟩) 1 [(2, epoch + 1 + fence)] _ hv3 (by decide) hAb hsq 1 rfl (by decide) [] HU.out 0 rfl).mono ?_); rintro e w4 ⟨A', cap', rfl, hs4, hb4⟩; have hv4 := hv3.below hb4) | (go_at_call 20; (with_reducible refine (vepoch (B + 1) B 4 3 EE AA 2 (epoch + 1) _ hv4 (by decide) hEp.out).mono ?_); rintro e w' ⟨rfl, rfl⟩))
      go_ret
      exact ⟨rfl, bthen hb3 hb4⟩

theorem viewLate.walk {H : Type} {enc : TypeId × Value → H} (W : World) (base : Nat) {v0 v1 v2 v3 : Value} {d0 d1 d2 d3 : DataW H} {p0 p1 p2 p3 : List MemPlace}
    (o0 : Value.okWide Try.prog W .any base 21 v0) (h0 : DataW.Trod enc Try.prog W 0 (fun _ => true) true 21 v0 d0 p0)
    (o1 : Value.okWide Try.prog W .any base 21 v1) (h1 : DataW.Trod enc Try.prog W 0 (fun _ => true) true 21 v1 d1 p1)
    (o2 : Value.okWide Try.prog W .any base 5 v2) (h2 : DataW.Trod enc Try.prog W 0 (fun _ => true) true 5 v2 d2 p2)
    (o3 : Value.okWide Try.prog W .any base 39 v3) (h3 : DataW.Trod enc Try.prog W 0 (fun _ => true) true 39 v3 d3 p3) :
    Calls Try.prog 4 #[v0, v1, v2, v3] W fun e w' => e = .returned (.bool true) ∧ Below W.heap.size W w' := by
  obtain ⟨a, rfl, _, _, w0⟩ := open_int Try.underlying21 o0 h0
  obtain ⟨b, rfl, _, _, w1⟩ := open_int Try.underlying21 o1 h1
  obtain ⟨c, rfl, _, _, w2⟩ := open_int Try.underlying5 o2 h2
  obtain ⟨d, rfl, _, _, w3⟩ := open_int Try.underlying39 o3 h3
  exact viewLate.core a b c d W (bounds_i32 w0) (bounds_i32 w1) (bounds_u8 w2) (bounds_i8 w3)
theorem viewLate.own : ownKnob Try.prog.godebug = none := by kernel_rfl
theorem viewLate.laidOut : laidOutB Try.prog = true := by kernel_rfl
set_option maxRecDepth 100000 in
theorem viewLate.lifted (os : Os) (started : os.Started) (H : Type) (enc : TypeId × Value → H) :
    ReturnsInHanded {} Try.checked os 4 .any (Rows.viewLateSpec.pre6 enc Try.prog Try.f4 Rows.viewLateRow.domain false) (Rows.viewLateSpec.post enc Try.prog Try.f4 false true false false) := by
  refine returnsInHanded_of_change (C := Try.checked) viewLate.own started (by kernel_rfl) Try.func4
    (ChangeSpec.witness6 (enc := enc) (C := Try.checked) false ⟨#[], #[.int .i32 0, .int .i32 0, .int .u8 0, .int .i8 0], []⟩ 8 (by kernel_rfl) (by kernel_rfl) (by kernel_rfl) (by kernel_rfl)) ?_
  intro W base args ds gs before hval0 hW hcnd _
  have hval : ∀ (j : Nat) t v, Try.f4.params[j]? = some t → args[j]? = some v → Value.okWide Try.prog W .any base t v := hval0
  have hW' := hW
  obtain ⟨p, q, hA0, hV, rfl, hfz, hnd⟩ := hW
  have hA : DataW.TrodAll enc Try.prog W 0 (fun _ => true) true Try.f4.params.toList args.toList ds p := hA0
  rw [Try.params4] at hA hval
  obtain ⟨v0, vs0, d0, ds0, p0, q0, hargs, rfl, rfl, h0, r0⟩ := trodAll_cons hA
  obtain ⟨v1, vs1, d1, ds1, p1, q1, rfl, rfl, rfl, h1, r1⟩ := trodAll_cons r0
  obtain ⟨v2, vs2, d2, ds2, p2, q2, rfl, rfl, rfl, h2, r2⟩ := trodAll_cons r1
  obtain ⟨v3, vs3, d3, ds3, p3, q3, rfl, rfl, rfl, h3, r3⟩ := trodAll_cons r2
  obtain ⟨rfl, rfl, rfl⟩ := trodAll_nil r3
  obtain rfl : args = #[v0, v1, v2, v3] := by cases args; simp_all
  obtain ⟨rfl, rfl⟩ := trodVars_none hV
  have k0 := h0
  have lt0 : ∀ x ∈ p0, x.block < W.heap.size := by obtain ⟨m, hm⟩ := k0; exact DataW.trod_lt m _ _ _ hm
  have k1 := h1
  have lt1 : ∀ x ∈ p1, x.block < W.heap.size := by obtain ⟨m, hm⟩ := k1; exact DataW.trod_lt m _ _ _ hm
  have k2 := h2
  have lt2 : ∀ x ∈ p2, x.block < W.heap.size := by obtain ⟨m, hm⟩ := k2; exact DataW.trod_lt m _ _ _ hm
  have k3 := h3
  have lt3 : ∀ x ∈ p3, x.block < W.heap.size := by obtain ⟨m, hm⟩ := k3; exact DataW.trod_lt m _ _ _ hm
  clear hA0 hval0
  refine (viewLate.walk W base (hval 0 21 v0 rfl rfl) h0 (hval 1 21 v1 rfl rfl) h1 (hval 2 5 v2 rfl rfl) h2 (hval 3 39 v3 rfl rfl) h3).mono fun e W' ⟨he, bel⟩ => ?_
  subst he
  exact ⟨_, rfl, _, _, _, [], _, [], hW', trodAll_mk1 (shut_bool Try.underlying4 _), (trodAll_cons_mk (Below.trod viewLate.laidOut (by kernel_rfl) (of_decide_eq_true (by kernel_rfl)) k0 bel lt0) (trodAll_cons_mk (Below.trod viewLate.laidOut (by kernel_rfl) (of_decide_eq_true (by kernel_rfl)) k1 bel lt1) (trodAll_cons_mk (Below.trod viewLate.laidOut (by kernel_rfl) (of_decide_eq_true (by kernel_rfl)) k2 bel lt2) (trodAll_cons_mk (Below.trod viewLate.laidOut (by kernel_rfl) (of_decide_eq_true (by kernel_rfl)) k3 bel lt3) trodAll_mk0)))), rfl, bel.frame _, fun h => by cases h⟩

theorem viewLate.over : Rows.viewLateRow.holds Try.pinned (OpenSpec.ofChange Rows.viewLateSpec) :=
  OpenClaim.holds_of_wide 4 Try.f4 rfl rfl rfl rfl rfl rfl rfl ⟨rfl, rfl, rfl, rfl, rfl⟩ rfl rfl rfl rfl rfl (by kernel_rfl) Try.func4 (by kernel_rfl)
    (of_decide_eq_true (by kernel_rfl)) (by unfold Func.isWrapper; first | (rw [if_pos (by decide +kernel)]; kernel_rfl) | (rw [if_neg (by decide +kernel)]; exact ⟨rfl, rfl⟩))
    (fun os started H enc _ => viewLate.lifted os started H enc)

theorem viewLate.proved : Rows.ViewLateSaid := viewLate.over
#print axioms viewLate.proved
end Go.Proofs.Ytdplieimkphneaa
