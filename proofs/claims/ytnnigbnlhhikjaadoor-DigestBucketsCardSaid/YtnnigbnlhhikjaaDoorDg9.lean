/- DigestBuckets: each text has a bucket, and its bytes tell it: the given statement as its tied card, without a condition of its own. -/
import Derived.Test.YtnnigbnlhhikjaaDoorDg3
import Derived.Test.YtnnigbnlhhikjaaDoorEl
import Derived.Test.YtnnigbnlhhikjaaDoorCards
import Derived.Test.YtnnigbnlhhikjaaDoorTie
import Derived.Lay
import Derived.SevenTiedAt
import Derived.LaidMore
import Derived.OpenShut
import Derived.ChangeMaps5
namespace Go.Proofs.YtnnigbnlhhikjaaDoor
open Go.RowKit Go.ChangeMaps Go.ChangeShapes Go.WideShapes Go.ChangeAt Go.Joins Go.Deep
set_option linter.unusedSimpArgs false
set_option linter.unusedVariables false
set_option maxRecDepth 100000

theorem bs_of (s : ByteArray) : bs s.data.toList = s := by cases s; simp [bs]
theorem digestBuckets.walk {H : Type} {enc : TypeId × Value → H} (W : World) (base : Nat) {v0 v1 : Value} {d0 d1 : DataW H} {p0 p1 : List MemPlace}
    (o0 : Value.okWide Tryd.prog W .any base 9 v0) (h0 : DataW.Trod enc Tryd.prog W 0 (fun _ => true) true 9 v0 d0 p0)
    (o1 : Value.okWide Tryd.prog W .any base 5 v1) (h1 : DataW.Trod enc Tryd.prog W 0 (fun _ => true) true 5 v1 d1 p1) :
    Calls Tryd.prog 4 #[v0, v1] W fun e w' => e = .returned (.bool true) ∧ Below W.heap.size W w' := by
  obtain ⟨s, rfl, _, _, _⟩ := open_string Tryd.underlying9 o0 h0
  obtain ⟨n, rfl, _, _, wf⟩ := open_int Tryd.underlying5 o1 h1
  have hn : 0 ≤ n ∧ n ≤ 255 := by simpa [Lit.wf, IntKind.min, IntKind.max, IntKind.bits, IntKind.signed] using wf
  have hc : (((UInt8.ofNat n.toNat).toNat : Nat) : Int) = n := by simp; omega
  refine DC.law (args := [.str s.data.toList, .int .u8 ((UInt8.ofNat n.toNat).toNat : Int)]) (digestBuckets_dc s.data.toList (UInt8.ofNat n.toNat) [] trivial) rfl fun k hk => ?_
  match k, hk with
  | 0, _ => have := R.str (S := stable W []) (w := W) s.data.toList; rw [bs_of] at this; exact this
  | 1, _ => simp only [List.getD_cons_succ, List.getD_cons_zero]; rw [hc]; exact .int _ _
theorem digestBuckets.own : ownKnob Tryd.prog.godebug = none := by kernel_rfl
theorem digestBuckets.laidOut : laidOutB Tryd.prog = true := by kernel_rfl
set_option maxRecDepth 100000 in
theorem digestBuckets.lifted (os : Os) (started : os.Started) (H : Type) (enc : TypeId × Value → H) :
    ReturnsInHanded {} Tryd.checked os 4 .any (fun w args => (Rows.digestBucketsSpec.pre enc Tryd.prog Tryd.f4 [] false w args ∧ laidMetH Tryd.prog Rows.digestBucketsRow.laid w) ∧ sizedMet enc Tryd.prog Tryd.f4 (OpenSpec.ofChange Rows.digestBucketsSpec) false w args)
      (Rows.digestBucketsSpec.post enc Tryd.prog Tryd.f4 false true false false) := by
  refine returnsInHanded_of_change_and (C := Tryd.checked) (X := fun w _ => laidMetH Tryd.prog Rows.digestBucketsRow.laid w) (fun _ _ _ hh h => h.of_heap hh) digestBuckets.own started (by kernel_rfl) Tryd.func4
    (ChangeSpec.witness_shaped (enc := enc) (C := Tryd.checked) (os := os) (X := fun w _ => laidMetH Tryd.prog Rows.digestBucketsRow.laid w) false (World.laidAll Tryd.prog os Rows.digestBucketsRow.laid) #[.string .empty, .int .u8 0] 8 (World.laidAll_os _ _ _)
      (World.shaped_of_ZipB (by kernel_rfl) (by kernel_rfl)) (by kernel_rfl) (by kernel_rfl) (by kernel_rfl)
      (by rw [MakeChecks.laidMetH_plain _ _ _ (by kernel_rfl)]; exact laidMet_laidAll _ (by kernel_rfl) (by kernel_rfl))) ?_
  intro W base args ds gs before hval0 hW _ _ hL _
  have hval : ∀ (j : Nat) t v, Tryd.f4.params[j]? = some t → args[j]? = some v → Value.okWide Tryd.prog W .any base t v := hval0
  have hW' := hW
  obtain ⟨p, q, hA0, hV, rfl, hfz, hnd⟩ := hW
  have hA : DataW.TrodAll enc Tryd.prog W 0 (fun _ => true) true Tryd.f4.params.toList args.toList ds p := hA0
  rw [Tryd.params4] at hA hval
  obtain ⟨v0, vs0, d0, ds0, p0, q0, hargs, rfl, rfl, h0, r0⟩ := trodAll_cons hA
  obtain ⟨v1, vs1, d1, ds1, p1, q1, rfl, rfl, rfl, h1, r1⟩ := trodAll_cons r0
  obtain ⟨rfl, rfl, rfl⟩ := trodAll_nil r1
  obtain rfl : args = #[v0, v1] := by cases args; simp_all
  obtain ⟨rfl, rfl⟩ := trodVars_none hV
  have k0 := h0
  have lt0 : ∀ x ∈ p0, x.block < W.heap.size := by obtain ⟨m, hm⟩ := k0; exact DataW.trod_lt m _ _ _ hm
  have k1 := h1
  have lt1 : ∀ x ∈ p1, x.block < W.heap.size := by obtain ⟨m, hm⟩ := k1; exact DataW.trod_lt m _ _ _ hm
  clear hA0 hval0
  refine (digestBuckets.walk W base (hval 0 9 v0 rfl rfl) h0 (hval 1 5 v1 rfl rfl) h1).mono fun e W' ⟨he, bel⟩ => ?_
  subst he
  exact ⟨_, rfl, _, _, _, [], _, [], hW', trodAll_mk1 (shut_bool Tryd.underlying4 _), (trodAll_cons_mk (Below.trod digestBuckets.laidOut (by kernel_rfl) (of_decide_eq_true (by kernel_rfl)) k0 bel lt0) (trodAll_cons_mk (Below.trod digestBuckets.laidOut (by kernel_rfl) (of_decide_eq_true (by kernel_rfl)) k1 bel lt1) trodAll_mk0)), rfl, bel.frame _, fun h => by cases h⟩

theorem digestBuckets.over : Rows.digestBucketsRow.holds Tryd.pinned (OpenSpec.ofChange Rows.digestBucketsSpec) :=
  OpenClaim.holds_of_wide 4 Tryd.f4 rfl rfl rfl rfl rfl rfl rfl ⟨rfl, rfl, rfl, rfl, rfl⟩ rfl rfl rfl rfl rfl (by kernel_rfl) Tryd.func4 (by kernel_rfl)
    (of_decide_eq_true (by kernel_rfl)) (by unfold Func.isWrapper; first | (rw [if_pos (by decide +kernel)]; kernel_rfl) | (rw [if_neg (by decide +kernel)]; exact ⟨rfl, rfl⟩))
    (fun os started H enc _ => digestBuckets.lifted os started H enc)
theorem digestBuckets.plain (f : FuncId) (fn : Func) (hf : Tryd.pinned.checked.prog.funcNamed "hubbub/hubbublaw13.DigestBuckets" = some f) (hfn : Tryd.pinned.checked.prog.funcs[f]? = some fn) :
    false = Tryd.pinned.checked.prog.looks [] ∧ ∀ (j : Nat) t, fn.params[j]? = some t → Tryd.pinned.checked.prog.wantsStandIn t = false := by
  obtain rfl : f = 4 := Option.some.inj ((show Tryd.prog.funcNamed "hubbub/hubbublaw13.DigestBuckets" = some 4 by kernel_rfl).symm.trans hf) |>.symm
  obtain rfl : fn = Tryd.f4 := (Option.some.inj (Tryd.func4.symm.trans hfn)).symm
  refine ⟨by kernel_rfl, fun j t ht => ?_⟩
  rw [Tryd.params4] at ht
  have hm : t ∈ [9, 5] := by simpa using Array.mem_of_getElem? ht
  have hall : ([9, 5].all fun u => !Tryd.prog.wantsStandIn u) = true := by kernel_rfl
  exact (show Tryd.prog.wantsStandIn t = false by simpa using List.all_eq_true.1 hall t hm)
theorem digestBuckets.proved : Rows.DigestBucketsCardSaid :=
  Claim7.holds_tied_plain_at .later [] _ _ _ _ digestBuckets.over (fun _ h => by cases h) (by kernel_rfl) (fun _ h => by cases h) digestBuckets_row_tie rfl ⟨rfl, rfl⟩ (by kernel_rfl) rfl digestBuckets.plain (by kernel_rfl)
#print axioms digestBuckets.proved
end Go.Proofs.YtnnigbnlhhikjaaDoor
