/- A fence holds. -/
import Derived.Test.YtfamfamgopchnaaGreatDoorPu4x
import Derived.KernelRfl
namespace Go.Proofs.YtfamfamgopchnaaGreatDoor
open Go.RowKit
set_option linter.unusedSimpArgs false
set_option linter.unusedVariables false
set_option linter.unusedSectionVars false
set_option maxHeartbeats 4000000
set_option maxRecDepth 100000


theorem fenc2 {t : TTable} {fe ge : Int} {f : Str} (h : Fenc t fe ge f) : (fe < ge ∧ (routeAddM t 7 ge f).routes.length = t.routes.length + 1 ∧ ¬ routeAddM t 7 ge f = t) ∨ (ge ≤ fe ∧ routeAddM t 7 ge f = t) := by
  rcases Int.lt_or_le fe ge with g | g
  · exact .inl ⟨g, (h.come g).1, of_decide_eq_false (h.come g).2⟩
  · exact .inr ⟨g, h.not (by omega)⟩
attribute [local irreducible] DW SeqD DV DOp DC DVX DVJ routeAddM routeDropM fenceM filterM topM fencedL
theorem sv_routesFenced_dc {p : Prop} (h : p := by first | exact sv | exact ⟨hn20, deeds_ok hl hx30⟩ | exact ⟨htr, hlt1⟩ | exact ⟨fc.tr, fc.lt, hk2, fc.tt⟩ | exact ⟨fc.tr, fc.lt⟩ | exact fc.lt | exact ⟨fc.lu.mono (by decide), fc.lt.mono (by decide)⟩ | exact ⟨(fence_lite fc.lt _ _).mono (by decide), fc.lt.mono (by decide)⟩ | fail) : p := h
section
attribute [local push_cast 2000] encTable
theorem routesFenced_dc (l : List TDeed) (x1 y1 z1 m : Int) (F : Own) : ((∀ d ∈ l, deedR d) ∧ (0 ≤ x1 ∧ x1 ≤ 255) ∧ (0 ≤ y1 ∧ y1 ≤ 255) ∧ (0 ≤ z1 ∧ z1 ≤ 255)) → DC Tryz.prog 9 [.sl (l.map encDeed), .int .u8 x1, .int .u8 y1, .int .u8 z1] ([knF, knA, knM m] ++ F) fun d G => d = .bool true ∧ G = [knF, knA, knM m] ++ F := by
  intro hA
  obtain ⟨hl, hx, hy, hz⟩ := hA
  refine DC.bodyS (n_ := 82) (show Tryz.prog.funcs[9]? = some Tryz.f9 by kernel_rfl) rfl rfl (by rfl) ?_
  simp only [env0, List.cons_append, List.nil_append]
  have kw := ksIs [0, 1, 2, 3, 8, 9, 10, 11, 12, 13, 15, 18]
  have ow := ownIs []
  have q0 := Int.tmod_nonneg 5 hy.1; have q1 := Int.tmod_lt_of_pos y1 (show (0 : Int) < 5 by decide); have q2 := Int.tmod_nonneg 7 hz.1; have q3 := Int.tmod_lt_of_pos z1 (show (0 : Int) < 7 by decide)
  repeat' (first
    | ((fail_if_success (have zz := hst)); (have hst := st_at hn20 (deeds_ok hl hx30) (k := 0) (by decide)); (have htn := hst.1); (have htr := hst.2.1); (have hrg := hst.2.2.1); (have hlt := hst.2.2.2); (have hlt1 := hlt.mono (show 3072 ≤ 100000 by decide)); (have hrl := hlt.r); (have hk2 := filterM_mem (k := x1) hx.1); (have fc := fenc htr hrg hlt hk2 (fe := y1.tmod 5 + 1) (ge := z1.tmod 7 + 1) ⟨by omega, by omega⟩ ⟨by omega, by omega⟩); (have f1 := fc.f1); (have f2 := fc.f2); (have f3 := fc.lt.r); (have f4 := fc.low); (rw [show y1.tmod 5 + 1 - 1 = y1.tmod 5 by omega] at f4); (rcases fenc2 fc with ⟨hg, hc1, hc2⟩ | ⟨hg, hn1⟩))
    | ((with_reducible apply DW.frzB 7 10); (focus (exact rfl)); (repeat (with_reducible first | refine Out.here ?_ | refine Out.next ?_)); simp only [put_cons, put_nil, Nat.reduceEqDiff, ↓reduceIte, if_true, if_false, reduceCtorEq])
    | ((with_reducible apply DW.frzB 9 10); (focus (exact rfl)); (repeat (with_reducible first | refine Out.here ?_ | refine Out.next ?_)); simp only [put_cons, put_nil, Nat.reduceEqDiff, ↓reduceIte, if_true, if_false, reduceCtorEq])
    | refine g_ ?_
    | ((with_reducible refine And.intro ?_ ?_); (exact sv_routesFenced_dc))
    | (refine DW.cond (by rfl) ?_ ?_ <;> (first | exact i0_ | (refine ic_ ?_; intro hb)))
    | ((with_reducible refine FVg_cases ?_ ?_) <;> (intro hb; rw [hb]; revert hb; (first | exact i0_ | (refine i_ ?_; intro hb))))
    | refine r_ ?_
    | refine k_ ?_
    | ((refine dm_ ?_); (first | ((first | refine v_ (known10_dc _ _) ?_ (ha := by exact sv_routesFenced_dc) | refine v_ (story10_dc _ _) ?_ (ha := by exact sv_routesFenced_dc) | refine v_ (filter_dc _ _) ?_ (ha := by exact sv_routesFenced_dc) | refine v_ (paddT_dc _ _ _ _ _ _) ?_ (ha := by exact sv_routesFenced_dc) | refine v_ (pdropT_dc _ _ _ _ _) ?_ (ha := by exact sv_routesFenced_dc) | refine v_ (pfenceT_dc _ _ _ _) ?_ (ha := by exact sv_routesFenced_dc) | refine v_ (pfencedT_dc _ _ _ _) ?_ (ha := by exact sv_routesFenced_dc) | refine v_ (same_dc _ _ _) ?_ (ha := by exact sv_routesFenced_dc) | refine v_ (rtop_dc _ _ _ _) ?_ (ha := by exact sv_routesFenced_dc)))))
    | refine vo_ ?_
    | ((first | ((with_reducible refine DW.drawX (id := 7) [0, 1, 2, 3, 8, 9, 10, 11, 12, 13, 15, 18] [6, 7, 9] 8 35 (some 11) (by kernel_rfl) (by kernel_rfl) (by kernel_rfl) (by kernel_rfl) rfl (by kernel_rfl) ?_ ?_)) | (refine DVX.fl_ rfl rfl rfl ?_) | (refine DVX.f_ rfl rfl (by decide) ?_) | ((refine DVX.mv_ rfl rfl (by decide) ?_); intro X; (try simp only [List.cons_append, List.nil_append]); (first | (refine qq_ (known10_dc _ _) ?_ (ha := by exact sv_routesFenced_dc); rintro d rfl) | (refine p_ (few10_dc _ _) ?_ (ha := by exact sv_routesFenced_dc); rintro d H1 (⟨rfl, ⟨hn20, hx30⟩, rfl⟩ | ⟨rfl, rfl⟩)) | (refine qq_ (story10_dc _ _) ?_ (ha := by exact sv_routesFenced_dc); rintro d rfl) | (refine qq_ (filter_dc _ _) ?_ (ha := by exact sv_routesFenced_dc); rintro d rfl) | (refine qq_ (paddT_dc _ _ _ _ _ _) ?_ (ha := by exact sv_routesFenced_dc); rintro d rfl) | (refine qq_ (pdropT_dc _ _ _ _ _) ?_ (ha := by exact sv_routesFenced_dc); rintro d rfl) | (refine qq_ (pfenceT_dc _ _ _ _) ?_ (ha := by exact sv_routesFenced_dc); rintro d rfl) | (refine qq_ (pfencedT_dc _ _ _ _) ?_ (ha := by exact sv_routesFenced_dc); rintro d rfl) | (refine qq_ (same_dc _ _ _) ?_ (ha := by exact sv_routesFenced_dc); rintro d rfl) | (refine qq_ (rtop_dc _ _ _ _) ?_ (ha := by exact sv_routesFenced_dc); rintro d rfl) | ((refine DOp.load_ rfl rfl ?_); (repeat (with_reducible first | refine OnB.here ?_ | refine OnB.mid ?_ | refine OnB.next ?_)); (refine And.intro (by simp (maxSteps := 1000000) (disch := omega) only [push_cast, ↓reduceIte, reduceCtorEq, Nat.reduceAdd, Nat.reduceMul, Nat.reduceLT, Nat.reduceLeDiff, Nat.reduceEqDiff, Nat.reduceSub, Int.reduceToNat, Int.reduceLT, Int.reduceLE, Int.reduceAdd, Int.reduceSub, Int.reduceMul, Int.reduceNeg, Nat.reduceBEq, Int.reduceBEq, Int.reduceBNe, Nat.reduceBNe, Int.reduceEq, encTable]) ?_))); (try simp only [List.cons_append, List.nil_append]); (repeat (with_reducible first | refine PXK.base ?_ | refine PXK.none ?_ | refine PXK.cons ?_)))) <;> (simp (maxSteps := 1000000) (disch := omega) only [push_cast, ↓reduceIte, reduceCtorEq, Nat.reduceAdd, Nat.reduceMul, Nat.reduceLT, Nat.reduceLeDiff, Nat.reduceEqDiff, Nat.reduceSub, Int.reduceToNat, Int.reduceLT, Int.reduceLE, Int.reduceAdd, Int.reduceSub, Int.reduceMul, Int.reduceNeg, Nat.reduceBEq, Int.reduceBEq, Int.reduceBNe, Nat.reduceBNe, Int.reduceEq, encTable]))
    | ((first | refine q_ (known10_dc _ _) ?_ (ha := by exact sv_routesFenced_dc) | refine q_ (story10_dc _ _) ?_ (ha := by exact sv_routesFenced_dc) | refine q_ (filter_dc _ _) ?_ (ha := by exact sv_routesFenced_dc) | refine q_ (paddT_dc _ _ _ _ _ _) ?_ (ha := by exact sv_routesFenced_dc) | refine q_ (pdropT_dc _ _ _ _ _) ?_ (ha := by exact sv_routesFenced_dc) | refine q_ (pfenceT_dc _ _ _ _) ?_ (ha := by exact sv_routesFenced_dc) | refine q_ (pfencedT_dc _ _ _ _) ?_ (ha := by exact sv_routesFenced_dc) | refine q_ (same_dc _ _ _) ?_ (ha := by exact sv_routesFenced_dc) | refine q_ (rtop_dc _ _ _ _) ?_ (ha := by exact sv_routesFenced_dc)))
    | (refine p_ (few10_dc _ _) ?_ (ha := by exact sv_routesFenced_dc); rintro d H1 (⟨rfl, ⟨hn20, hx30⟩, rfl⟩ | ⟨rfl, rfl⟩) <;> refine s_ ?_)
    | refine o_ ?_
    | refine f_ ?_
    | refine vm_ ?_
    | with_reducible intro b)
  all_goals first
  | ((first | exact fin_ | refine finq_ ?_); done)
  | (exfalso; omega)
  | ((refine finq_ ?_); (rw [f2]; rfl))
  | (exfalso; apply hb; rw [hn1]; have e : ∀ n : Nat, ((n : Int) == (n : Int) + 1) = false := fun n => beq_eq_false_iff_ne.2 (by omega)
     rw [e, eq_comm, decide_eq_false_iff_not]; omega)
  | ((refine finq_ ?_); (simp [f1, f2]; done))
  | (exfalso; simp_all; done)
end
end Go.Proofs.YtfamfamgopchnaaGreatDoor
