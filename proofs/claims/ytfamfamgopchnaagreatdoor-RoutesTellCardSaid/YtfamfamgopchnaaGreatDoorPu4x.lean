/- A filter that comes twice is one route; a fence holds. -/
import Derived.Test.YtfamfamgopchnaaGreatDoorPu2x
import Derived.Test.YtfamfamgopchnaaGreatDoorPu3x
import Derived.KernelRfl
namespace Go.Proofs.YtfamfamgopchnaaGreatDoor
open Go.RowKit
set_option linter.unusedSimpArgs false
set_option linter.unusedVariables false
set_option linter.unusedSectionVars false
set_option maxHeartbeats 4000000
set_option maxRecDepth 100000


def deedR (d : TDeed) : Prop := (0 ≤ d.what ∧ d.what ≤ 255) ∧ (0 ≤ d.who ∧ d.who ≤ 255) ∧ (0 ≤ d.k ∧ d.k ≤ 255)
theorem deeds_ok {l : List TDeed} (h : ∀ d ∈ l, deedR d) (h2 : ∀ k, (l.getD k default).x.length ≤ 30) : ∀ d ∈ l, deedOk d := fun d hd => by
  obtain ⟨k, hk, rfl⟩ := mem_getD hd
  obtain ⟨a, b, c⟩ := h _ hd
  exact ⟨a, b, c, h2 k⟩
attribute [local irreducible] DW SeqD DV DOp DC DVX DVJ routeAddM routeDropM fenceM filterM topM fencedL
theorem sv_routesTwice_dc {p : Prop} (h : p := by first | exact sv | exact ⟨hn20, deeds_ok hl hx30⟩ | exact ⟨htr, hlt1, hk2, tw.tt⟩ | exact ⟨tw.ra, tw.wa, hk2, tw.ta⟩ | exact ⟨tw.wb, by omega, by omega⟩ | exact ⟨tw.wc, by omega, by omega⟩ | exact ⟨(drop_lite tw.wc _ _ _).mono (by decide), tw.wc.mono (by decide)⟩ | exact Nat.le_trans tw.wb.s (by decide) | exact Nat.le_trans tw.wc.s (by decide) | fail) : p := h
section
attribute [local push_cast 2000] encTable
theorem routesTwice_dc (l : List TDeed) (x1 m : Int) (F : Own) : ((∀ d ∈ l, deedR d) ∧ (0 ≤ x1 ∧ x1 ≤ 255)) → DC Tryz.prog 7 [.sl (l.map encDeed), .int .u8 x1] ([knF, knA, knM m] ++ F) fun d G => d = .bool true ∧ G = [knF, knA, knM m] ++ F := by
  intro hA
  obtain ⟨hl, hx⟩ := hA
  refine DC.bodyS (n_ := 75) (show Tryz.prog.funcs[7]? = some Tryz.f7 by kernel_rfl) rfl rfl (by rfl) ?_
  simp only [env0, List.cons_append, List.nil_append]
  have kw := ksIs [0, 1, 4, 5, 6, 7, 8, 9, 11, 14]
  have ow := ownIs []
  have dw10 := drIs 10 [] [1, 4, 10, 13, 19, 20, 25, 26, 31, 34, 39, 41, 42, 43]
  repeat' (first
    | ((fail_if_success (have zz := hst)); (have hst := st_at hn20 (deeds_ok hl hx30) (k := 1) (by decide)); (have htn := hst.1); (have htr := hst.2.1); (have hrg := hst.2.2.1); (have hlt := hst.2.2.2); (have hlt1 := hlt.mono (show 3072 ≤ 100000 by decide)); (have hrl := hlt.r); (have hk2 := filterM_mem (k := x1) hx.1); (have tw := twice htr hrg hlt hk2); (have a1 := tw.la); (have a2 := tw.lb); (have a3 := tw.tb); (have a4 := tw.tc); (have a5 := tw.lc))
    | refine g_ ?_
    | ((with_reducible refine And.intro ?_ ?_); (exact sv_routesTwice_dc))
    | (refine DW.cond (by rfl) ?_ ?_ <;> (first | exact i0_ | (refine ic_ ?_; intro hb)))
    | ((with_reducible first | refine FVg_cases ?_ ?_ | refine FDg_cases ?_ ?_) <;> (intro hb; rw [hb]; revert hb; (first | exact i0_ | (refine i_ ?_; intro hb))))
    | refine r_ ?_
    | refine d_ ?_
    | refine k_ ?_
    | ((refine dm_ ?_); (first | ((first | refine v_ (known10_dc _ _) ?_ (ha := by exact sv_routesTwice_dc) | refine v_ (filter_dc _ _) ?_ (ha := by exact sv_routesTwice_dc) | refine v_ (paddT_dc _ _ _ _ _ _) ?_ (ha := by exact sv_routesTwice_dc) | refine v_ (pdropT_dc _ _ _ _ _) ?_ (ha := by exact sv_routesTwice_dc) | refine v_ (pfenceT_dc _ _ _ _) ?_ (ha := by exact sv_routesTwice_dc) | refine v_ (pfencedT_dc _ _ _ _) ?_ (ha := by exact sv_routesTwice_dc) | refine v_ (rtop_dc _ _ _ _) ?_ (ha := by exact sv_routesTwice_dc))) | (refine v_ (story10_dc _ _) ?_ (ha := by exact sv_routesTwice_dc)) | (refine v_ (same_dc _ _ _) ?_ (ha := by exact sv_routesTwice_dc))))
    | refine vo_ ?_
    | ((first | refine q_ (known10_dc _ _) ?_ (ha := by exact sv_routesTwice_dc) | refine q_ (filter_dc _ _) ?_ (ha := by exact sv_routesTwice_dc) | refine q_ (paddT_dc _ _ _ _ _ _) ?_ (ha := by exact sv_routesTwice_dc) | refine q_ (pdropT_dc _ _ _ _ _) ?_ (ha := by exact sv_routesTwice_dc) | refine q_ (pfenceT_dc _ _ _ _) ?_ (ha := by exact sv_routesTwice_dc) | refine q_ (pfencedT_dc _ _ _ _) ?_ (ha := by exact sv_routesTwice_dc) | refine q_ (rtop_dc _ _ _ _) ?_ (ha := by exact sv_routesTwice_dc)))
    | (refine p_ (few10_dc _ _) ?_ (ha := by exact sv_routesTwice_dc); rintro d H1 (⟨rfl, ⟨hn20, hx30⟩, rfl⟩ | ⟨rfl, rfl⟩) <;> refine s_ ?_)
    | (refine q_ (story10_dc _ _) ?_ (ha := by exact sv_routesTwice_dc))
    | (refine q_ (same_dc _ _ _) ?_ (ha := by exact sv_routesTwice_dc))
    | refine o_ ?_
    | refine f_ ?_
    | refine vm_ ?_
    | with_reducible intro b)
  all_goals first
  | ((first | exact fin_ | refine finq_ ?_); done)
  | (rw [tw.dc]; simp only [decide_true]; (first | exact fin_ | refine finq_ ?_); done)
  | (exfalso; omega)
end
end Go.Proofs.YtfamfamgopchnaaGreatDoor
