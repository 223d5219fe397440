/- slices.SortFunc at routes, as it lies in this program (printed by the kit). -/
import Derived.Shelf.SlSortCmp.WholeK
import Derived.Test.YtfamfamgopchnaaGreatDoorProg
import Derived.Test.YtfamfamgopchnaaGreatDoorPtax
import Derived.KernelRfl
import Derived.Test.YtfamfamgopchnaaGreatDoorPtjx
namespace Go.Proofs.YtfamfamgopchnaaGreatDoor
open Go.Shelf Go.RowKit
set_option linter.unusedVariables false
def laySort_ren : Go.Shelf.Ren := ⟨fun | 6 => 75 | 15 => 141 | 14 => 140 | 28 => 185 | 29 => 186 | 20 => 177 | 21 => 178 | 22 => 179 | 23 => 180 | 24 => 181 | 25 => 182 | 26 => 183 | 27 => 184 | 46 => 206 | 47 => 207 | 48 => 208 | 49 => 209 | 50 => 210 | 57 => 223 | n => n, fun | 22 => 32 | 24 => 50 | 25 => 106 | 3 => 3 | 39 => 162 | 0 => 0 | 53 => 196 | 55 => 82 | 4 => 4 | 46 => 190 | 45 => 189 | 50 => 118 | 5 => 5 | 9 => 9 | 66 => 211 | 70 => 214 | 76 => 222 | 77 => 223 | n => n, fun | n => n⟩
theorem laySort : Go.Proofs.SlLaysF0.n6 Tryz.prog laySort_ren := {
  mixed := by kernel_rfl
  f6 := ⟨Tryz.f75.name, by decide, Tryz.func75.trans (congrArg some (by kernel_rfl))⟩
  f14 := ⟨Tryz.f140.name, by decide, Tryz.func140.trans (congrArg some (by kernel_rfl))⟩
  f15 := Tryz.func141.trans (congrArg some (by kernel_rfl))
  f20 := ⟨Tryz.f177.name, by decide, Tryz.func177.trans (congrArg some (by kernel_rfl))⟩
  f21 := ⟨Tryz.f178.name, by decide, Tryz.func178.trans (congrArg some (by kernel_rfl))⟩
  f22 := ⟨Tryz.f179.name, by decide, Tryz.func179.trans (congrArg some (by kernel_rfl))⟩
  f23 := ⟨Tryz.f180.name, by decide, Tryz.func180.trans (congrArg some (by kernel_rfl))⟩
  f24 := ⟨Tryz.f181.name, by decide, Tryz.func181.trans (congrArg some (by kernel_rfl))⟩
  f25 := ⟨Tryz.f182.name, by decide, Tryz.func182.trans (congrArg some (by kernel_rfl))⟩
  f26 := ⟨Tryz.f183.name, by decide, Tryz.func183.trans (congrArg some (by kernel_rfl))⟩
  f27 := ⟨Tryz.f184.name, by decide, Tryz.func184.trans (congrArg some (by kernel_rfl))⟩
  f28 := Tryz.func185.trans (congrArg some (by kernel_rfl))
  f29 := Tryz.func186.trans (congrArg some (by kernel_rfl))
  f46 := ⟨Tryz.f206.name, by decide, Tryz.func206.trans (congrArg some (by kernel_rfl))⟩
  f47 := Tryz.func207.trans (congrArg some (by kernel_rfl))
  f48 := Tryz.func208.trans (congrArg some (by kernel_rfl))
  f49 := ⟨Tryz.f209.name, by decide, Tryz.func209.trans (congrArg some (by kernel_rfl))⟩
  f50 := ⟨Tryz.f210.name, by decide, Tryz.func210.trans (congrArg some (by kernel_rfl))⟩
  f57 := ⟨Tryz.f223.name, by decide, Tryz.func223.trans (congrArg some (by kernel_rfl))⟩
  t0 := Tryz.underlying0
  a0 := Tryz.isAgg0
  z0 := Tryz.sizeOf0
  v0 := Tryz.zeroValue0
  t3 := Tryz.underlying3
  a3 := Tryz.isAgg3
  z3 := Tryz.sizeOf3
  v3 := Tryz.zeroValue3
  t4 := Tryz.underlying4
  a4 := Tryz.isAgg4
  z4 := Tryz.sizeOf4
  v4 := Tryz.zeroValue4
  t5 := Tryz.underlying5
  a5 := Tryz.isAgg5
  z5 := Tryz.sizeOf5
  v5 := Tryz.zeroValue5
  t9 := Tryz.underlying9
  a9 := Tryz.isAgg9
  z9 := Tryz.sizeOf9
  v9 := Tryz.zeroValue9
  t22 := Tryz.underlying32
  a22 := Tryz.isAgg32
  z22 := Tryz.sizeOf32
  v22 := Tryz.zeroValue32
  t25 := Tryz.underlying106
  a25 := Tryz.isAgg106
  z25 := Tryz.sizeOf106
  v25 := Tryz.zeroValue106
  t39 := Tryz.underlying162
  a39 := Tryz.isAgg162
  z39 := Tryz.sizeOf162
  v39 := Tryz.zeroValue162
  t45 := Tryz.underlying189
  a45 := Tryz.isAgg189
  z45 := Tryz.sizeOf189
  v45 := Tryz.zeroValue189
  t46 := Tryz.underlying190
  a46 := Tryz.isAgg190
  z46 := Tryz.sizeOf190
  v46 := Tryz.zeroValue190
  t50 := Tryz.underlying118
  a50 := Tryz.isAgg118
  z50 := Tryz.sizeOf118
  v50 := Tryz.zeroValue118
  t53 := Tryz.underlying196
  a53 := Tryz.isAgg196
  z53 := Tryz.sizeOf196
  v53 := Tryz.zeroValue196
  t55 := Tryz.underlying82
  a55 := Tryz.isAgg82
  z55 := Tryz.sizeOf82
  v55 := Tryz.zeroValue82
  t66 := Tryz.underlying211
  a66 := Tryz.isAgg211
  z66 := Tryz.sizeOf211
  v66 := Tryz.zeroValue211
  t70 := Tryz.underlying214
  a70 := Tryz.isAgg214
  z70 := Tryz.sizeOf214
  v70 := Tryz.zeroValue214
  t76 := Tryz.underlying222
  a76 := Tryz.isAgg222
  z76 := Tryz.sizeOf222
  v76 := Tryz.zeroValue222
  t77 := Tryz.underlying223
  a77 := Tryz.isAgg223
  z77 := Tryz.sizeOf223
  v77 := Tryz.zeroValue223 }
end Go.Proofs.YtfamfamgopchnaaGreatDoor
/- Routes are sorted. -/
namespace Go.Proofs.YtfamfamgopchnaaGreatDoor
open Go.RowKit
set_option linter.unusedSimpArgs false
set_option linter.unusedVariables false
set_option linter.unusedSectionVars false
set_option maxHeartbeats 4000000
set_option maxRecDepth 100000


theorem rbefore_total {a b : TRoute} (h : rbefore a b = false) : rbefore b a = true ∨ a = b := by
  cases h' : rbefore b a with
  | true => exact .inl rfl
  | false => exact .inr (rbefore_tri h h')
theorem order_swo : Go.Sort.SWO (fun x y : TRoute => decide (orderI x y < 0)) where
  irrefl x := by rw [order_dec]; exact rbefore_irrefl x
  trans x y z h1 h2 := by rw [order_dec] at *; exact rbefore_trans x y z h1 h2
  ntrans x y z h1 h2 := by
    rw [order_dec] at *
    rcases rbefore_total h1 with h3 | rfl
    · rcases rbefore_total h2 with h4 | rfl
      · have h5 := rbefore_trans z y x h4 h3
        cases h6 : rbefore x z with
        | false => rfl
        | true => have := rbefore_trans x z x h6 h5; rw [rbefore_irrefl] at this; cases this
      · exact h1
    · exact h2
theorem perm_uniq {α : Type} {R : α → α → Prop} (anti : ∀ a b, R a b → R b a → a = b) : ∀ {l m : List α}, l.Perm m → l.Pairwise R → m.Pairwise R → l = m
  | [], m, h, _, _ => h.nil_eq
  | a :: l, [], h, _, _ => absurd h.length_eq (by simp)
  | a :: l, b :: m, h, h1, h2 => by
    have hab : a = b := by
      have ha : a ∈ b :: m := h.subset (List.mem_cons_self ..)
      have hb : b ∈ a :: l := h.symm.subset (List.mem_cons_self ..)
      rcases List.mem_cons.1 ha with e | ha
      · exact e
      · rcases List.mem_cons.1 hb with e | hb
        · exact e.symm
        · exact anti a b ((List.pairwise_cons.1 h1).1 b hb) ((List.pairwise_cons.1 h2).1 a ha)
    subst hab
    rw [perm_uniq anti (List.Perm.cons_inv h) (List.pairwise_cons.1 h1).2 (List.pairwise_cons.1 h2).2]
theorem sort_uniq {l m : List TRoute} (h : l.Perm m) (h1 : l.Pairwise (fun x y => ¬ orderI y x < 0)) (h2 : m.Pairwise (fun x y => rbefore x y = true)) : l = m := by
  refine perm_uniq (R := fun x y => rbefore y x = false) (fun a b h1 h2 => rbefore_tri h2 h1) h (h1.imp fun {x y} hxy => ?_) (h2.imp fun {x y} hxy => ?_)
  · rw [← order_dec]; simpa using hxy
  · cases h' : rbefore y x with
    | false => rfl
    | true => have := rbefore_trans x y x hxy h'; rw [rbefore_irrefl] at this; cases this
theorem sortR_dc (l : List TRoute) (v : Value) (n : Nat) (F : Own) : (n = l.length ∧ l.length ≤ 1000000000) → DC Tryz.prog 75 [.ar v n, .fn (.func 65) [] []] ([.arr 4 v (cells (l.map encRoute))] ++ F) fun d G => d = .tup [] ∧ ∃ l' : List TRoute, (l'.Perm l ∧ l'.Pairwise (fun x y => ¬ orderI y x < 0)) ∧ G = .arr 4 v (cells (l'.map encRoute)) :: F := fun h =>
  (DC.sortF (ok := fun _ => True) (encV := encRoute) (cf := orderI) (g := 65) laySort (fun w => run_isAgg (P := Tryz.prog) (t := 50) (w := w) (by rw [ty_50]; decide) (by rw [ty_50]; decide)) (fun w => run_sizeOf (P := Tryz.prog) (t := 50) (w := w) (by rw [ty_50]; decide) (by rw [ty_50]; decide)) (enters_of Tryz.func65 (by kernel_rfl) rfl) (by decide) (fun x _ => ⟨_, rfl, rfl, rfl⟩) order_swo (by kernel_rfl)
    (fun x y _ _ => (order_dc x.dot.node x.dot.epoch x.dot.n x.filter y.dot.node y.dot.epoch y.dot.n y.filter [] trivial).mono fun d G h => h.1) l v n F ⟨h.1, by omega, fun _ _ => trivial⟩).mono fun d G ⟨h1, l', h2, h3, h4⟩ => ⟨h1, l', ⟨h2, h3⟩, h4⟩
end Go.Proofs.YtfamfamgopchnaaGreatDoor
/- A route comes. -/
namespace Go.Proofs.YtfamfamgopchnaaGreatDoor
open Go.RowKit
set_option linter.unusedSimpArgs false
set_option linter.unusedVariables false
set_option linter.unusedSectionVars false
set_option maxHeartbeats 4000000
set_option maxRecDepth 100000
attribute [local irreducible] DW SeqD DV DOp DC DVX


/-- May the route come? -/
def addC (fe : List TFence) (node epoch : Int) (f : Str) : Bool := okF (levs f) && (pairB node epoch && !fencedL fe node epoch)
theorem len_snoc {l : List TRoute} {x : TRoute} (h : l.length ≤ 1000000) : l.length + 1 = (l ++ [x]).length ∧ (l ++ [x]).length ≤ 1000000000 := by
  rw [List.length_append]; exact ⟨rfl, Nat.le_trans (Nat.succ_le_succ h) (by decide)⟩
theorem cells_snoc (l : List TRoute) (a b c : Int) (fl : Str) : cells (l.map encRoute) ++ [.int .i64 a, .int .i64 b, .int .i64 c, .str fl] = cells ((l ++ [(⟨⟨a, b, c⟩, fl⟩ : TRoute)]).map encRoute) := by
  rw [List.map_append]
  unfold cells
  rw [List.map_append, List.flatten_append]
  rfl
theorem sv_padds_dc {p : Prop} (h : p := by first | exact sv | exact hL | exact ⟨hL, ht1, ht2⟩ | exact hT | exact len_snoc hw | fail) : p := h
section
attribute [local push_cast 2000] cells_snoc
theorem padds_dc (se : List TDot) (fe : List TFence) (ro : List TRoute) (ce : List TCell) (node epoch : Int) (f : Str) (m : Int) (F : Own) : ((se.length ≤ 1000000000 ∧ fe.length ≤ 1000000000 ∧ ro.length ≤ 1000000000 ∧ ce.length ≤ 1000000000 ∧ ∀ k, k < ce.length → (ce.getD k default).payload.length ≤ 1000000000) ∧ (topicT f ∧ lvOK f) ∧ ro.length ≤ 1000000 ∧ -1000000000000 ≤ topM se node epoch ∧ topM se node epoch ≤ 1000000000000) → DC Tryz.prog 23 [.agg [.sl (se.map encDot), .sl (fe.map encFence), .sl (ro.map encRoute), .sl (ce.map encCell)], .int .i64 node, .int .i64 epoch, .str f] ([knF, knA, knM m] ++ F) fun d G => (addC fe node epoch f = false ∧ d = .agg [.sl ((se).map encDot), .sl ((fe).map encFence), .sl ((ro).map encRoute), .sl ((ce).map encCell)] ∨ addC fe node epoch f = true ∧ ∃ l2 : List TRoute, (l2.Perm (withoutR ro node epoch f ++ [⟨⟨node, epoch, topM se node epoch + 1⟩, f⟩]) ∧ l2.Pairwise (fun x y => ¬ orderI y x < 0)) ∧ d = .agg [.sl ((addM se ⟨node, epoch, topM se node epoch + 1⟩).map encDot), .sl ((fe).map encFence), .sl ((l2).map encRoute), .sl ((ce).map encCell)]) ∧ G = [knF, knA, knM m] ++ F := by
  intro hA
  obtain ⟨hL, hT, hro, ht1, ht2⟩ := hA
  refine DC.bodyS (n_ := 51) (show Tryz.prog.funcs[23]? = some Tryz.f23 by kernel_rfl) rfl rfl (by rfl) ?_
  simp only [env0, List.cons_append, List.nil_append]
  have kw := ksIs [0, 1, 2, 3, 4, 5, 6, 7, 8, 9, 24]
  have ow := ownIs [4]
  have rw_ := rsIs [.cell 8 35]
  have hr := hL.2.2.1
  have hfe := hL.2.1
  have hw : (withoutR ro node epoch f).length ≤ 1000000 := Nat.le_trans (List.length_filter_le _ _) hro
  repeat' (first
    | ((with_reducible apply DW.frzRO); (repeat (with_reducible first | apply OnA.here | apply OnA.next)); refine ⟨rfl, by decide, (by intro y hy; obtain ⟨x, _, rfl⟩ := List.mem_map.1 hy; rfl), ?_, ?_, ?_⟩; (focus (repeat (first | exact CvE.nil | apply CvE.cons (Cv.hit _) | apply CvE.cons (Cv.rfl _)))); (focus ((repeat (first | apply CvO.blk _ (by repeat (first | exact CvL.nil | apply CvL.cons (Cv.hit _) | apply CvL.cons (Cv.rfl _))) | apply CvO.keep | exact CvO.rfl_ _ _ _)))))
    | refine g_ ?_
    | ((with_reducible refine And.intro ?_ ?_); (exact sv_padds_dc))
    | (refine DW.cond (by rfl) ?_ ?_ <;> (first | exact i0_ | (refine ic_ ?_; intro hb)))
    | ((with_reducible refine FVg_cases ?_ ?_) <;> (intro hb; rw [hb]; revert hb; (first | exact i0_ | (refine i_ ?_; intro hb))))
    | refine r_ ?_
    | refine k_ ?_
    | (refine q_ (filterg_dc _ _ _) ?_ (ha := by exact sv_padds_dc))
    | (refine q_ (ppair_dc _ _ _) ?_ (ha := by exact sv_padds_dc))
    | (refine q_ (pfenced_dc _ _ _ _ _ _ _) ?_ (ha := by exact sv_padds_dc))
    | (refine p_ (copy_dc _ _ _ _ _) ?_ (ha := by exact sv_padds_dc); rintro d H1 ⟨v1, v2, v3, v4, rfl, rfl⟩ <;> refine s_ ?_)
    | (refine p_ (next_dc _ _ _ _ _ _ _) ?_ (ha := by exact sv_padds_dc); rintro d H1 ⟨v2, v3, v4, rfl, rfl⟩ <;> refine s_ ?_)
    | (refine p_ (delA_dc _ _ _ _ _ _ _) ?_ (ha := by exact sv_padds_dc); rintro d H1 ⟨v5, rfl, rfl⟩ <;> refine s_ ?_)
    | (refine p_ (sortR_dc _ _ _ _) ?_ (ha := by exact sv_padds_dc); rintro d H1 ⟨rfl, l2, hl2, rfl⟩ <;> refine s_ ?_)
    | refine o_ ?_
    | refine f_ ?_
    | ((fail_if_success (have zz := b1)); with_reducible intro b1)
    | ((fail_if_success (have zz := b2)); with_reducible intro b2)
    | ((fail_if_success (have zz := b3)); with_reducible intro b3)
    | with_reducible intro b)
  all_goals first
  | ((refine ⟨_, _, ?_, ⟨.inl ⟨by unfold addC; simp [*], rfl⟩, rfl⟩, ?_⟩; rotate_left; (exact sub_); refine le.agg ?_; (repeat (first | exact Les.nil | refine Les.cons le.rfl_ ?_ | refine Les.cons (le.gs rfl) ?_ | refine Les.cons (le.gs List.map_nil.symm) ?_ | refine Les.cons (le.agg ?_) ?_)); done))
  | ((refine ⟨_, _, ?_, ⟨.inr ⟨by unfold addC; simp [*], l2, hl2, rfl⟩, rfl⟩, ?_⟩; rotate_left; (exact sub_); refine le.agg ?_; (repeat (first | exact Les.nil | refine Les.cons le.rfl_ ?_ | refine Les.cons (le.gs rfl) ?_ | refine Les.cons (le.gs List.map_nil.symm) ?_ | refine Les.cons (le.agg ?_) ?_)); done))
end
end Go.Proofs.YtfamfamgopchnaaGreatDoor
