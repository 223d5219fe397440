/- A table in new memory. -/
import Derived.Test.YtfamfamgopchnaaGreatDoorPt4
import Derived.KernelRfl
namespace Go.Proofs.YtfamfamgopchnaaGreatDoor
open Go.RowKit
set_option linter.unusedSimpArgs false
set_option linter.unusedVariables false
set_option linter.unusedSectionVars false
set_option maxHeartbeats 4000000
set_option maxRecDepth 100000


theorem cells_enccell (l : List TCell) : (cells (l.map encCell)).length = l.length * 10 := by rw [cells_len (sz := 10) _ (fun y hy => by obtain ⟨x, _, rfl⟩ := List.mem_map.1 hy; rfl), List.length_map]
theorem lay_same {cs : List V} {k : Nat} {d : V} (hk : k < cs.length) (h : cs.getD k .any = d) : layV cs k [d] = cs := by
  unfold layV
  rw [← h]
  apply List.ext_getElem?
  intro i
  rw [List.append_assoc]
  rcases Nat.lt_trichotomy i k with hi | hi | hi
  · rw [List.getElem?_append_left (by simp; omega), List.getElem?_take, if_pos hi]
  · subst hi
    rw [List.getElem?_append_right (by simp; omega), List.length_take, Nat.min_eq_left (by omega), Nat.sub_self]
    rw [List.getElem?_append_left (by simp), List.getD_eq_getElem?_getD, List.getElem?_eq_getElem hk]; rfl
  · rw [List.getElem?_append_right (by simp; omega), List.length_take, Nat.min_eq_left (by omega), List.getElem?_append_right (by simp; omega), List.getElem?_drop]
    congr 1
    simp; omega
theorem cell_pay {ce : List TCell} {k : Nat} (hk : k < ce.length) : (cells (ce.map encCell)).getD (k * 10 + 7) .any = .sl ((ce.getD k default).payload.map u8) := by
  rw [cells_at (sz := 10) _ k 7 (fun y hy => by obtain ⟨x, _, rfl⟩ := List.mem_map.1 hy; rfl) (by simpa using hk) (by decide)]
  simp [List.getD_eq_getElem?_getD, hk, encCell, V.cell]
theorem cell_get {ce : List TCell} {k : Nat} (hk : k < ce.length) : (List.drop (k * 10 + 7) (cells (ce.map encCell))).getD 0 .any = .sl ((ce.getD k default).payload.map u8) := by
  rw [← cell_pay hk]; simp [List.getD_eq_getElem?_getD, List.getElem?_drop]
theorem cell_drop {ce : List TCell} {k : Nat} (hk : k < ce.length) : ∃ r, List.drop (k * 10 + 7) (cells (ce.map encCell)) = .sl ((ce.getD k default).payload.map u8) :: r := by
  have h := cell_pay hk
  have hl : k * 10 + 7 < (cells (ce.map encCell)).length := by rw [cells_enccell]; omega
  rw [List.getD_eq_getElem?_getD, List.getElem?_eq_getElem hl, Option.getD_some] at h
  exact ⟨_, by rw [List.drop_eq_getElem_cons hl, h]⟩
theorem cell_lay {ce : List TCell} {k : Nat} (hk : k < ce.length) : layV (cells (ce.map encCell)) (k * 10 + 7) [.sl ((ce.getD k default).payload.map u8)] = cells (ce.map encCell) := lay_same (by rw [cells_enccell]; omega) (cell_pay hk)
attribute [local irreducible] DW SeqD DV DOp DC DVX DVJ
theorem copy_dc (se : List TDot) (fe : List TFence) (ro : List TRoute) (ce : List TCell) (F : Own) : (se.length ≤ 1000000000 ∧ fe.length ≤ 1000000000 ∧ ro.length ≤ 1000000000 ∧ ce.length ≤ 1000000000 ∧ ∀ k, k < ce.length → (ce.getD k default).payload.length ≤ 1000000000) → DC Tryz.prog 70 [.agg [.sl (se.map encDot), .sl (fe.map encFence), .sl (ro.map encRoute), .sl (ce.map encCell)]] (([] : Own) ++ F) fun d G => ∃ v1 v2 v3 v4, d = .agg [.ar v1 se.length, .ar v2 fe.length, .ar v3 ro.length, .ar v4 ce.length] ∧ G = .arr 3 v1 (cells (se.map encDot)) :: .arr 2 v2 (cells (fe.map encFence)) :: .arr 4 v3 (cells (ro.map encRoute)) :: .arr 10 v4 (cells (ce.map encCell)) :: F := by
  intro hA
  obtain ⟨hs, hf, hr, hc, hp⟩ := hA
  refine DC.bodyS (n_ := 40) (show Tryz.prog.funcs[70]? = some Tryz.f70 by kernel_rfl) rfl rfl (by rfl) ?_
  simp only [env0, List.cons_append, List.nil_append]
  repeat' (first
    | ((with_reducible refine DW.loopB 0 (X := Nat) (fun x => x ≤ ce.length) (fun x => [(1, .raw (.pointer (some ⟨b1, 0, none⟩))), (2, .raw (.pointer (some ⟨b2, 0, none⟩))), (22, .int .i64 ce.length), (23, .int .i64 x)]) (fun x => .blk b1 [.ar v1 se.length, .ar v2 fe.length, .ar v3 ro.length, .ar v4 ce.length] :: .arr 10 v4 (cells (ce.map encCell)) :: ([] : Own)) (fun x => ce.length - x) (0) ?_ ?_ ?_); exact (Nat.zero_le _); (simp [Sub, get, keepL] <;> fail); (try simp only [List.cons_append, List.nil_append]); (repeat (with_reducible first | refine Pull.nil ?_ | refine Pull.cons ?_ | refine Out.here ?_ | refine Out.next ?_)); intro k hk; (try simp only [List.cons_append, List.nil_append]))
    | with_reducible first | refine DW.sq ?_ | refine DW.block ?_ | refine DW.skip ?_ | refine DW.exit ?_
    | ((with_reducible refine DW.ret ?_))
    | with_reducible first | refine then_n ?_ | refine then_x ?_ | refine then_r ?_ | refine blk_n ?_ | refine blk_r ?_ | refine blk_x ?_
    | with_reducible refine blk_y (by decide) ?_
    | with_reducible first | refine Next.go ?_ | refine SeqD.nil ?_ | refine DV.nil ?_
    | ((with_reducible refine And.intro ?_ ?_); (first | exact sv | exact hp k (by omega)))
    | with_reducible first | refine DW.ct_ ?_ | refine DW.cf_ ?_
    | (refine DW.cond (by rfl) (fun hb => ?_) (fun hb => ?_) <;> (try simp only [hbs, Int.reduceBEq, Int.reduceBNe, Int.reduceEq] at hb; try (exfalso; omega)))
    | ((first | ((with_reducible refine DW.regK [0, 1, 2, 3, 22, 23, 24] (by kernel_rfl) ?_); refine SeqD.go (own := [1]) _ _ ?_) | ((with_reducible refine DW.drawK (id := 5) [0, 1, 2, 3, 22, 23, 24] [12] [1, 4, 8, 9] (by kernel_rfl) (by kernel_rfl) (by kernel_rfl) ?_); refine DV.go [1, 4, 8, 9] [12] _ _ _ ?_) | ((with_reducible apply DW.drawJ (id := 1) 1 [0, 1, 2, 3, 22, 23, 24] [2, 5, 8, 11, 13, 15, 17, 19] [1, 4, 7, 10] [2, 5, 8] (hm := by kernel_rfl) (hd := by kernel_rfl) (hB := by kernel_rfl) (hN := by kernel_rfl)); (focus (exact rfl)); (repeat (with_reducible first | refine OnB.here ?_ | refine OnB.mid ?_ | refine OnB.next ?_))) | (refine DVJ.k_ rfl rfl rfl ?_) | (refine DVJ.f_ rfl rfl rfl ?_) | ((first | refine Both.imp (fun hb => ?_) (fun hb => ?_) | (with_reducible first | refine FVg_cases (fun hb => ?_) (fun hb => ?_) | refine FDg_cases (fun hb => ?_) (fun hb => ?_)) <;> rw [hb]) <;> (try simp only [hbs, Int.reduceBEq, Int.reduceBNe, Int.reduceEq] at hb; try (exfalso; omega))) | (with_reducible refine ret_r rfl ?_) | ((refine ret_c [.cell 2 35] (by rfl) ?_); (try (refine RetK_cell _ _ _ _ _ _ rfl ?_; (repeat (with_reducible first | refine OnB.here ?_ | refine OnB.mid ?_ | refine OnB.next ?_))))) | ((refine RetK_cell _ _ _ _ _ _ rfl ?_); (repeat (with_reducible first | refine OnB.here ?_ | refine OnB.mid ?_ | refine OnB.next ?_))) | (with_reducible refine ret_n rfl ?_) | ((with_reducible first | refine DV.mk rfl ?_ | refine DV.mkg rfl rfl ?_); (first | (apply DVop.callq_ rfl rfl rfl rfl (h1 := bclone_dc _ _); (repeat (first | exact Les.nil | refine Les.cons le.rfl_ ?_ | refine Les.cons (le.gs rfl) ?_ | refine Les.cons (le.gs List.map_nil.symm) ?_ | refine Les.cons (le.agg ?_) ?_)); (repeat (with_reducible first | exact Pulled.nil | apply Pulled.cons | exact Took.here | apply Took.next)); refine And.intro ?_ ?_; (first | exact sv | exact hp k (by omega))) | (refine DVop.loada_ rfl rfl rfl rfl ?_; (repeat (with_reducible first | refine OnA.here ?_ | refine OnA.next ?_))) | (refine DVop.load_ rfl rfl rfl rfl ?_; (repeat (with_reducible first | refine OnB.here ?_ | refine OnB.mid ?_ | refine OnB.next ?_))) | (refine DVop.f_ rfl ?_))) | (first | (apply DOp.callp_ rfl rfl (h := clod_dc _ _); (repeat (first | exact Les.nil | refine Les.cons le.rfl_ ?_ | refine Les.cons (le.gs rfl) ?_ | refine Les.cons (le.gs List.map_nil.symm) ?_ | refine Les.cons (le.agg ?_) ?_)); (repeat (with_reducible first | exact Pulled.nil | apply Pulled.cons | exact Took.here | apply Took.next)); refine And.intro ?_ ?_; (first | exact sv | exact hp k (by omega)); rintro d H1 ⟨v1, rfl, rfl⟩) | (apply DOp.callp_ rfl rfl (h := clof_dc _ _); (repeat (first | exact Les.nil | refine Les.cons le.rfl_ ?_ | refine Les.cons (le.gs rfl) ?_ | refine Les.cons (le.gs List.map_nil.symm) ?_ | refine Les.cons (le.agg ?_) ?_)); (repeat (with_reducible first | exact Pulled.nil | apply Pulled.cons | exact Took.here | apply Took.next)); refine And.intro ?_ ?_; (first | exact sv | exact hp k (by omega)); rintro d H1 ⟨v2, rfl, rfl⟩) | (apply DOp.callp_ rfl rfl (h := clor_dc _ _); (repeat (first | exact Les.nil | refine Les.cons le.rfl_ ?_ | refine Les.cons (le.gs rfl) ?_ | refine Les.cons (le.gs List.map_nil.symm) ?_ | refine Les.cons (le.agg ?_) ?_)); (repeat (with_reducible first | exact Pulled.nil | apply Pulled.cons | exact Took.here | apply Took.next)); refine And.intro ?_ ?_; (first | exact sv | exact hp k (by omega)); rintro d H1 ⟨v3, rfl, rfl⟩) | (apply DOp.callp_ rfl rfl (h := cloc_dc _ _); (repeat (first | exact Les.nil | refine Les.cons le.rfl_ ?_ | refine Les.cons (le.gs rfl) ?_ | refine Les.cons (le.gs List.map_nil.symm) ?_ | refine Les.cons (le.agg ?_) ?_)); (repeat (with_reducible first | exact Pulled.nil | apply Pulled.cons | exact Took.here | apply Took.next)); refine And.intro ?_ ?_; (first | exact sv | exact hp k (by omega)); rintro d H1 ⟨v4, rfl, rfl⟩) | (apply DOp.callq_ rfl rfl (h := bclone_dc _ _); (repeat (first | exact Les.nil | refine Les.cons le.rfl_ ?_ | refine Les.cons (le.gs rfl) ?_ | refine Les.cons (le.gs List.map_nil.symm) ?_ | refine Les.cons (le.agg ?_) ?_)); (repeat (with_reducible first | exact Pulled.nil | apply Pulled.cons | exact Took.here | apply Took.next)); refine And.intro ?_ ?_; (first | exact sv | exact hp k (by omega)); rintro d rfl) | (refine DOp.alloc_ rfl ?_) | (refine DOp.box_ rfl ?_) | (refine DOp.store_ rfl rfl ?_; (repeat (with_reducible first | refine OnB.here ?_ | refine OnB.mid ?_ | refine OnB.next ?_))) | (refine DOp.load_ rfl rfl ?_; (repeat (with_reducible first | refine OnB.here ?_ | refine OnB.mid ?_ | refine OnB.next ?_))) | (refine DOp.loada_ rfl rfl ?_; (repeat (with_reducible first | refine OnA.here ?_ | refine OnA.next ?_))) | (refine DOp.storea_ rfl rfl ?_; (repeat (with_reducible first | refine OnA.here ?_ | refine OnA.next ?_))))) <;> (simp (maxSteps := 1000000) (disch := omega) only [push_cast, ↓reduceIte, reduceCtorEq, Nat.reduceAdd, Nat.reduceMul, Nat.reduceLT, Nat.reduceLeDiff, Nat.reduceEqDiff, Nat.reduceSub, Int.reduceToNat, Int.reduceLT, Int.reduceLE, Int.reduceAdd, Int.reduceSub, Int.reduceMul, Int.reduceNeg, Nat.reduceBEq, Int.reduceBEq, Int.reduceBNe, Nat.reduceBNe, Int.reduceEq, cell_lay, cells_enccell, cell_get, klS, klV]))
    | (with_reducible first | refine SeqD.opF [1] rfl ?_ | refine SeqD.opgF [1] rfl rfl ?_)
    | (with_reducible refine DVJ.nil_ ?_)
    | (first | refine DVJ.ma_ rfl rfl rfl ?_ | refine DVJ.mb_ rfl rfl rfl ?_)
    | ((with_reducible first | refine DV.mk rfl ?_ | refine DV.mkg rfl rfl ?_); (refine DVop.mv_ rfl ?_))
    | ((fail_if_success (have zz := b1)); with_reducible intro b1)
    | ((fail_if_success (have zz := b2)); with_reducible intro b2)
    | with_reducible intro b)
  all_goals first
  | (refine ⟨k + 1, ?_, ?_, ?_, ?_⟩; (((try simp only); omega)); (((try simp only); omega)); (simp [Sub, get] <;> (fail)); (try dsimp only); (repeat (with_reducible first | exact SubP.refl | exact SubP.nil | refine SubP.pick ?_ | refine Out.here ?_ | refine Out.next ?_ | refine SubP.drop ?_)); done)
  | (refine ⟨_, _, le.rfl_, ⟨_, _, _, _, rfl, rfl⟩, ?_⟩; (repeat (with_reducible first | exact SubP.refl | exact SubP.nil | refine SubP.pick ?_ | refine Out.here ?_ | refine Out.next ?_ | refine SubP.drop ?_)); done)
end Go.Proofs.YtfamfamgopchnaaGreatDoor
