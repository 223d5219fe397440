/- A deed is put among those that were seen. -/
import Derived.Test.YtfamfamgopchnaaGreatDoorPt6x
import Derived.KernelRfl
namespace Go.Proofs.YtfamfamgopchnaaGreatDoor
open Go.RowKit
set_option linter.unusedSimpArgs false
set_option linter.unusedVariables false
set_option linter.unusedSectionVars false
set_option maxHeartbeats 4000000
set_option maxRecDepth 100000


def putP (l : List TDot) (x : TDot) : List TDot := if foundB l x = true then (if (l.getD (placeD l x) default).n < x.n then l.set (placeD l x) { l.getD (placeD l x) default with n := x.n } else l) else l.take (placeD l x) ++ x :: l.drop (placeD l x)
theorem put_add {l : List TDot} {x : TDot} (hr : rightB l = true) (h1 : oneB x = true) : putP l x = addM l x := by
  have ht := top_bs hr x.node x.epoch x.n
  obtain ⟨_, f2, f3, f4⟩ := firstK_le (fun i => !ahead (l.getD i default) x) l.length 0
  obtain ⟨p, hp⟩ : ∃ p, p = placeD l x := ⟨_, rfl⟩
  have hp' : firstK (fun i => !ahead (l.getD i default) x) l.length 0 = p := hp.symm
  rw [hp'] at f2 f3 f4
  have hone := one_iff.1 h1
  cases hf : foundB l x with
  | true =>
    have hlt := found_lt hf
    have hz : livesI (l.getD p default) x = 0 := by
      have := hf; unfold foundB at this; rw [← hp] at this; simp only [Bool.and_eq_true, beq_iff_eq] at this; exact this.2
    have hkey := (lives_z _ _).1 hz
    rw [hf, if_pos rfl, ← hp] at ht
    rw [← hp] at hlt
    rw [putP, if_pos hf, ← hp]
    split
    · rename_i hn
      have hh : hasB l x = false := by
        cases hb : hasB l x with
        | false => rfl
        | true => rw [has_iff] at hb; omega
      rw [addM_put hr h1 hh, put_set hp.symm hlt (by rw [ahead_not]; omega)]
    · rename_i hn
      rw [addM_old hr (.inr (by rw [has_iff]; omega))]
  | false =>
    rw [hf, if_neg (by simp)] at ht
    have hh : hasB l x = false := by
      cases hb : hasB l x with
      | false => rfl
      | true => rw [has_iff] at hb; omega
    rw [putP, if_neg (by rw [hf]; simp), addM_put hr h1 hh, put_ins rfl]
    rw [← hp]
    rcases Nat.lt_or_ge p l.length with hlt | hge
    · right
      have ha : ahead (l.getD p default) x = false := by simpa using f4 (by omega)
      have hnz : ¬ livesI (l.getD p default) x = 0 := fun hz => by
        have : foundB l x = true := by unfold foundB; rw [← hp, hz]; simp [hlt]
        rw [hf] at this; cases this
      rw [lives_z] at hnz
      rw [ahead_not] at ha
      rw [ahead_iff]; omega
    · exact .inl hge
theorem putP_1 {l : List TDot} {x : TDot} (hf : foundB l x = true) (hn : (l.getD (placeD l x) default).n < x.n) : putP l x = l.set (placeD l x) { l.getD (placeD l x) default with n := x.n } := by rw [putP, if_pos hf, if_pos hn]
theorem putP_2 {l : List TDot} {x : TDot} (hf : foundB l x = true) (hn : x.n ≤ (l.getD (placeD l x) default).n) : putP l x = l := by rw [putP, if_pos hf, if_neg (by omega)]
theorem putP_3 {l : List TDot} {x : TDot} (hf : foundB l x = false) : putP l x = l.take (placeD l x) ++ x :: l.drop (placeD l x) := by rw [putP, if_neg (by rw [hf]; simp)]
theorem placeD_le (l : List TDot) (x : TDot) : placeD l x ≤ l.length := by
  obtain ⟨h1, h2, h3, h4⟩ := firstK_le (fun i => !ahead (l.getD i default) x) l.length 0
  show firstK (fun i => !ahead (l.getD i default) x) l.length 0 ≤ l.length
  omega
theorem cells_n {l : List TDot} {k : Nat} (h : k < l.length) : (cells (l.map encDot)).getD (k * 3 + 2) V.any = .int .i64 (l.getD k default).n := by
  rw [cells_at (sz := 3) _ k 2 (dot_n l) (by simpa using h) (by decide)]
  simp [List.getD_eq_getElem?_getD, h, encDot, V.cell]
theorem putP_len (l : List TDot) (x : TDot) : (putP l x).length ≤ l.length + 1 := by
  unfold putP
  split
  · split <;> simp
  · simp; omega
theorem DW.frzRt {P : Program} {n : Nat} {Q : Exit → Env → Own → Prop} {e e' : Env} {H : Own} {v : Value} {l : List V} (h : OnA H v fun sz cs C => cs = cells l ∧ 0 < sz ∧ (∀ y ∈ l, y.n = sz) ∧ CvE v l e e' ∧ DW P n .ret Q e' (C (.tail sz v))) : DW P n .ret Q e H := DW.frzA v h
attribute [local irreducible] DW SeqD DV DOp DC DVX DVJ
section
attribute [local push_cast 2000] encDot dot_eta half_eq cells_dots cells_dot
theorem bsda0_dc (l : List TDot) (v : Value) (n : Nat) (x1 x2 x3 : Int) (F : Own) : (n = l.length ∧ rightB l = true ∧ l.length ≤ 1000000000) → DC Tryz.prog 204 [.ar v n, .agg [.int .i64 x1, .int .i64 x2, .int .i64 x3], .fn (.func 155) [] []] ([.arr 3 v (cells (l.map encDot))] ++ F) fun d G => d = .tup [.int .i64 (placeD l ⟨x1, x2, x3⟩), .bool (foundB l ⟨x1, x2, x3⟩)] ∧ G = [.arr 3 v (cells (l.map encDot))] ++ F := by
  intro hA
  obtain ⟨hn, hr, hl⟩ := hA
  refine DC.bodyS (n_ := 49) (show Tryz.prog.funcs[204]? = some Tryz.f204 by kernel_rfl) rfl rfl (by rfl) ?_
  simp only [env0, List.cons_append, List.nil_append]
  have kw := ksIs [0, 1, 2, 4, 6, 7, 8, 9, 10, 11, 17, 31]
  have ow := ownIs []
  have dw5 := drIs 5 [] [4, 5, 6]
  have dw8 := drIs 8 [] [9, 10, 11]
  subst hn
  repeat' (first
    | ((with_reducible refine DW.loopB 0 (X := Nat × Nat) (fun x => x.1 ≤ x.2 ∧ x.2 ≤ l.length ∧ (x.1 = 0 ∨ ahead (l.getD (x.1 - 1) default) ⟨x1, x2, x3⟩ = true) ∧ (x.2 = l.length ∨ ahead (l.getD x.2 default) ⟨x1, x2, x3⟩ = false)) (fun x => [(0, .ar v l.length), (2, .fn (.func 155) [] []), (4, .sp [.int .i64 x1, .int .i64 x2, .int .i64 x3]), (8, .int .i64 l.length), (9, .int .i64 x.1), (10, .int .i64 x.2)]) (fun x => .arr 3 v (cells (l.map encDot)) :: ([] : Own)) (fun x => x.2 - x.1) ((0, l.length)) ?_ ?_ ?_); exact (⟨Nat.zero_le _, Nat.le_refl _, .inl rfl, .inl rfl⟩); (simp [Sub, get, keepL] <;> fail); (try simp only [List.cons_append, List.nil_append]); refine pl_ ?_; intro ⟨i, j⟩ ⟨hij, hj, h1, h2⟩; (try simp only [List.cons_append, List.nil_append]); simp only at hij hj h1 h2)
    | refine g_ ?_
    | ((with_reducible refine And.intro ?_ ?_); (exact sv))
    | (refine DW.cond (by rfl) ?_ ?_ <;> (first | exact i0_ | (refine ic_ ?_; intro hb)))
    | ((with_reducible first | refine FVg_cases ?_ ?_ | refine FDg_cases ?_ ?_) <;> (intro hb; rw [hb]; revert hb; (first | exact i0_ | (refine i_ ?_; intro hb))))
    | refine r_ ?_
    | refine d_ ?_
    | refine k_ ?_
    | ((refine dm_ ?_); (first | (refine v_ (lives_dc _ _ _ _ _ _ _) ?_)))
    | refine vo_ ?_
    | (refine q_ (lives_dc _ _ _ _ _ _ _) ?_)
    | refine o_ ?_
    | refine f_ ?_
    | refine vm_ ?_
    | with_reducible intro b)
  all_goals first
  | (refine ⟨((i + j) / 2 + 1, j), ⟨by simp only; omega, by simp only; omega, .inr (by simpa using (lives_lt _ _).1 (by assumption)), h2⟩, by simp only; omega, by simp [Sub, get], ?_⟩; (exact sub_); done)
  | (refine ⟨(i, (i + j) / 2), ⟨by simp only; omega, by simp only; omega, h1, .inr ((lives_nlt _ _).1 (by assumption))⟩, by simp only; omega, by simp [Sub, get], ?_⟩; (exact sub_); done)
  | (obtain rfl : j = i := by omega
     have hp := bsD (x := ⟨x1, x2, x3⟩) hr hj h1 h2
     have hf : foundB l ⟨x1, x2, x3⟩ = (livesI (l.getD j default) ⟨x1, x2, x3⟩ == 0) := by rw [foundB, hp, decide_eq_true (by omega), Bool.true_and]
     rw [hp, hf]; (first | exact fin_ | refine finq_ ?_); done)
  | (obtain rfl : j = i := by omega
     have hp := bsD (x := ⟨x1, x2, x3⟩) hr hj h1 h2
     have hf : foundB l ⟨x1, x2, x3⟩ = false := by rw [foundB, hp, decide_eq_false (by omega), Bool.false_and]
     rw [hp, hf]; (first | exact fin_ | refine finq_ ?_); done)
end
theorem bsda_dc (l : List TDot) (v : Value) (n : Nat) (x1 x2 x3 : Int) (F : Own) : (n = l.length ∧ rightB l = true ∧ l.length ≤ 1000000000) → DC Tryz.prog 204 [.ar v n, .agg [.int .i64 x1, .int .i64 x2, .int .i64 x3], .fn (.func 155) [] []] ([.arr 3 v (cells (l.map encDot))] ++ F) fun d G => (foundB l ⟨x1, x2, x3⟩ = true ∧ placeD l ⟨x1, x2, x3⟩ < l.length ∧ d = .tup [.int .i64 (placeD l ⟨x1, x2, x3⟩), .bool true] ∨ foundB l ⟨x1, x2, x3⟩ = false ∧ d = .tup [.int .i64 (placeD l ⟨x1, x2, x3⟩), .bool false]) ∧ G = [.arr 3 v (cells (l.map encDot))] ++ F := fun h =>
  (bsda0_dc l v n x1 x2 x3 F h).mono fun d G ⟨h1, h2⟩ => ⟨by
    cases hf : foundB l ⟨x1, x2, x3⟩ with
    | true => rw [hf] at h1; exact .inl ⟨rfl, found_lt hf, h1⟩
    | false => rw [hf] at h1; exact .inr ⟨rfl, h1⟩, h2⟩
theorem sv_put_dc {p : Prop} (h : p := by first | exact sv | exact ⟨rfl, placeD_le _ _, hl⟩ | fail) : p := h
section
attribute [local push_cast 2000] encDot dot_eta cells_dots cells_dot cells_setn cells_n
theorem put_dc (l : List TDot) (v : Value) (n : Nat) (x1 x2 x3 : Int) (F : Own) : (n = l.length ∧ rightB l = true ∧ l.length ≤ 1000000000) → DC Tryz.prog 176 [.ar v n, .agg [.int .i64 x1, .int .i64 x2, .int .i64 x3]] ([.arr 3 v (cells (l.map encDot))] ++ F) fun d G => ∃ v2, d = .ar v2 (putP l ⟨x1, x2, x3⟩).length ∧ G = .arr 3 v2 (cells ((putP l ⟨x1, x2, x3⟩).map encDot)) :: F := by
  intro hA
  obtain ⟨hn, hr, hl⟩ := hA
  refine DC.bodyS (n_ := 37) (show Tryz.prog.funcs[176]? = some Tryz.f176 by kernel_rfl) rfl rfl (by rfl) ?_
  simp only [env0, List.cons_append, List.nil_append]
  have kw := ksIs [0, 1, 3, 4, 5, 6, 13, 21]
  have ow := ownIs [19]
  have dw4 := drIs 4 [] [4, 6]
  subst hn
  repeat' (first
    | refine g_ ?_
    | ((with_reducible refine And.intro ?_ ?_); (exact sv_put_dc))
    | (refine DW.cond (by rfl) ?_ ?_ <;> (first | exact i0_ | (refine ic_ ?_; intro hb)))
    | ((with_reducible first | refine FVg_cases ?_ ?_ | refine FDg_cases ?_ ?_) <;> (intro hb; rw [hb]; revert hb; (first | exact i0_ | (refine i_ ?_; intro hb))))
    | refine r_ ?_
    | refine d_ ?_
    | refine k_ ?_
    | refine vo_ ?_
    | ((first | (refine DOp.lista_ [19] rfl rfl ?_) | (refine DOp.makea_ [19] rfl rfl rfl rfl ?_)) <;> (refine s_ ?_))
    | (refine p_ (bsda_dc _ _ _ _ _ _ _) ?_ (ha := by exact sv_put_dc); rintro d H1 ⟨⟨hf, hpl, rfl⟩ | ⟨hf, rfl⟩, rfl⟩ <;> refine s_ ?_)
    | (refine p_ (insd_dc _ _ _ _ _ _ _ _ _) ?_ (ha := by exact sv_put_dc); rintro d H1 ⟨v2, rfl, rfl⟩ <;> refine s_ ?_)
    | refine o_ ?_
    | refine f_ ?_
    | refine vm_ ?_
    | with_reducible intro b)
  all_goals first
  | (have e : putP l ⟨x1, x2, x3⟩ = _ := putP_1 hf hb
     refine ⟨_, _, ?_, ⟨?_, rfl, rfl⟩, ?_⟩; rotate_left 2; (rw [e]); (exact sub_); (rw [e]); (first | exact le.rfl_ | exact le.of_eq (congrArg (V.ar _) (by simp; try omega))); done)
  | (have e : putP l ⟨x1, x2, x3⟩ = _ := putP_2 hf hb
     refine ⟨_, _, ?_, ⟨?_, rfl, rfl⟩, ?_⟩; rotate_left 2; (rw [e]); (exact sub_); (rw [e]); (first | exact le.rfl_ | exact le.of_eq (congrArg (V.ar _) (by simp; try omega))); done)
  | (have e : putP l ⟨x1, x2, x3⟩ = _ := putP_3 hf
     refine ⟨_, _, ?_, ⟨?_, rfl, rfl⟩, ?_⟩; rotate_left 2; (rw [e]); (exact sub_); (rw [e]); (first | exact le.rfl_ | exact le.of_eq (congrArg (V.ar _) (by simp; try omega))); done)
end
section
attribute [local push_cast 2000] encDot dot_eta
theorem padd_dc (l : List TDot) (x1 x2 x3 : Int) (F : Own) : (l.length ≤ 1000000000) → DC Tryz.prog 138 [.sl (l.map encDot), .agg [.int .i64 x1, .int .i64 x2, .int .i64 x3]] (([] : Own) ++ F) fun d G => d = .sl ((addM l ⟨x1, x2, x3⟩).map encDot) ∧ G = [] ++ F := by
  intro hA
  have hl := hA
  refine DC.bodyS (n_ := 17) (show Tryz.prog.funcs[138]? = some Tryz.f138 by kernel_rfl) rfl rfl (by rfl) ?_
  simp only [env0, List.cons_append, List.nil_append]
  have kw := ksIs [0, 1, 3, 4, 7, 12]
  have ow := ownIs []
  repeat' (first
    | ((with_reducible apply DW.frzRt); (repeat (with_reducible first | refine OnA.here ?_ | refine OnA.next ?_)); refine ⟨rfl, by decide, (by intro y hy; obtain ⟨x, _, rfl⟩ := List.mem_map.1 hy; rfl), ?_, ?_⟩; (repeat (first | exact CvE.nil | apply CvE.cons (Cv.hit _) | apply CvE.cons (Cv.rfl _))))
    | refine g_ ?_
    | ((with_reducible refine And.intro ?_ ?_); (exact sv))
    | (refine DW.cond (by rfl) ?_ ?_ <;> (first | exact i0_ | (refine ic_ ?_; intro hb)))
    | ((with_reducible refine FVg_cases ?_ ?_) <;> (intro hb; rw [hb]; revert hb; (first | exact i0_ | (refine i_ ?_; intro hb))))
    | refine r_ ?_
    | refine k_ ?_
    | (refine q_ (pright_dc _ _) ?_)
    | (refine p_ (clod_dc _ _) ?_; rintro d H1 ⟨v1, rfl, rfl⟩ <;> refine s_ ?_)
    | (refine q_ (may_dc _ _ _ _) ?_)
    | (refine p_ (put_dc _ _ _ _ _ _ _) ?_; rintro d H1 ⟨v2, rfl, rfl⟩ <;> refine s_ ?_)
    | refine o_ ?_
    | refine f_ ?_
    | with_reducible intro b)
  all_goals first
  | (have e : addM l ⟨x1, x2, x3⟩ = _ := addM_no hb
     rw [e]; (first | exact fin_ | refine finq_ ?_); done)
  | (have hr : rightB l = true := by assumption
     have e : addM l ⟨x1, x2, x3⟩ = _ := addM_old hr (.inl hb)
     rw [e]; (first | exact fin_ | refine finq_ ?_); done)
  | (have hr : rightB l = true := by assumption
     have e := put_add hr hb
     rw [← e]; (first | exact fin_ | refine finq_ ?_); done)
end
end Go.Proofs.YtfamfamgopchnaaGreatDoor
/- The next deed. -/
namespace Go.Proofs.YtfamfamgopchnaaGreatDoor
open Go.RowKit
set_option linter.unusedSimpArgs false
set_option linter.unusedVariables false
set_option linter.unusedSectionVars false
set_option maxHeartbeats 4000000
set_option maxRecDepth 100000


theorem DW.frzO2 {P : Program} {n : Nat} {Q : Exit → Env → Own → Prop} {e e' : Env} {H H' : Own} (id : Nat) {ops : Array Oper} {d : Bool} (v : Value) {l : List V} (h : OnA H v fun sz cs C => cs = cells l ∧ 0 < sz ∧ (∀ y ∈ l, y.n = sz) ∧ CvE v l e e' ∧ CvO v l (C (.tail sz v)) H' ∧ DW P n (.region id ops d) Q e' H') : DW P n (.region id ops d) Q e H := by
  obtain ⟨sz, cs, L1, L2, h0, h1, h2, h3, h4, h5, h6⟩ := h
  exact DW.frzOR id v ⟨sz, cs, L1, L2, h0, h1, h2, h3, h4, H', h5, h6⟩
attribute [local irreducible] DW SeqD DV DOp DC DVX DVJ
theorem sv_next_dc {p : Prop} (h : p := by first | exact sv | exact hL | fail) : p := h
theorem next_dc (se : List TDot) (fe : List TFence) (ro : List TRoute) (ce : List TCell) (node epoch : Int) (F : Own) : ((se.length ≤ 1000000000 ∧ fe.length ≤ 1000000000 ∧ ro.length ≤ 1000000000 ∧ ce.length ≤ 1000000000 ∧ ∀ k, k < ce.length → (ce.getD k default).payload.length ≤ 1000000000) ∧ -1000000000000 ≤ topM se node epoch ∧ topM se node epoch ≤ 1000000000000) → DC Tryz.prog 71 [.agg [.sl (se.map encDot), .sl (fe.map encFence), .sl (ro.map encRoute), .sl (ce.map encCell)], .int .i64 node, .int .i64 epoch] (([] : Own) ++ F) fun d G => ∃ v2 v3 v4, d = .tup [.agg [.sl ((addM se ⟨node, epoch, topM se node epoch + 1⟩).map encDot), .ar v2 fe.length, .ar v3 ro.length, .gs v4 (ce.map encCell)], .agg [.int .i64 node, .int .i64 epoch, .int .i64 (topM se node epoch + 1)]] ∧ G = .arr 2 v2 (cells (fe.map encFence)) :: .arr 4 v3 (cells (ro.map encRoute)) :: F := by
  intro hA
  obtain ⟨hL, ht1, ht2⟩ := hA
  refine DC.bodyS (n_ := 27) (show Tryz.prog.funcs[71]? = some Tryz.f71 by kernel_rfl) rfl rfl (by rfl) ?_
  simp only [env0, List.cons_append, List.nil_append]
  have kw := ksIs [0, 1, 2, 3, 6, 7, 8]
  have ow := ownIs [3]
  have dw4 := drIs 4 [2, 3] [0]
  have rw_ := rsIs [.cell 6 35, .cell 7 48]
  have hs := hL.1
  repeat' (first
    | ((with_reducible apply DW.frzO2 2 v1); (repeat (with_reducible first | refine OnA.here ?_ | refine OnA.next ?_)); refine ⟨rfl, by decide, (by intro y hy; obtain ⟨x, _, rfl⟩ := List.mem_map.1 hy; rfl), ?_, ?_, ?_⟩; (focus (repeat (first | exact CvE.nil | apply CvE.cons (Cv.hit _) | apply CvE.cons (Cv.rfl _)))); (focus ((repeat (first | apply CvO.blk _ (by repeat (first | exact CvL.nil | apply CvL.cons (Cv.hit _) | apply CvL.cons (Cv.rfl _))) | apply CvO.keep | exact CvO.rfl_ _ _ _)))))
    | ((with_reducible apply DW.frzO2 2 v4); (repeat (with_reducible first | refine OnA.here ?_ | refine OnA.next ?_)); refine ⟨rfl, by decide, (by intro y hy; obtain ⟨x, _, rfl⟩ := List.mem_map.1 hy; rfl), ?_, ?_, ?_⟩; (focus (repeat (first | exact CvE.nil | apply CvE.cons (Cv.hit _) | apply CvE.cons (Cv.rfl _)))); (focus ((repeat (first | apply CvO.blk _ (by repeat (first | exact CvL.nil | apply CvL.cons (Cv.hit _) | apply CvL.cons (Cv.rfl _))) | apply CvO.keep | exact CvO.rfl_ _ _ _)))))
    | ((with_reducible apply DW.frzB 4 8); (focus (exact rfl)); (repeat (with_reducible first | refine Out.here ?_ | refine Out.next ?_)); simp only [put_cons, put_nil, Nat.reduceEqDiff, ↓reduceIte, if_true, if_false, reduceCtorEq])
    | refine g_ ?_
    | ((with_reducible refine And.intro ?_ ?_); (exact sv_next_dc))
    | (refine DW.cond (by rfl) ?_ ?_ <;> (first | exact i0_ | (refine ic_ ?_; intro hb)))
    | ((with_reducible first | refine FVg_cases ?_ ?_ | refine FDg_cases ?_ ?_) <;> (intro hb; rw [hb]; revert hb; (first | exact i0_ | (refine i_ ?_; intro hb))))
    | refine r_ ?_
    | refine d_ ?_
    | refine k_ ?_
    | ((refine dm_ ?_); (first | (refine v_ (ptop_dc _ _ _ _) ?_ (ha := by exact sv_next_dc)) | (refine v_ (padd_dc _ _ _ _ _) ?_ (ha := by exact sv_next_dc))))
    | refine vo_ ?_
    | (refine p_ (copy_dc _ _ _ _ _) ?_ (ha := by exact sv_next_dc); rintro d H1 ⟨v1, v2, v3, v4, rfl, rfl⟩ <;> refine s_ ?_)
    | (refine q_ (ptop_dc _ _ _ _) ?_ (ha := by exact sv_next_dc))
    | (refine q_ (padd_dc _ _ _ _ _) ?_ (ha := by exact sv_next_dc))
    | refine o_ ?_
    | refine f_ ?_
    | refine vm_ ?_
    | ((fail_if_success (have zz := b1)); with_reducible intro b1)
    | ((fail_if_success (have zz := b2)); with_reducible intro b2)
    | ((fail_if_success (have zz := b3)); with_reducible intro b3)
    | with_reducible intro b)
  all_goals first
  | (refine ⟨_, _, le.rfl_, ⟨_, _, _, rfl, rfl⟩, ?_⟩; (exact sub_); done)
end Go.Proofs.YtfamfamgopchnaaGreatDoor
/- Which routes are one's own, which epochs are fenced. -/
namespace Go.Proofs.YtfamfamgopchnaaGreatDoor
open Go.RowKit
set_option linter.unusedSimpArgs false
set_option linter.unusedVariables false
set_option linter.unusedSectionVars false
set_option maxHeartbeats 4000000
set_option maxRecDepth 100000


theorem encRoute_eta (x : TRoute) : (⟨⟨x.dot.node, x.dot.epoch, x.dot.n⟩, x.filter⟩ : TRoute) = x := rfl
theorem encFence_eta (x : TFence) : (⟨x.node, x.epoch⟩ : TFence) = x := rfl
theorem cells_encr (l : List TRoute) : (cells (l.map encRoute)).length = l.length * 4 := len_all (s := 4) (fun _ => rfl) l
theorem part_at {T : Type} [Inhabited T] {enc : T → V} {s : Nat} (hs : ∀ x, (enc x).cs.length = s) : ∀ (l : List T) (k : Nat), k < l.length → List.take s (List.drop (k * s) (cells (l.map enc))) = (enc (l.getD k default)).cs
  | [], k, h => absurd h (Nat.not_lt_zero _)
  | x :: l, 0, _ => by rw [Nat.zero_mul, List.drop_zero, List.map_cons, cells_cons, ← hs x, List.take_left']; rfl; rfl
  | x :: l, k + 1, h => by
    rw [List.map_cons, cells_cons, show (k + 1) * s = (enc x).cs.length + k * s by rw [hs, Nat.succ_mul]; omega, List.drop_append, List.drop_of_length_le (by omega), Nat.add_sub_cancel_left, List.nil_append, part_at hs l k (by simpa using h)]
    rfl
theorem cells_encRoute {l : List TRoute} {k : Nat} (h : k < l.length) : List.take 4 (List.drop (k * 4) (cells (l.map encRoute))) = [.int .i64 (l.getD k default).dot.node, .int .i64 (l.getD k default).dot.epoch, .int .i64 (l.getD k default).dot.n, .str (l.getD k default).filter] := part_at (s := 4) (fun _ => rfl) l k h
theorem cells_encFence {l : List TFence} {k : Nat} (h : k < l.length) : List.take 2 (List.drop (k * 2) (cells (l.map encFence))) = [.int .i64 (l.getD k default).node, .int .i64 (l.getD k default).epoch] := part_at (s := 2) (fun _ => rfl) l k h
attribute [local irreducible] DW SeqD DV DOp DC DVX DVJ
theorem own_dc (a b c : Int) (fl : Str) (node epoch : Int) (f : Str) (F : Own) : (True) → DC Tryz.prog 74 [.agg [.int .i64 a, .int .i64 b, .int .i64 c, .str fl], .int .i64 node, .int .i64 epoch, .str f] (([] : Own) ++ F) fun d G => d = .bool (ownB ⟨⟨a, b, c⟩, fl⟩ node epoch f) ∧ G = [] ++ F := by
  intro hA
  refine DC.bodyS (n_ := 27) (show Tryz.prog.funcs[74]? = some Tryz.f74 by kernel_rfl) rfl rfl (by rfl) ?_
  simp only [env0, List.cons_append, List.nil_append]
  have kw := ksIs [0, 1, 2, 3, 4, 8]
  have ow := ownIs []
  repeat' (first
    | refine g_ ?_
    | ((with_reducible refine And.intro ?_ ?_); (exact sv))
    | (refine DW.cond (by rfl) ?_ ?_ <;> (first | exact i0_ | (refine ic_ ?_; intro hb)))
    | ((with_reducible refine FVg_cases ?_ ?_) <;> (intro hb; rw [hb]; revert hb; (first | exact i0_ | (refine i_ ?_; intro hb))))
    | refine r_ ?_
    | refine k_ ?_
    | refine o_ ?_
    | refine f_ ?_
    | with_reducible intro b)
  all_goals
    refine ⟨_, _, le.of_eq ?_, ⟨rfl, rfl⟩, SubP.refl⟩
    unfold ownB
    simp_all
theorem ownA_dc (node epoch : Int) (f : Str) (a b c : Int) (fl : Str) (F : Own) : (True) → DC Tryz.prog 73 [.agg [.int .i64 a, .int .i64 b, .int .i64 c, .str fl], .sp [.int .i64 node], .sp [.int .i64 epoch], .sp [.str f]] (([] : Own) ++ F) fun d G => d = .bool (ownB ⟨⟨a, b, c⟩, fl⟩ node epoch f) ∧ G = [] ++ F := by
  intro hA
  refine DC.bodyS (n_ := 11) (show Tryz.prog.funcs[73]? = some Tryz.f73 by kernel_rfl) rfl rfl (by rfl) ?_
  simp only [env0, List.cons_append, List.nil_append]
  have kw := ksIs [0, 1, 2, 3, 4, 5]
  have ow := ownIs []
  repeat' (first
    | refine g_ ?_
    | ((with_reducible refine And.intro ?_ ?_); (exact sv))
    | (refine DW.cond (by rfl) ?_ ?_ <;> (first | exact i0_ | (refine ic_ ?_; intro hb)))
    | ((with_reducible refine FVg_cases ?_ ?_) <;> (intro hb; rw [hb]; revert hb; (first | exact i0_ | (refine i_ ?_; intro hb))))
    | refine r_ ?_
    | refine k_ ?_
    | (refine q_ (own_dc _ _ _ _ _ _ _ _) ?_)
    | refine o_ ?_
    | refine f_ ?_
    | with_reducible intro b)
  (first | exact fin_ | refine finq_ ?_)
  all_goals rfl
theorem ownD_dc (node epoch : Int) (f : Str) (a b c : Int) (fl : Str) (F : Own) : (True) → DC Tryz.prog 76 [.agg [.int .i64 a, .int .i64 b, .int .i64 c, .str fl], .sp [.int .i64 node], .sp [.int .i64 epoch], .sp [.str f]] (([] : Own) ++ F) fun d G => d = .bool (ownB ⟨⟨a, b, c⟩, fl⟩ node epoch f) ∧ G = [] ++ F := by
  intro hA
  refine DC.bodyS (n_ := 11) (show Tryz.prog.funcs[76]? = some Tryz.f76 by kernel_rfl) rfl rfl (by rfl) ?_
  simp only [env0, List.cons_append, List.nil_append]
  have kw := ksIs [0, 1, 2, 3, 4, 5]
  have ow := ownIs []
  repeat' (first
    | refine g_ ?_
    | ((with_reducible refine And.intro ?_ ?_); (exact sv))
    | (refine DW.cond (by rfl) ?_ ?_ <;> (first | exact i0_ | (refine ic_ ?_; intro hb)))
    | ((with_reducible refine FVg_cases ?_ ?_) <;> (intro hb; rw [hb]; revert hb; (first | exact i0_ | (refine i_ ?_; intro hb))))
    | refine r_ ?_
    | refine k_ ?_
    | (refine q_ (own_dc _ _ _ _ _ _ _ _) ?_)
    | refine o_ ?_
    | refine f_ ?_
    | with_reducible intro b)
  (first | exact fin_ | refine finq_ ?_)
  all_goals rfl
section
attribute [local push_cast 2000] encRoute encRoute_eta cells_encr cells_encRoute
theorem idxr_dc (l : List TRoute) (g : FuncId) (c1 c2 c3 : V) (p : TRoute → Bool) (F : Own) : ((∀ (a b c : Int) (fl : Str) (F : Own), True → DC Tryz.prog g [.agg [.int .i64 a, .int .i64 b, .int .i64 c, .str fl], c1, c2, c3] (([] : Own) ++ F) fun d G => d = .bool (p ⟨⟨a, b, c⟩, fl⟩) ∧ G = [] ++ F) ∧ l.length ≤ 1000000000) → DC Tryz.prog 139 [.sl (l.map encRoute), .fn (.func g) [] [c1, c2, c3]] (([] : Own) ++ F) fun d G => ((∀ q, q < l.length → p (l.getD q default) = false) ∧ d = .int .i64 (-1) ∨ ∃ k : Nat, (k < l.length ∧ p (l.getD k default) = true ∧ ∀ q, q < k → p (l.getD q default) = false) ∧ d = .int .i64 k) ∧ G = [] ++ F := by
  intro hA
  obtain ⟨hcl, hl⟩ := hA
  refine DC.bodyS (n_ := 19) (show Tryz.prog.funcs[139]? = some Tryz.f139 by kernel_rfl) rfl rfl (by rfl) ?_
  simp only [env0, List.cons_append, List.nil_append]
  have kw := ksIs [0, 1, 4, 5, 7, 8, 9, 16]
  have ow := ownIs []
  repeat' (first
    | ((with_reducible refine DW.loopB 0 (X := Nat) (fun x => x ≤ l.length ∧ ∀ q, q < x → p (l.getD q default) = false) (fun x => [(0, .sl (l.map encRoute)), (1, .fn (.func g) [] [c1, c2, c3]), (7, .int .i64 l.length), (8, .int .i64 x)]) (fun x => ([] : Own)) (fun x => l.length - x) (0) ?_ ?_ ?_); exact (⟨Nat.zero_le _, fun q h => absurd h (Nat.not_lt_zero _)⟩); (simp [Sub, get, keepL] <;> fail); (try simp only [List.cons_append, List.nil_append]); refine pl_ ?_; intro k ⟨hk, ha⟩; (try simp only [List.cons_append, List.nil_append]))
    | refine g_ ?_
    | ((with_reducible refine And.intro ?_ ?_); (exact sv))
    | (refine DW.cond (by rfl) ?_ ?_ <;> (first | exact i0_ | (refine ic_ ?_; intro hb)))
    | ((with_reducible refine FVg_cases ?_ ?_) <;> (intro hb; rw [hb]; revert hb; (first | exact i0_ | (refine i_ ?_; intro hb))))
    | refine r_ ?_
    | refine k_ ?_
    | (refine q_ (hcl _ _ _ _ _) ?_)
    | refine o_ ?_
    | refine f_ ?_
    | with_reducible intro b)
  all_goals first
  | (refine ⟨_, _, le.rfl_, ⟨.inr ⟨k, ⟨by omega, hb, ha⟩, rfl⟩, rfl⟩, ?_⟩; (exact sub_); done)
  | (refine ⟨k + 1, ⟨by omega, fun q hq => ?_⟩, by omega, by simp [Sub, get], ?_⟩; (by_cases hqk : q = k; (subst hqk; exact hb); exact ha q (by omega)); (exact sub_); done)
  | (refine ⟨_, _, le.rfl_, ⟨.inl ⟨fun q hq => ha q (by omega), rfl⟩, rfl⟩, ?_⟩; (exact sub_); done)
end
section
attribute [local push_cast 2000] encRoute encRoute_eta cells_encr cells_encRoute
theorem idxra_dc (l : List TRoute) (g : FuncId) (v : Value) (n : Nat) (c1 c2 c3 : V) (p : TRoute → Bool) (F : Own) : ((∀ (a b c : Int) (fl : Str) (F : Own), True → DC Tryz.prog g [.agg [.int .i64 a, .int .i64 b, .int .i64 c, .str fl], c1, c2, c3] (([] : Own) ++ F) fun d G => d = .bool (p ⟨⟨a, b, c⟩, fl⟩) ∧ G = [] ++ F) ∧ n = l.length ∧ l.length ≤ 1000000000) → DC Tryz.prog 139 [.ar v n, .fn (.func g) [] [c1, c2, c3]] ([.arr 4 v (cells (l.map encRoute))] ++ F) fun d G => ((∀ q, q < l.length → p (l.getD q default) = false) ∧ d = .int .i64 (-1) ∨ ∃ k : Nat, (k < l.length ∧ p (l.getD k default) = true ∧ ∀ q, q < k → p (l.getD q default) = false) ∧ d = .int .i64 k) ∧ G = [.arr 4 v (cells (l.map encRoute))] ++ F := by
  intro hA
  obtain ⟨hcl, hn, hl⟩ := hA
  refine DC.bodyS (n_ := 19) (show Tryz.prog.funcs[139]? = some Tryz.f139 by kernel_rfl) rfl rfl (by rfl) ?_
  simp only [env0, List.cons_append, List.nil_append]
  have kw := ksIs [0, 1, 4, 5, 7, 8, 9, 16]
  have ow := ownIs []
  subst hn
  repeat' (first
    | ((with_reducible refine DW.loopB 0 (X := Nat) (fun x => x ≤ l.length ∧ ∀ q, q < x → p (l.getD q default) = false) (fun x => [(0, .ar v l.length), (1, .fn (.func g) [] [c1, c2, c3]), (7, .int .i64 l.length), (8, .int .i64 x)]) (fun x => .arr 4 v (cells (l.map encRoute)) :: ([] : Own)) (fun x => l.length - x) (0) ?_ ?_ ?_); exact (⟨Nat.zero_le _, fun q h => absurd h (Nat.not_lt_zero _)⟩); (simp [Sub, get, keepL] <;> fail); (try simp only [List.cons_append, List.nil_append]); refine pl_ ?_; intro k ⟨hk, ha⟩; (try simp only [List.cons_append, List.nil_append]))
    | refine g_ ?_
    | ((with_reducible refine And.intro ?_ ?_); (exact sv))
    | (refine DW.cond (by rfl) ?_ ?_ <;> (first | exact i0_ | (refine ic_ ?_; intro hb)))
    | ((with_reducible refine FVg_cases ?_ ?_) <;> (intro hb; rw [hb]; revert hb; (first | exact i0_ | (refine i_ ?_; intro hb))))
    | refine r_ ?_
    | refine k_ ?_
    | (refine q_ (hcl _ _ _ _ _) ?_)
    | refine o_ ?_
    | refine f_ ?_
    | with_reducible intro b)
  all_goals first
  | (refine ⟨_, _, le.rfl_, ⟨.inr ⟨k, ⟨by omega, hb, ha⟩, rfl⟩, rfl⟩, ?_⟩; (exact sub_); done)
  | (refine ⟨k + 1, ⟨by omega, fun q hq => ?_⟩, by omega, by simp [Sub, get], ?_⟩; (by_cases hqk : q = k; (subst hqk; exact hb); exact ha q (by omega)); (exact sub_); done)
  | (refine ⟨_, _, le.rfl_, ⟨.inl ⟨fun q hq => ha q (by omega), rfl⟩, rfl⟩, ?_⟩; (exact sub_); done)
end
section
attribute [local push_cast 2000] encFence encFence_eta cells_encf cells_encFence
theorem idxf_dc (l : List TFence) (g : FuncId) (c1 c2 : V) (p : TFence → Bool) (F : Own) : ((∀ (a b : Int) (F : Own), True → DC Tryz.prog g [.agg [.int .i64 a, .int .i64 b], c1, c2] (([] : Own) ++ F) fun d G => d = .bool (p ⟨a, b⟩) ∧ G = [] ++ F) ∧ l.length ≤ 1000000000) → DC Tryz.prog 145 [.sl (l.map encFence), .fn (.func g) [] [c1, c2]] (([] : Own) ++ F) fun d G => ((∀ q, q < l.length → p (l.getD q default) = false) ∧ d = .int .i64 (-1) ∨ ∃ k : Nat, (k < l.length ∧ p (l.getD k default) = true ∧ ∀ q, q < k → p (l.getD q default) = false) ∧ d = .int .i64 k) ∧ G = [] ++ F := by
  intro hA
  obtain ⟨hcl, hl⟩ := hA
  refine DC.bodyS (n_ := 19) (show Tryz.prog.funcs[145]? = some Tryz.f145 by kernel_rfl) rfl rfl (by rfl) ?_
  simp only [env0, List.cons_append, List.nil_append]
  have kw := ksIs [0, 1, 4, 5, 7, 8, 9, 16]
  have ow := ownIs []
  repeat' (first
    | ((with_reducible refine DW.loopB 0 (X := Nat) (fun x => x ≤ l.length ∧ ∀ q, q < x → p (l.getD q default) = false) (fun x => [(0, .sl (l.map encFence)), (1, .fn (.func g) [] [c1, c2]), (7, .int .i64 l.length), (8, .int .i64 x)]) (fun x => ([] : Own)) (fun x => l.length - x) (0) ?_ ?_ ?_); exact (⟨Nat.zero_le _, fun q h => absurd h (Nat.not_lt_zero _)⟩); (simp [Sub, get, keepL] <;> fail); (try simp only [List.cons_append, List.nil_append]); refine pl_ ?_; intro k ⟨hk, ha⟩; (try simp only [List.cons_append, List.nil_append]))
    | refine g_ ?_
    | ((with_reducible refine And.intro ?_ ?_); (exact sv))
    | (refine DW.cond (by rfl) ?_ ?_ <;> (first | exact i0_ | (refine ic_ ?_; intro hb)))
    | ((with_reducible refine FVg_cases ?_ ?_) <;> (intro hb; rw [hb]; revert hb; (first | exact i0_ | (refine i_ ?_; intro hb))))
    | refine r_ ?_
    | refine k_ ?_
    | (refine q_ (hcl _ _ _) ?_)
    | refine o_ ?_
    | refine f_ ?_
    | with_reducible intro b)
  all_goals first
  | (refine ⟨_, _, le.rfl_, ⟨.inr ⟨k, ⟨by omega, hb, ha⟩, rfl⟩, rfl⟩, ?_⟩; (exact sub_); done)
  | (refine ⟨k + 1, ⟨by omega, fun q hq => ?_⟩, by omega, by simp [Sub, get], ?_⟩; (by_cases hqk : q = k; (subst hqk; exact hb); exact ha q (by omega)); (exact sub_); done)
  | (refine ⟨_, _, le.rfl_, ⟨.inl ⟨fun q hq => ha q (by omega), rfl⟩, rfl⟩, ?_⟩; (exact sub_); done)
end
end Go.Proofs.YtfamfamgopchnaaGreatDoor
