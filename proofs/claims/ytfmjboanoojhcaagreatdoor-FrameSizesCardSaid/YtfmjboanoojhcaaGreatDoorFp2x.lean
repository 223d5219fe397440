/- Deeds, tables laid down. -/
import Derived.Test.YtfmjboanoojhcaaGreatDoorFp1x
import Derived.Test.YtfmjboanoojhcaaGreatDoorFrx
import Derived.KernelRfl
namespace Go.Proofs.YtfmjboanoojhcaaGreatDoor
open Go.RowKit
set_option linter.unusedSimpArgs false
set_option linter.unusedVariables false
set_option linter.unusedSectionVars false
set_option maxHeartbeats 4000000
set_option maxRecDepth 100000


theorem textBy_is {t : Str} (h : t.length ≤ 1000000000000) : textBy t = leK 8 t.length ++ t := by unfold textBy; rw [numsL_1 _ ⟨by omega, by omega⟩]
theorem numbersJ1_dc (v : Value) (l : List UInt8) (x0 : Int) (F : Own) : (l.length ≤ 999999999000) → DC Tryz.prog 51 [.gs v (l.map u8), .sl [.int .i64 x0]] ([.tail 1 v] ++ F) fun d G => ∃ v1, d = .gs v1 ((l ++ numsL [x0]).map u8) ∧ G = .tail 1 v1 :: F := fun h => numbers_dc v l [x0] F ⟨h, by simp⟩
theorem numbersJ2_dc (v : Value) (l : List UInt8) (x0 x1 : Int) (F : Own) : (l.length ≤ 999999999000) → DC Tryz.prog 51 [.gs v (l.map u8), .sl [.int .i64 x0, .int .i64 x1]] ([.tail 1 v] ++ F) fun d G => ∃ v1, d = .gs v1 ((l ++ numsL [x0, x1]).map u8) ∧ G = .tail 1 v1 :: F := fun h => numbers_dc v l [x0, x1] F ⟨h, by simp⟩
theorem numbersJ3_dc (v : Value) (l : List UInt8) (x0 x1 x2 : Int) (F : Own) : (l.length ≤ 999999999000) → DC Tryz.prog 51 [.gs v (l.map u8), .sl [.int .i64 x0, .int .i64 x1, .int .i64 x2]] ([.tail 1 v] ++ F) fun d G => ∃ v1, d = .gs v1 ((l ++ numsL [x0, x1, x2]).map u8) ∧ G = .tail 1 v1 :: F := fun h => numbers_dc v l [x0, x1, x2] F ⟨h, by simp⟩
theorem numbersJ6_dc (v : Value) (l : List UInt8) (x0 x1 x2 x3 x4 x5 : Int) (F : Own) : (l.length ≤ 999999999000) → DC Tryz.prog 51 [.gs v (l.map u8), .sl [.int .i64 x0, .int .i64 x1, .int .i64 x2, .int .i64 x3, .int .i64 x4, .int .i64 x5]] ([.tail 1 v] ++ F) fun d G => ∃ v1, d = .gs v1 ((l ++ numsL [x0, x1, x2, x3, x4, x5]).map u8) ∧ G = .tail 1 v1 :: F := fun h => numbers_dc v l [x0, x1, x2, x3, x4, x5] F ⟨h, by simp⟩
theorem textJ_dc (v : Value) (l t : List UInt8) (F : Own) : (l.length ≤ 999999999000 ∧ t.length ≤ 1000000000000) → DC Tryz.prog 55 [.gs v (l.map u8), .str t] ([.tail 1 v] ++ F) fun d G => ∃ v1, d = .gs v1 ((l ++ textBy t).map u8) ∧ G = .tail 1 v1 :: F := fun h => by
  rw [textBy_is h.2]; exact text_dc v l t F h
theorem dotsBy_is (ds : List TDot) : numsL [(ds.length : Int)] ++ flatBy dotBy ds = dotsBy ds := rfl
theorem flatBy_0 {α : Type} (f : α → Str) : flatBy f [] = [] := rfl
attribute [local irreducible] DW SeqD DV DOp DC DVX DVJ numsL textBy flatBy dotsBy
theorem sv_plines_dc {p : Prop} (h : p := by first | exact sv | (simp only [List.length_append, leK_len, numsL_len, textBy_len, dotsBy_len, List.length_cons, List.length_nil]; omega) | (refine ⟨?_, ?_⟩ <;> first | omega | (simp only [List.length_append, leK_len, numsL_len, textBy_len, dotsBy_len, List.length_cons, List.length_nil]; omega)) | (refine ⟨?_, ?_, ?_⟩ <;> first | omega | (simp only [List.length_append, leK_len, numsL_len, textBy_len, dotsBy_len, List.length_cons, List.length_nil]; omega)) | fail) : p := h
section
attribute [local push_cast 2000] encDot
theorem plines_dc (v : Value) (l : List UInt8) (ds : List TDot) (F : Own) : (l.length ≤ 1000000000 ∧ ds.length ≤ 1000000) → DC Tryz.prog 53 [.gs v (l.map u8), .sl (ds.map encDot)] ([.tail 1 v] ++ F) fun d G => ∃ v1, d = .gs v1 ((l ++ dotsBy ds).map u8) ∧ G = .tail 1 v1 :: F := by
  intro hA
  obtain ⟨hl, hd⟩ := hA
  refine DC.bodyS (n_ := 29) (show Tryz.prog.funcs[53]? = some Tryz.f53 by kernel_rfl) rfl rfl (by rfl) ?_
  simp only [env0, List.cons_append, List.nil_append]
  have kw := ksIs [0, 1, 4, 6, 12, 13, 14, 15]
  have ow := ownIs []
  repeat' (first
    | ((with_reducible apply DW.frzB 5 6); (focus (exact rfl)); (repeat (with_reducible first | refine Out.here ?_ | refine Out.next ?_)); simp only [put_cons, put_nil, Nat.reduceEqDiff, ↓reduceIte, if_true, if_false, reduceCtorEq])
    | ((with_reducible refine DW.loopB 0 (X := Nat × Value × Str) (fun x => x.1 ≤ ds.length ∧ x.2.2 = l ++ numsL [(ds.length : Int)] ++ flatBy dotBy (ds.take x.1) ∧ x.2.2.length ≤ 1000000100 + 24 * x.1) (fun x => [(0, .gs x.2.1 (x.2.2.map u8)), (12, .sl (ds.map encDot)), (13, .int .i64 ds.length), (14, .int .i64 x.1)]) (fun x => .tail 1 x.2.1 :: ([] : Own)) (fun x => ds.length - x.1) ((0, v1, l ++ numsL [(ds.length : Int)])) ?_ ?_ ?_); exact (⟨Nat.zero_le _, by simp [flatBy_0], by simp only [List.length_append, numsL_len, List.length_cons, List.length_nil]; omega⟩); (simp [Sub, get, keepL] <;> fail); (try simp only [List.cons_append, List.nil_append]); refine pl_ ?_; intro ⟨k, y, ls⟩ ⟨hk, hs, hm⟩; (try simp only [List.cons_append, List.nil_append]); simp only at hk hs hm)
    | refine g_ ?_
    | ((with_reducible refine And.intro ?_ ?_); (exact sv_plines_dc))
    | (refine DW.cond (by rfl) ?_ ?_ <;> (first | exact i0_ | (refine ic_ ?_; intro hb)))
    | ((with_reducible refine FVg_cases ?_ ?_) <;> (intro hb; rw [hb]; revert hb; (first | exact i0_ | (refine i_ ?_; intro hb))))
    | refine r_ ?_
    | refine k_ ?_
    | (refine p_ (numbersJ1_dc _ _ _ _) ?_ (ha := by exact sv_plines_dc); rintro d H1 ⟨v1, rfl, rfl⟩ <;> refine s_ ?_)
    | (refine p_ (numbersJ2_dc _ _ _ _ _) ?_ (ha := by exact sv_plines_dc); rintro d H1 ⟨v1, rfl, rfl⟩ <;> refine s_ ?_)
    | (refine p_ (numbersJ3_dc _ _ _ _ _ _) ?_ (ha := by exact sv_plines_dc); rintro d H1 ⟨v1, rfl, rfl⟩ <;> refine s_ ?_)
    | (refine p_ (numbersJ6_dc _ _ _ _ _ _ _ _ _) ?_ (ha := by exact sv_plines_dc); rintro d H1 ⟨v1, rfl, rfl⟩ <;> refine s_ ?_)
    | refine o_ ?_
    | refine f_ ?_
    | with_reducible intro b)
  all_goals first
  | (refine ⟨(k + 1, v1, ls ++ dotBy (ds.getD k default)), ⟨?_, ?_, ?_⟩, ?_, ?_, ?_⟩; (dsimp only; omega); (dsimp only; rw [hs, flatBy_next dotBy (show k < ds.length by omega)]; simp only [List.append_assoc]); (dsimp only; rw [List.length_append]; have hx := dotBy_len (ds.getD k default); omega); (dsimp only; omega); (simp [Sub, get, dotBy] <;> fail); (dsimp only; (try simp only [dotBy, List.append_assoc]); (exact sub_)); done)
  | (have hkx : k = ds.length := by omega
     subst hkx
     rw [List.take_length, List.append_assoc] at hs
     rw [dotsBy_is] at hs
     subst hs
     refine ⟨_, _, le.rfl_, ⟨_, rfl, rfl⟩, ?_⟩; (exact sub_); done)
  | (trace_state; fail)
end
theorem sv_pstate_dc {p : Prop} (h : p := by first | exact sv | (simp only [List.length_append, leK_len, numsL_len, textBy_len, dotsBy_len, List.length_cons, List.length_nil]; omega) | (refine ⟨?_, ?_⟩ <;> first | omega | (simp only [List.length_append, leK_len, numsL_len, textBy_len, dotsBy_len, List.length_cons, List.length_nil]; omega)) | (refine ⟨?_, ?_, ?_⟩ <;> first | omega | (simp only [List.length_append, leK_len, numsL_len, textBy_len, dotsBy_len, List.length_cons, List.length_nil]; omega)) | (have hq1 := hrf _ hlt; simp only [List.length_append, leK_len, numsL_len, textBy_len, dotsBy_len, List.length_cons, List.length_nil]; omega) | (have hq1 := hct _ hlt; have hq2 := hcp _ hlt; simp only [List.length_append, leK_len, numsL_len, textBy_len, dotsBy_len, List.length_cons, List.length_nil]; omega) | fail) : p := h
section
attribute [local push_cast 2000] encFence encRoute encCell bytes_are bytes_back
theorem pstate_dc (v : Value) (l : List UInt8) (se : List TDot) (fe : List TFence) (ro : List TRoute) (ce : List TCell) (F : Own) : (l.length ≤ 1000000000 ∧ (se.length ≤ 1000000 ∧ fe.length ≤ 1000000 ∧ ro.length ≤ 100000 ∧ ce.length ≤ 100000) ∧ (∀ k, k < ro.length → (ro.getD k default).filter.length ≤ 2000000) ∧ (∀ k, k < ce.length → (ce.getD k default).topic.length ≤ 2000000) ∧ (∀ k, k < ce.length → (ce.getD k default).payload.length ≤ 2000000)) → DC Tryz.prog 54 [.gs v (l.map u8), .agg [.sl (se.map encDot), .sl (fe.map encFence), .sl (ro.map encRoute), .sl (ce.map encCell)]] ([.tail 1 v] ++ F) fun d G => ∃ v1, d = .gs v1 ((l ++ tableBy ⟨se, fe, ro, ce⟩).map u8) ∧ G = .tail 1 v1 :: F := by
  intro hA
  obtain ⟨hl, ⟨hse, hfe, hro, hce⟩, hrf, hct, hcp⟩ := hA
  refine DC.bodyS (n_ := 116) (show Tryz.prog.funcs[54]? = some Tryz.f54 by kernel_rfl) rfl rfl (by rfl) ?_
  simp only [env0, List.cons_append, List.nil_append]
  have kw := ksIs [0, 1, 3, 4, 6, 8, 10, 11, 22, 23, 24, 25, 43, 44, 45, 46, 72, 73, 74, 75, 79]
  have ow := ownIs []
  have dw1 := drIs 1 [3, 8] [2]
  have dw11 := drIs 11 [11, 14] [3, 6, 9]
  have dw21 := drIs 21 [3, 7, 12] [2]
  repeat' (first
    | ((with_reducible apply DW.frzB 5 6); (focus (exact rfl)); (repeat (with_reducible first | refine Out.here ?_ | refine Out.next ?_)); simp only [put_cons, put_nil, Nat.reduceEqDiff, ↓reduceIte, if_true, if_false, reduceCtorEq])
    | ((with_reducible apply DW.frzB 11 8); (focus (exact rfl)); (repeat (with_reducible first | refine Out.here ?_ | refine Out.next ?_)); simp only [put_cons, put_nil, Nat.reduceEqDiff, ↓reduceIte, if_true, if_false, reduceCtorEq])
    | ((with_reducible apply DW.frzB 18 10); (focus (exact rfl)); (repeat (with_reducible first | refine Out.here ?_ | refine Out.next ?_)); simp only [put_cons, put_nil, Nat.reduceEqDiff, ↓reduceIte, if_true, if_false, reduceCtorEq])
    | ((with_reducible refine DW.loopB 0 (X := Nat × Value × Str) (fun x => x.1 ≤ fe.length ∧ x.2.2 = l ++ dotsBy se ++ numsL [(fe.length : Int)] ++ flatBy fenceBy (fe.take x.1) ∧ x.2.2.length ≤ 2000000000 + 16 * x.1) (fun x => [(0, .gs x.2.1 (x.2.2.map u8)), (3, .sp [.sl (se.map encDot), .sl (fe.map encFence), .sl (ro.map encRoute), .sl (ce.map encCell)]), (22, .sl (fe.map encFence)), (23, .int .i64 fe.length), (24, .int .i64 x.1)]) (fun x => .tail 1 x.2.1 :: ([] : Own)) (fun x => fe.length - x.1) ((0, v1, l ++ (dotsBy se ++ numsL [(fe.length : Int)]))) ?_ ?_ ?_); exact (⟨Nat.zero_le _, by simp [flatBy_0], by simp only [List.length_append, numsL_len, dotsBy_len, List.length_cons, List.length_nil]; omega⟩); (simp [Sub, get, keepL] <;> fail); (try simp only [List.cons_append, List.nil_append]); refine pl_ ?_; intro ⟨k, y, ls⟩ ⟨hk, hs, hm⟩; (try simp only [List.cons_append, List.nil_append]); simp only at hk hs hm)
    | ((have hkx : k = fe.length := by omega); subst hkx; rw [List.take_length] at hs; ((with_reducible refine DW.loopB 2 (X := Nat × Value × Str) (fun x => x.1 ≤ ro.length ∧ x.2.2 = l ++ dotsBy se ++ numsL [(fe.length : Int)] ++ flatBy fenceBy fe ++ numsL [(ro.length : Int)] ++ flatBy routeBy (ro.take x.1) ∧ x.2.2.length ≤ 3000000000 + 2000100 * x.1) (fun x => [(0, .gs x.2.1 (x.2.2.map u8)), (3, .sp [.sl (se.map encDot), .sl (fe.map encFence), .sl (ro.map encRoute), .sl (ce.map encCell)]), (43, .sl (ro.map encRoute)), (44, .int .i64 ro.length), (45, .int .i64 x.1)]) (fun x => .tail 1 x.2.1 :: ([] : Own)) (fun x => ro.length - x.1) ((0, v1, ls ++ numsL [(ro.length : Int)])) ?_ ?_ ?_); exact (⟨Nat.zero_le _, by simp [flatBy_0, hs], by simp only [List.length_append, numsL_len, List.length_cons, List.length_nil]; omega⟩); (simp [Sub, get, keepL] <;> fail); (try simp only [List.cons_append, List.nil_append]); refine pl_ ?_; intro ⟨k2, y2, ls2⟩ ⟨hk2, hs2, hm2⟩; (try simp only [List.cons_append, List.nil_append]); simp only at hk2 hs2 hm2; rcases (show ro.length ≤ k2 ∨ k2 < ro.length by omega) with hge | hlt))
    | ((have hkx : k2 = ro.length := by omega); subst hkx; rw [List.take_length] at hs2; ((with_reducible refine DW.loopB 4 (X := Nat × Value × Str) (fun x => x.1 ≤ ce.length ∧ x.2.2 = l ++ dotsBy se ++ numsL [(fe.length : Int)] ++ flatBy fenceBy fe ++ numsL [(ro.length : Int)] ++ flatBy routeBy ro ++ numsL [(ce.length : Int)] ++ flatBy cellBy (ce.take x.1) ∧ x.2.2.length ≤ 300000000000 + 4000200 * x.1) (fun x => [(0, .gs x.2.1 (x.2.2.map u8)), (72, .sl (ce.map encCell)), (73, .int .i64 ce.length), (74, .int .i64 x.1)]) (fun x => .tail 1 x.2.1 :: ([] : Own)) (fun x => ce.length - x.1) ((0, v1, ls2 ++ numsL [(ce.length : Int)])) ?_ ?_ ?_); exact (⟨Nat.zero_le _, by simp [flatBy_0, hs2], by simp only [List.length_append, numsL_len, List.length_cons, List.length_nil]; omega⟩); (simp [Sub, get, keepL] <;> fail); (try simp only [List.cons_append, List.nil_append]); refine pl_ ?_; intro ⟨k3, y3, ls3⟩ ⟨hk3, hs3, hm3⟩; (try simp only [List.cons_append, List.nil_append]); simp only at hk3 hs3 hm3; rcases (show ce.length ≤ k3 ∨ k3 < ce.length by omega) with hge | hlt))
    | refine g_ ?_
    | ((with_reducible refine And.intro ?_ ?_); (exact sv_pstate_dc))
    | (refine DW.cond (by rfl) ?_ ?_ <;> (first | exact i0_ | (refine ic_ ?_; intro hb)))
    | ((with_reducible first | refine FVg_cases ?_ ?_ | refine FDg_cases ?_ ?_) <;> (intro hb; rw [hb]; revert hb; (first | exact i0_ | (refine i_ ?_; intro hb))))
    | refine r_ ?_
    | refine d_ ?_
    | refine k_ ?_
    | refine vo_ ?_
    | (refine p_ (numbersJ1_dc _ _ _ _) ?_ (ha := by exact sv_pstate_dc); rintro d H1 ⟨v1, rfl, rfl⟩ <;> refine s_ ?_)
    | (refine p_ (numbersJ2_dc _ _ _ _ _) ?_ (ha := by exact sv_pstate_dc); rintro d H1 ⟨v1, rfl, rfl⟩ <;> refine s_ ?_)
    | (refine p_ (numbersJ3_dc _ _ _ _ _ _) ?_ (ha := by exact sv_pstate_dc); rintro d H1 ⟨v1, rfl, rfl⟩ <;> refine s_ ?_)
    | (refine p_ (numbersJ6_dc _ _ _ _ _ _ _ _ _) ?_ (ha := by exact sv_pstate_dc); rintro d H1 ⟨v1, rfl, rfl⟩ <;> refine s_ ?_)
    | ((first | refine p_ (textJ_dc _ _ _ _) ?_ (ha := by exact sv_pstate_dc) | refine p_ (plines_dc _ _ _ _) ?_ (ha := by exact sv_pstate_dc)); rintro d H1 ⟨v1, rfl, rfl⟩ <;> refine s_ ?_)
    | refine o_ ?_
    | refine f_ ?_
    | refine vm_ ?_
    | with_reducible intro b)
  all_goals first
  | (exfalso; omega)
  | (refine ⟨(k + 1, v1, ls ++ fenceBy (fe.getD k default)), ⟨?_, ?_, ?_⟩, ?_, ?_, ?_⟩; (dsimp only; omega); (dsimp only; rw [hs, flatBy_next fenceBy (show k < fe.length by omega)]; simp only [List.append_assoc]); (dsimp only; rw [List.length_append]; have hx := fenceBy_len (fe.getD k default); omega); (dsimp only; omega); (simp [Sub, get, fenceBy] <;> fail); (dsimp only; (try simp only [fenceBy, List.append_assoc]); (exact sub_)); done)
  | (have hq1 := hrf _ hlt
     refine ⟨(k2 + 1, v1, ls2 ++ routeBy (ro.getD k2 default)), ⟨?_, ?_, ?_⟩, ?_, ?_, ?_⟩; (dsimp only; omega); (dsimp only; rw [hs2, flatBy_next routeBy (show k2 < ro.length by omega)]; simp only [List.append_assoc]); (dsimp only; rw [List.length_append]; have hx := routeBy_len (ro.getD k2 default); omega); (dsimp only; omega); (simp [Sub, get, routeBy] <;> fail); (dsimp only; (try simp only [routeBy, List.append_assoc]); (exact sub_)); done)
  | (have hq1 := hct _ hlt; have hq2 := hcp _ hlt; have hg : goneI (ce.getD k3 default).gone = 1 := by rw [hb]; rfl
     have hg2 : goneI (ce[k3]?.getD default).gone = 1 := by rw [← List.getD_eq_getElem?_getD]; exact hg
     refine ⟨(k3 + 1, v1, ls3 ++ cellBy (ce.getD k3 default)), ⟨?_, ?_, ?_⟩, ?_, ?_, ?_⟩; (dsimp only; omega); (dsimp only; rw [hs3, flatBy_next cellBy (show k3 < ce.length by omega)]; simp only [List.append_assoc]); (dsimp only; rw [List.length_append]; have hx := cellBy_len (ce.getD k3 default); omega); (dsimp only; omega); (simp [Sub, get, cellBy, hg, hg2] <;> fail); (dsimp only; (try simp only [cellBy, hg, List.append_assoc]); (exact sub_)); done)
  | (have hq1 := hct _ hlt; have hq2 := hcp _ hlt; have hg : goneI (ce.getD k3 default).gone = 0 := by rw [hb]; rfl
     have hg2 : goneI (ce[k3]?.getD default).gone = 0 := by rw [← List.getD_eq_getElem?_getD]; exact hg
     refine ⟨(k3 + 1, v1, ls3 ++ cellBy (ce.getD k3 default)), ⟨?_, ?_, ?_⟩, ?_, ?_, ?_⟩; (dsimp only; omega); (dsimp only; rw [hs3, flatBy_next cellBy (show k3 < ce.length by omega)]; simp only [List.append_assoc]); (dsimp only; rw [List.length_append]; have hx := cellBy_len (ce.getD k3 default); omega); (dsimp only; omega); (simp [Sub, get, cellBy, hg, hg2] <;> fail); (dsimp only; (try simp only [cellBy, hg, List.append_assoc]); (exact sub_)); done)
  | (have hkx : k3 = ce.length := by omega
     subst hkx
     rw [List.take_length] at hs3
     have e : ls3 = l ++ tableBy ⟨se, fe, ro, ce⟩ := by rw [hs3]; unfold tableBy; simp only [List.append_assoc]
     rw [← e]
     refine ⟨_, _, le.rfl_, ⟨_, rfl, rfl⟩, ?_⟩; (exact sub_); done)
  | (trace_state; fail)
end
end Go.Proofs.YtfmjboanoojhcaaGreatDoor
