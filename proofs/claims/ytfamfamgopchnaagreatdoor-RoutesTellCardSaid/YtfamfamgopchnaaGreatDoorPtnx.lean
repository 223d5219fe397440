/- What an owner routes. -/
import Derived.Test.YtfamfamgopchnaaGreatDoorSjx
import Derived.KernelRfl
namespace Go.Proofs.YtfamfamgopchnaaGreatDoor
open Go.RowKit
set_option linter.unusedSimpArgs false
set_option linter.unusedVariables false
set_option linter.unusedSectionVars false
set_option maxHeartbeats 4000000
set_option maxRecDepth 100000


def ofB (r : TRoute) (node epoch : Int) : Bool := r.dot.node == node && r.dot.epoch == epoch
def ofT (ro : List TRoute) (node epoch : Int) : List Str := (ro.filter fun r => ofB r node epoch).map fun r => r.filter
theorem of_nil (node epoch : Int) : ofT [] node epoch = [] := rfl
theorem of_s (ro : List TRoute) (node epoch : Int) {k : Nat} (h : k < ro.length) : ofT (ro.take (k + 1)) node epoch = ofT (ro.take k) node epoch ++ (if ofB (ro.getD k default) node epoch then [(ro.getD k default).filter] else []) := by
  unfold ofT
  rw [List.take_add_one, List.getElem?_eq_getElem h, List.filter_append, List.map_append]
  have e : ro.getD k default = ro[k] := by rw [List.getD_eq_getElem?_getD, List.getElem?_eq_getElem h]; rfl
  rw [e]
  simp only [Option.toList_some, List.filter_cons, List.filter_nil]
  split <;> simp
theorem of_le (ro : List TRoute) (node epoch : Int) (k : Nat) : (ofT (ro.take k) node epoch).length ≤ ro.length := by
  unfold ofT
  rw [List.length_map]
  exact Nat.le_trans (List.length_filter_le _ _) (by rw [List.length_take]; omega)
theorem cells_strs (l : List Str) : cells (l.map V.str) = l.map V.str := by
  induction l with
  | nil => rfl
  | cons x l ih => rw [List.map_cons, cells_cons, ih]; rfl
theorem rt_2 {ro : List TRoute} {k : Nat} : ro.length ≤ k ∨ k < ro.length := by omega
attribute [local irreducible] DW SeqD DV DOp DC DVX DVJ
section
attribute [local push_cast 2000] encRoute encRoute_eta List.take_length of_nil List.take_zero
theorem pof_dc (se : List TDot) (fe : List TFence) (ro : List TRoute) (ce : List TCell) (node epoch : Int) (F : Own) : (ro.length ≤ 1000000000) → DC Tryz.prog 33 [.agg [.sl (se.map encDot), .sl (fe.map encFence), .sl (ro.map encRoute), .sl (ce.map encCell)], .int .i64 node, .int .i64 epoch] (([] : Own) ++ F) fun d G => ∃ v, d = .ar v (ofT ro node epoch).length ∧ G = .arr 1 v ((ofT ro node epoch).map V.str) :: F := by
  intro hA
  have hr := hA
  refine DC.bodyS (n_ := 36) (show Tryz.prog.funcs[33]? = some Tryz.f33 by kernel_rfl) rfl rfl (by rfl) ?_
  simp only [env0, List.take_zero, of_nil, List.map_nil, List.length_nil, List.cons_append, List.nil_append]
  have kw := ksIs [0, 1, 2, 3, 6, 7, 9, 11, 12, 13, 14, 28]
  have ow := ownIs []
  repeat' (first
    | ((refine DW.own0 1 7 (by rfl) ?_); (simp only [put_cons, put_nil, Nat.reduceEqDiff, ↓reduceIte, if_true, if_false, reduceCtorEq]); ((with_reducible refine DW.loopB 0 (X := Nat × Value) (fun x => x.1 ≤ ro.length) (fun x => [(1, .int .i64 node), (2, .int .i64 epoch), (7, .ar x.2 (ofT (ro.take x.1) node epoch).length), (11, .sl (ro.map encRoute)), (12, .int .i64 ro.length), (13, .int .i64 x.1)]) (fun x => [.arr 1 x.2 ((ofT (ro.take x.1) node epoch).map V.str)]) (fun x => ro.length - x.1) ((0, .slice none 0 0)) ?_ ?_ ?_); exact (Nat.zero_le _); (simp [Sub, get, keepL, of_nil] <;> fail); (try simp only [List.take_zero, of_nil, List.map_nil, List.length_nil, List.cons_append, List.nil_append]); refine pl_ ?_; intro ⟨k, v⟩ hk; (try simp only [List.take_zero, of_nil, List.map_nil, List.length_nil, List.cons_append, List.nil_append]); have hwk := Nat.le_trans (of_le ro node epoch k) hr; rcases rt_2 (ro := ro) (k := k) with hge | hlt; (try rw [List.take_of_length_le hge])))
    | refine g_ ?_
    | ((with_reducible refine And.intro ?_ ?_); (exact sv))
    | (refine DW.cond (by rfl) ?_ ?_ <;> (first | exact i0_ | (refine ic_ ?_; intro hb)))
    | ((with_reducible refine FVg_cases ?_ ?_) <;> (intro hb; rw [hb]; revert hb; (first | exact i0_ | (refine i_ ?_; intro hb))))
    | refine r_ ?_
    | refine k_ ?_
    | refine o_ ?_
    | refine f_ ?_
    | with_reducible intro b)
  all_goals first
  | ((have e := of_s ro node epoch hlt); (rw [show ofB (ro.getD k default) node epoch = true from by (simp only [ofB, Bool.and_eq_true, beq_iff_eq]; first | exact hb | omega | (constructor <;> assumption)), if_pos rfl] at e); (refine ⟨(k + 1, b), ?_, ?_, ?_, ?_⟩; (try simp only); omega; (try simp only); omega; rotate_left; (simp only [e, List.map_append, List.map_cons, List.map_nil]; (exact sub_)); (simp [Sub, get, e])); done)
  | ((have e := of_s ro node epoch hlt); (rw [show ofB (ro.getD k default) node epoch = false from by (simp only [ofB, Bool.and_eq_false_iff, beq_eq_false_iff_ne, ne_eq]; first | (exact .inr hb) | (exact .inl hb) | (simp_all; done) | omega), if_neg (by simp), List.append_nil] at e); (refine ⟨(k + 1, v), ?_, ?_, ?_, ?_⟩; (try simp only); omega; (try simp only); omega; rotate_left; (simp only [e]; (exact sub_)); (simp [Sub, get, e])); done)
  | ((refine ⟨_, _, le.rfl_, ⟨_, rfl, rfl⟩, ?_⟩); (exact sub_); done)
end
theorem pof2_dc (se : List TDot) (fe : List TFence) (ro : List TRoute) (ce : List TCell) (node epoch : Int) (F : Own) : (ro.length ≤ 1000000000) → DC Tryz.prog 33 [.agg [.sl (se.map encDot), .sl (fe.map encFence), .sl (ro.map encRoute), .sl (ce.map encCell)], .int .i64 node, .int .i64 epoch] (([] : Own) ++ F) fun d G => d = .sl ((ofT ro node epoch).map V.str) ∧ G = [] ++ F := fun h =>
  DC.le_ (fun v => .gs v ((ofT ro node epoch).map V.str)) (fun v => le.gs rfl) ((DC.frz (F := F) (K := fun _ => True) (D := fun v => .ar v (ofT ro node epoch).length) (D' := fun v => .gs v ((ofT ro node epoch).map V.str)) (sz := 1) (l := (ofT ro node epoch).map V.str) (L := fun _ => F) (by decide) (fun y hy => by obtain ⟨x, _, rfl⟩ := List.mem_map.1 hy; rfl) (fun v => .hit _)
    ((pof_dc se fe ro ce node epoch F h).mono fun d G ⟨v, h1, h2⟩ => ⟨v, h1, by rw [cells_strs]; exact h2, trivial⟩)).mono fun d G ⟨v, h1, h2, _⟩ => ⟨v, h1, h2⟩)
theorem powners2_dc (se : List TDot) (fe : List TFence) (ro : List TRoute) (ce : List TCell) (tp : Str) (m : Int) (F : Own) : ((se.length ≤ 1000000000 ∧ fe.length ≤ 1000000000 ∧ ro.length ≤ 1000000000 ∧ ce.length ≤ 1000000000 ∧ ∀ k, k < ce.length → (ce.getD k default).payload.length ≤ 1000000000) ∧ filtOK ro ∧ (topicT tp ∧ lvOK tp)) → DC Tryz.prog 37 [.agg [.sl (se.map encDot), .sl (fe.map encFence), .sl (ro.map encRoute), .sl (ce.map encCell)], .str tp] ([knF, knA, knM m] ++ F) fun d G => d = .sl ((Go.Lib.compact (sortedI (ownsT ro tp))).map (V.int .i64)) ∧ G = [knF, knA, knM m] ++ F := fun h =>
  DC.le_ (fun v => .gs v ((Go.Lib.compact (sortedI (ownsT ro tp))).map (V.int .i64))) (fun v => le.gs rfl) ((DC.frz (F := F) (K := fun _ => True) (D := fun v => .ar v (Go.Lib.compact (sortedI (ownsT ro tp))).length) (D' := fun v => .gs v ((Go.Lib.compact (sortedI (ownsT ro tp))).map (V.int .i64))) (sz := 1) (l := (Go.Lib.compact (sortedI (ownsT ro tp))).map (V.int .i64)) (L := fun _ => [knF, knA, knM m] ++ F) (by decide) (fun y hy => by obtain ⟨x, _, rfl⟩ := List.mem_map.1 hy; rfl) (fun v => .hit _)
    ((powners_dc se fe ro ce tp m F h).mono fun d G ⟨v, h1, h2⟩ => ⟨v, h1, by rw [cells_ints]; exact h2, trivial⟩)).mono fun d G ⟨v, h1, h2, _⟩ => ⟨v, h1, h2⟩)
end Go.Proofs.YtfamfamgopchnaaGreatDoor
/- The table that is known. -/
namespace Go.Proofs.YtfamfamgopchnaaGreatDoor
open Go.RowKit
set_option linter.unusedSimpArgs false
set_option linter.unusedVariables false
set_option linter.unusedSectionVars false
set_option maxHeartbeats 4000000
set_option maxRecDepth 100000


theorem lev_apl : levs [97, 47, 43] = [[97], [43]] := by kernel_rfl
theorem lev_ab : levs [97, 47, 98] = [[97], [98]] := by kernel_rfl
theorem lv_apl : topicT [97, 47, 43] ∧ lvOK [97, 47, 43] := ⟨by unfold topicT; decide, by unfold lvOK; rw [lev_apl]; decide⟩
theorem lv_ab : topicT [97, 47, 98] ∧ lvOK [97, 47, 98] := ⟨by unfold topicT; decide, by unfold lvOK; rw [lev_ab]; decide⟩
theorem kadd_dc (m : Int) (F : Own) : True → DC Tryz.prog 23 [.agg [.sl [], .sl [], .sl [], .sl []], .int .i64 1, .int .i64 1, .str [97, 47, 43]] ([knF, knA, knM m] ++ F) fun d G => d = .agg [.sl [.agg [.int .i64 1, .int .i64 1, .int .i64 1]], .sl [], .sl [.agg [.int .i64 1, .int .i64 1, .int .i64 1, .str [97, 47, 43]]], .sl []] ∧ G = [knF, knA, knM m] ++ F := fun _ =>
  (padds_dc [] [] [] [] 1 1 [97, 47, 43] m F ⟨⟨by decide, by decide, by decide, by decide, fun k h => absurd h (Nat.not_lt_zero _)⟩, lv_apl, by decide, by decide, by decide⟩).mono fun d G ⟨h, hG⟩ => ⟨by
    rcases h with ⟨h1, _⟩ | ⟨_, l2, ⟨h2, _⟩, h3⟩
    · exfalso
      unfold addC at h1
      rw [lev_apl] at h1
      revert h1; decide
    · have e : withoutR [] 1 1 [97, 47, 43] ++ [(⟨⟨1, 1, topM [] 1 1 + 1⟩, [97, 47, 43]⟩ : TRoute)] = [⟨⟨1, 1, 1⟩, [97, 47, 43]⟩] := by rfl
      rw [e, List.perm_singleton] at h2
      subst h2
      exact h3.trans (by rfl), hG⟩
theorem kdrop_dc (F : Own) : True → DC Tryz.prog 24 [.agg [.sl [.agg [.int .i64 1, .int .i64 1, .int .i64 1]], .sl [], .sl [.agg [.int .i64 1, .int .i64 1, .int .i64 1, .str [97, 47, 43]]], .sl []], .int .i64 1, .int .i64 1, .str [97, 47, 43]] (([] : Own) ++ F) fun d G => d = .agg [.sl [.agg [.int .i64 1, .int .i64 1, .int .i64 2]], .sl [], .sl [], .sl []] ∧ G = [] ++ F := fun _ =>
  (pdrop_dc [⟨1, 1, 1⟩] [] [⟨⟨1, 1, 1⟩, [97, 47, 43]⟩] [] 1 1 [97, 47, 43] F ⟨⟨by decide, by decide, by decide, by decide, fun k h => absurd h (Nat.not_lt_zero _)⟩, by decide, by decide⟩).mono fun d G ⟨h, hG⟩ => ⟨by
    rcases h with ⟨h1, _⟩ | ⟨_, h3⟩
    · exfalso; revert h1; decide
    · exact h3.trans (by rfl), hG⟩
theorem kfence_dc (F : Own) : True → DC Tryz.prog 25 [.agg [.sl [.agg [.int .i64 1, .int .i64 1, .int .i64 1]], .sl [], .sl [.agg [.int .i64 1, .int .i64 1, .int .i64 1, .str [97, 47, 43]]], .sl []], .int .i64 1, .int .i64 1] (([] : Own) ++ F) fun d G => d = .agg [.sl [.agg [.int .i64 1, .int .i64 1, .int .i64 1]], .sl [.agg [.int .i64 1, .int .i64 1]], .sl [], .sl []] ∧ G = [] ++ F := fun _ =>
  (pfence_dc [⟨1, 1, 1⟩] [] [⟨⟨1, 1, 1⟩, [97, 47, 43]⟩] [] 1 1 F ⟨⟨by decide, by decide, by decide, by decide, fun k h => absurd h (Nat.not_lt_zero _)⟩, ⟨List.Pairwise.nil, fun f h => nomatch h⟩, by decide⟩).mono fun d G ⟨h, hG⟩ => ⟨by
    rcases h with ⟨h1, _⟩ | ⟨_, h3⟩
    · exfalso; revert h1; decide
    · exact h3.trans (by rfl), hG⟩
theorem kown_dc (m : Int) (F : Own) : True → DC Tryz.prog 37 [.agg [.sl [.agg [.int .i64 1, .int .i64 1, .int .i64 1]], .sl [], .sl [.agg [.int .i64 1, .int .i64 1, .int .i64 1, .str [97, 47, 43]]], .sl []], .str [97, 47, 98]] ([knF, knA, knM m] ++ F) fun d G => d = .sl [.int .i64 1] ∧ G = [knF, knA, knM m] ++ F := fun _ =>
  (powners2_dc [⟨1, 1, 1⟩] [] [⟨⟨1, 1, 1⟩, [97, 47, 43]⟩] [] [97, 47, 98] m F ⟨⟨by decide, by decide, by decide, by decide, fun k h => absurd h (Nat.not_lt_zero _)⟩, fun r hr => by rw [List.mem_singleton.1 hr]; exact lv_apl, lv_ab⟩).mono fun d G ⟨h, hG⟩ => ⟨by
    have e : ownsT [⟨⟨1, 1, 1⟩, [97, 47, 43]⟩] [97, 47, 98] = [1] := by
      have e1 : matchR [97, 47, 43] [97, 47, 98] = true := by unfold matchR; rw [lev_apl, lev_ab]; decide
      unfold ownsT
      simp only [List.filter_cons, e1, if_true, List.filter_nil, List.map_cons, List.map_nil]
    rw [e] at h
    exact h.trans (by rw [show sortedI [1] = [1] from List.mergeSort_singleton 1, show Go.Lib.compact [(1 : Int)] = [1] by decide]; rfl), hG⟩
theorem kf1_dc (F : Own) : True → DC Tryz.prog 30 [.agg [.sl [.agg [.int .i64 1, .int .i64 1, .int .i64 1]], .sl [.agg [.int .i64 1, .int .i64 1]], .sl [], .sl []], .int .i64 1, .int .i64 1] (([] : Own) ++ F) fun d G => d = .bool true ∧ G = [] ++ F := fun _ => pfenced_dc [⟨1, 1, 1⟩] [⟨1, 1⟩] [] [] 1 1 F (by decide)
theorem kf2_dc (F : Own) : True → DC Tryz.prog 30 [.agg [.sl [.agg [.int .i64 1, .int .i64 1, .int .i64 1]], .sl [.agg [.int .i64 1, .int .i64 1]], .sl [], .sl []], .int .i64 1, .int .i64 2] (([] : Own) ++ F) fun d G => d = .bool false ∧ G = [] ++ F := fun _ => pfenced_dc [⟨1, 1, 1⟩] [⟨1, 1⟩] [] [] 1 2 F (by decide)
theorem kof_dc (F : Own) : True → DC Tryz.prog 33 [.agg [.sl [.agg [.int .i64 1, .int .i64 1, .int .i64 1]], .sl [], .sl [.agg [.int .i64 1, .int .i64 1, .int .i64 1, .str [97, 47, 43]]], .sl []], .int .i64 1, .int .i64 1] (([] : Own) ++ F) fun d G => d = .sl [.str [97, 47, 43]] ∧ G = [] ++ F := fun _ => pof2_dc [⟨1, 1, 1⟩] [] [⟨⟨1, 1, 1⟩, [97, 47, 43]⟩] [] 1 1 F (by decide)
attribute [local irreducible] DW SeqD DV DOp DC DVX DVJ
theorem known10_dc (m : Int) (F : Own) : (True) → DC Tryz.prog 17 [] ([knF, knA, knM m] ++ F) fun d G => d = .bool true ∧ G = [knF, knA, knM m] ++ F := by
  intro hA
  refine DC.bodyS (n_ := 75) (show Tryz.prog.funcs[17]? = some Tryz.f17 by kernel_rfl) rfl rfl (by rfl) ?_
  simp only [env0, List.cons_append, List.nil_append]
  have kw := ksIs [0, 1, 2, 3, 4]
  have ow := ownIs []
  repeat' (first
    | refine g_ ?_
    | ((with_reducible refine And.intro ?_ ?_); (exact sv))
    | (refine DW.cond (by rfl) ?_ ?_ <;> (first | exact i0_ | (refine ic_ ?_; intro hb)))
    | ((with_reducible refine FVg_cases ?_ ?_) <;> (intro hb; rw [hb]; revert hb; (first | exact i0_ | (refine i_ ?_; intro hb))))
    | refine r_ ?_
    | refine k_ ?_
    | (refine q_ (kadd_dc _ _) ?_)
    | (refine q_ (kdrop_dc _) ?_)
    | (refine q_ (kfence_dc _) ?_)
    | (refine q_ (kown_dc _ _) ?_)
    | (refine q_ (kf1_dc _) ?_)
    | (refine q_ (kf2_dc _) ?_)
    | (refine q_ (kof_dc _) ?_)
    | refine o_ ?_
    | refine f_ ?_
    | with_reducible intro b)
  (first | exact fin_ | refine finq_ ?_)
  all_goals rfl
end Go.Proofs.YtfamfamgopchnaaGreatDoor
