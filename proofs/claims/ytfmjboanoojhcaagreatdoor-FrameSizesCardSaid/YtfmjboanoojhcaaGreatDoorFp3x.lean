/- Which frames the program finds right. -/
import Derived.Test.YtfmjboanoojhcaaGreatDoorFp2x
import Derived.Test.YtfmjboanoojhcaaGreatDoorTm2x
import Derived.KernelRfl
namespace Go.Proofs.YtfmjboanoojhcaaGreatDoor
open Go.RowKit
set_option linter.unusedSimpArgs false
set_option linter.unusedVariables false
set_option linter.unusedSectionVars false
set_option maxHeartbeats 4000000
set_option maxRecDepth 100000


/-- A table, a frame that is not too great. -/
structure LightT (t : TTable) : Prop where
  s : t.seen.length ≤ 1000000
  f : t.fences.length ≤ 1000000
  r : t.routes.length ≤ 100000
  c : t.cells.length ≤ 100000
  rf : ∀ r ∈ t.routes, r.filter.length ≤ 2000000
  ct : ∀ c ∈ t.cells, c.topic.length ≤ 2000000
  cp : ∀ c ∈ t.cells, c.payload.length ≤ 2000000
structure LightF (f : TFrame) : Prop where
  sums : f.sums.length ≤ 1000000
  seen : f.seen.length ≤ 1000000
  tab : LightT f.tab
  top : f.topic.length ≤ 2000000
  msg : f.payload.length ≤ 2000000
theorem LightT.few {t : TTable} (h : LightT t) : Few 1000000000 t := ⟨Nat.le_trans h.s (by decide), Nat.le_trans h.f (by decide), Nat.le_trans h.r (by decide), Nat.le_trans h.c (by decide)⟩
theorem psameE_dc (t : TTable) (F : Own) : (Few 1000000000 t) → DC Tryz.prog 41 [.agg [.sl (t.seen.map encDot), .sl (t.fences.map encFence), .sl (t.routes.map encRoute), .sl (t.cells.map encCell)], .agg [.sl [], .sl [], .sl [], .sl []]] (([] : Own) ++ F) fun d G => d = .bool (decide (t = emptyT)) ∧ G = [] ++ F := fun h =>
  psame_dc t emptyT F ⟨h, ⟨Nat.zero_le _, Nat.zero_le _, Nat.zero_le _, Nat.zero_le _⟩⟩
theorem msg0_dc (t p : List UInt8) (q : Int) (r : Bool) (F : Own) : True → DC Tryz.prog 63 [.agg [.str t, .sl (p.map u8), .int .i64 q, .bool r], .agg [.str [], .sl [], .int .i64 0, .bool false]] (([] : Own) ++ F) fun d G => d = .bool (t == [] && p == [] && q == 0 && r == false) ∧ G = [] ++ F := fun h => messages_dc t p q r [] [] 0 false F h
theorem ptrightT_dc (t : TTable) (m : Int) (F : Own) : (LightT t) → DC Tryz.prog 42 [.agg [.sl (t.seen.map encDot), .sl (t.fences.map encFence), .sl (t.routes.map encRoute), .sl (t.cells.map encCell)]] ([knF, knA, knM m] ++ F) fun d G => d = .bool (tabB t) ∧ G = [knF, knA, knM m] ++ F := fun h =>
  ptright_dc t.seen t.fences t.routes t.cells m F ⟨⟨h.few.s, h.few.f, h.few.r, h.few.c⟩, fun k hk => h.rf _ (getD_mem hk), fun k hk => h.ct _ (getD_mem hk), fun k hk => Nat.le_trans (h.cp _ (getD_mem hk)) (by decide)⟩
def msg0 (f : TFrame) : Bool := f.topic == [] && f.payload == [] && f.qos == 0 && f.retain == false
/-- As the program asks it. -/
def frameP (f : TFrame) : Bool :=
  (decide (0 ≤ f.fr) && decide (f.fr ≤ 15)) && (decide (1 ≤ f.ep) && decide (f.ep ≤ 2147483647)) && (decide (0 ≤ f.at_) && decide (f.at_ ≤ 1099511627776)) &&
  (if f.kind = 1 then ((f.sums.length : Int) == 10) && rightB f.seen && decide (f.tab = emptyT) && ((f.seq == 0) && msg0 f)
   else if f.kind = 2 then (((f.sums.length : Int) == 0) && ((f.seen.length : Int) == 0)) && tabB f.tab && ((f.seq == 0) && msg0 f)
   else if f.kind = 3 then (((f.sums.length : Int) == 0) && ((f.seen.length : Int) == 0)) && decide (f.tab = emptyT) && (decide (1 ≤ f.seq) && decide (f.seq ≤ 2147483647)) && nameB f.topic && (decide (0 ≤ f.qos) && decide (f.qos ≤ 2)) && !f.retain
   else false)
theorem len0 {α : Type} (l : List α) [DecidableEq α] : ((l.length : Int) == 0) = decide (l = []) := by
  rw [Bool.eq_iff_iff]; simp only [beq_iff_eq, decide_eq_true_eq]
  constructor
  · intro h; exact List.eq_nil_of_length_eq_zero (by omega)
  · rintro rfl; rfl
theorem frameP_is (f : TFrame) : frameP f = frameB f := by
  unfold frameP frameB wordB msg0
  rw [len0, len0]
  have e1 : decide (f.fr ≤ 15) = decide (f.fr < 16) := by rw [Bool.eq_iff_iff]; simp only [decide_eq_true_eq]; omega
  have e2 : ((f.sums.length : Int) == 10) = decide (f.sums.length = 10) := by rw [Bool.eq_iff_iff]; simp only [beq_iff_eq, decide_eq_true_eq]; omega
  rw [e1, e2]
  have e3 : ((f.seq == 0) && (f.topic == [] && f.payload == [] && f.qos == 0 && f.retain == false)) = (decide (f.seq = 0) && decide (f.topic = []) && decide (f.payload = []) && decide (f.qos = 0) && !f.retain) := by
    rw [Bool.eq_iff_iff]; simp only [Bool.and_eq_true, beq_iff_eq, decide_eq_true_eq, Bool.not_eq_true', and_assoc]
  rw [e3]
  simp only [Bool.and_assoc]
attribute [local irreducible] DW SeqD DV DOp DC DVX DVJ nameB tabB rightB
theorem sv_pfright_dc {p : Prop} (h : p := by first | exact sv | exact hf.tab | exact hf.tab.few | exact Nat.le_trans hf.seen (by decide) | exact Nat.le_trans hf.top (by decide) | fail) : p := h
theorem pfright_dc (f : TFrame) (m : Int) (F : Own) : (LightF f) → DC Tryz.prog 19 [.agg [.int .i64 f.kind, .int .i64 f.fr, .int .i64 f.ep, .int .i64 f.at_, .sl (f.sums.map encU), .sl (f.seen.map encDot), .sl (f.tab.seen.map encDot), .sl (f.tab.fences.map encFence), .sl (f.tab.routes.map encRoute), .sl (f.tab.cells.map encCell), .int .i64 f.seq, .str f.topic, .sl (f.payload.map u8), .int .i64 f.qos, .bool f.retain]] ([knF, knA, knM m] ++ F) fun d G => d = .bool (frameB f) ∧ G = [knF, knA, knM m] ++ F := by
  intro hA
  have hf := hA
  refine DC.bodyS (n_ := 104) (show Tryz.prog.funcs[19]? = some Tryz.f19 by kernel_rfl) rfl rfl (by rfl) ?_
  simp only [env0, List.cons_append, List.nil_append]
  have kw := ksIs [0, 1, 2, 3, 4, 5, 21, 46, 47, 64, 75]
  have ow := ownIs []
  have dw3 := drIs 3 [] [1, 6, 11, 13, 15, 19, 21]
  repeat' (first
    | refine g_ ?_
    | ((with_reducible refine And.intro ?_ ?_); (exact sv_pfright_dc))
    | (refine DW.cond (by rfl) ?_ ?_ <;> (first | exact i0_ | (refine ic_ ?_; intro hb)))
    | ((with_reducible first | refine FVg_cases ?_ ?_ | refine FDg_cases ?_ ?_) <;> (intro hb; rw [hb]; revert hb; (first | exact i0_ | (refine i_ ?_; intro hb))))
    | refine r_ ?_
    | refine d_ ?_
    | refine k_ ?_
    | ((refine dm_ ?_); (first | ((first | refine v_ (in_dc _ _ _ _) ?_ (ha := by exact sv_pfright_dc) | refine v_ (psameE_dc _ _) ?_ (ha := by exact sv_pfright_dc) | refine v_ (msg0_dc _ _ _ _ _) ?_ (ha := by exact sv_pfright_dc) | refine v_ (pright_dc _ _) ?_ (ha := by exact sv_pfright_dc) | refine v_ (ptrightT_dc _ _ _) ?_ (ha := by exact sv_pfright_dc) | refine v_ (nameA_dc _ _) ?_ (ha := by exact sv_pfright_dc)))))
    | refine vo_ ?_
    | ((first | refine q_ (in_dc _ _ _ _) ?_ (ha := by exact sv_pfright_dc) | refine q_ (psameE_dc _ _) ?_ (ha := by exact sv_pfright_dc) | refine q_ (msg0_dc _ _ _ _ _) ?_ (ha := by exact sv_pfright_dc) | refine q_ (pright_dc _ _) ?_ (ha := by exact sv_pfright_dc) | refine q_ (ptrightT_dc _ _ _) ?_ (ha := by exact sv_pfright_dc) | refine q_ (nameA_dc _ _) ?_ (ha := by exact sv_pfright_dc)))
    | refine o_ ?_
    | refine f_ ?_
    | refine vm_ ?_
    | with_reducible intro b)
  all_goals first
  | ((refine ⟨_, _, le.of_eq ?_, ⟨rfl, rfl⟩, ?_⟩); (focus (rw [← frameP_is]; unfold frameP msg0; simp_all; done)); (exact sub_); done)
  | ((refine ⟨_, _, le.of_eq ?_, ⟨rfl, rfl⟩, ?_⟩); (focus (congr 1; rw [← frameP_is]; symm; rw [Bool.eq_false_iff]; intro h; unfold frameP at h; simp only [Bool.and_eq_true, decide_eq_true_eq] at h; obtain ⟨⟨⟨h1, h2⟩, h3⟩, h4⟩ := h; first | omega | (simp_all; done) | (rw [if_neg (by omega), if_neg (by omega), if_pos (by omega)] at h4; simp only [Bool.and_eq_true, decide_eq_true_eq] at h4; simp only [Bool.and_eq_false_iff, decide_eq_false_iff_not] at hb; omega))); (exact sub_); done)
  | (trace_state; fail)
end Go.Proofs.YtfmjboanoojhcaaGreatDoor
