/- Filters. -/
import Derived.Test.YtfamfamgopchnaaGreatDoorSsx
import Derived.KernelRfl
namespace Go.Proofs.YtfamfamgopchnaaGreatDoor
open Go.RowKit
set_option linter.unusedSimpArgs false
set_option linter.unusedVariables false
set_option linter.unusedSectionVars false
set_option maxHeartbeats 4000000
set_option maxRecDepth 100000
attribute [local irreducible] DW SeqD DV DOp DC DVX


/-- A level of a filter is right at its place. -/
def okAt (ls : List (List UInt8)) (i : Nat) : Bool := ls.getD i default == [43] || (ls.getD i default == [35] && decide ((i : Int) = (ls.length : Int) - 1)) || !wildT (ls.getD i default)
def okF (ls : List (List UInt8)) : Bool := (List.range ls.length).all (okAt ls)
def lvOK (l : List UInt8) : Prop := (levs l).length ≤ 1000000000 ∧ ∀ v ∈ levs l, goodT v = true ∧ v.length ≤ 1000000000
theorem lv_3 {l : List UInt8} {k : Nat} (h : lvOK l) : (levs l).length ≤ k ∨ (k < (levs l).length ∧ (goodT ((levs l).getD k default) = true ∧ ((levs l).getD k default).length ≤ 1000000000)) := by
  rcases Nat.lt_or_ge k (levs l).length with hi | hi
  · refine .inr ⟨hi, h.2 _ ?_⟩
    rw [List.getD_eq_getElem?_getD, List.getElem?_eq_getElem hi]
    exact List.getElem_mem hi
  · exact .inl hi
theorem okF_t {ls : List (List UInt8)} (h : ∀ i, i < ls.length → okAt ls i = true) : okF ls = true := by
  unfold okF; rw [List.all_eq_true]; intro i hi; exact h i (List.mem_range.1 hi)
theorem okF_f {ls : List (List UInt8)} {k : Nat} (hk : k < ls.length) (h : okAt ls k = false) : okF ls = false := by
  cases e : okF ls with
  | false => rfl
  | true => unfold okF at e; rw [List.all_eq_true] at e; rw [e k (List.mem_range.2 hk)] at h; cases h
theorem ok_s {ls : List (List UInt8)} {k : Nat} (h : ∀ i, i < k → okAt ls i = true) (hk : okAt ls k = true) : ∀ i, i < k + 1 → okAt ls i = true := fun i hi => by
  rcases Nat.lt_or_eq_of_le (Nat.le_of_lt_succ hi) with h1 | rfl
  · exact h i h1
  · exact hk
theorem filterg_dc (m : Int) (l : List UInt8) (F : Own) : (topicT l ∧ lvOK l) → DC Tryz.prog 68 [.str l] ([knF, knA, knM m] ++ F) fun d G => d = .bool (okF (levs l)) ∧ G = [knF, knA, knM m] ++ F := by
  intro hA
  obtain ⟨hT, hL⟩ := hA
  refine DC.bodyS (n_ := 37) (show Tryz.prog.funcs[68]? = some Tryz.f68 by kernel_rfl) rfl rfl (by rfl) ?_
  simp only [env0, List.cons_append, List.nil_append]
  have kw := ksIs [0, 2, 3, 4, 5, 8, 11, 12, 13, 14, 35]
  have ow := ownIs []
  have hl : l.length ≤ 1000000000 := Nat.le_trans hT.2.2 (by decide)
  have hlen := hL.1
  repeat' (first
    | ((with_reducible refine DW.loopB 0 (X := Nat) (fun x => x ≤ (levs l).length ∧ ∀ i, i < x → okAt (levs l) i = true) (fun x => [(3, .sl ((levs l).map V.str)), (11, .sl ((levs l).map V.str)), (12, .int .i64 ((levs l).length : Int)), (13, .int .i64 x)]) (fun x => [knF, knA, knM m]) (fun x => (levs l).length - x) (0) ?_ ?_ ?_); exact (⟨Nat.zero_le _, fun i h => absurd h (Nat.not_lt_zero _)⟩); (simp [Sub, get, keepL] <;> fail); (try simp only [List.cons_append, List.nil_append]); refine pl_ ?_; intro k ⟨hk, hok⟩; (try simp only [List.cons_append, List.nil_append]); rcases lv_3 (k := k) hL with hge | ⟨hlt, hlv⟩)
    | refine g_ ?_
    | ((with_reducible refine And.intro ?_ ?_); (exact sv))
    | (refine DW.cond (by rfl) ?_ ?_ <;> (first | exact i0_ | (refine ic_ ?_; intro hb)))
    | ((with_reducible refine FVg_cases ?_ ?_) <;> (intro hb; rw [hb]; revert hb; (first | exact i0_ | (refine i_ ?_; intro hb))))
    | refine r_ ?_
    | refine k_ ?_
    | ((first | refine q_ (textg_dc _ _) ?_ | refine q_ (levelsg_dc _ _ _) ?_ | refine q_ (conw_dc _ _) ?_))
    | refine o_ ?_
    | refine f_ ?_
    | with_reducible intro b)
  all_goals first
  | ((refine ⟨_, _, le.of_eq ?_, ⟨rfl, rfl⟩, ?_⟩); (rw [okF_t fun i hi => hok i (by omega)]); (exact sub_))
  | ((refine ⟨_, _, le.of_eq ?_, ⟨rfl, rfl⟩, ?_⟩); (rw [okF_f hlt (by clear hok; unfold okAt; simp_all)]); (exact sub_))
  | (refine ⟨k + 1, ?_, ?_, ?_, ?_⟩; ((exact ⟨by omega, ok_s hok (by clear hok; unfold okAt; simp_all)⟩)); (((try simp only); omega)); (simp [Sub, get] <;> (fail)); (try dsimp only); (exact sub_); done)
end Go.Proofs.YtfamfamgopchnaaGreatDoor
/- Which topics a filter matches. -/
namespace Go.Proofs.YtfamfamgopchnaaGreatDoor
open Go.RowKit
set_option linter.unusedSimpArgs false
set_option linter.unusedVariables false
set_option linter.unusedSectionVars false
set_option maxHeartbeats 4000000
set_option maxRecDepth 100000
attribute [local irreducible] DW SeqD DV DOp DC DVX


/-- How levels of a filter go with levels of a topic. -/
def goesM : List (List UInt8) → List (List UInt8) → Bool
  | [], b => b.isEmpty
  | x :: a, b => x == [35] || match b with
    | [] => false
    | y :: b => (x == [43] || x == y) && goesM a b
theorem lv_0 {l : List UInt8} (h : lvOK l) : goodT ((levs l).getD 0 default) = true ∧ ((levs l).getD 0 default).length ≤ 1000000000 := by
  have h0 : 0 < (levs l).length := by rw [levs_len]; omega
  rcases lv_3 (k := 0) h with h1 | h1
  · omega
  · exact h1.2
theorem take_str (l : List (List UInt8)) : List.take l.length (List.map V.str l) = List.map V.str l := List.take_of_length_le (by simp)
theorem def_str : (default : List UInt8) = [] := rfl
def hidT (l : List UInt8) : Bool := l.take 1 == [36]
def matchM (a b : List (List UInt8)) : Bool := !(hidT (b.getD 0 default) && (a.getD 0 default == [43] || a.getD 0 default == [35])) && goesM a b
theorem hasp_dc (l : List UInt8) (F : Own) : (l.length ≤ 1000000000) → DC Tryz.prog 212 [.str l, .str [36]] (([] : Own) ++ F) fun d G => d = .bool (hidT l) ∧ G = [] ++ F := by
  intro hA
  have hl := hA
  refine DC.bodyS (n_ := 18) (show Tryz.prog.funcs[212]? = some Tryz.f212 by kernel_rfl) rfl rfl (by rfl) ?_
  simp only [env0, List.cons_append, List.nil_append]
  have kw := ksIs [0, 1, 4]
  have ow := ownIs []
  repeat' (first
    | refine g_ ?_
    | ((with_reducible refine And.intro ?_ ?_); (exact sv))
    | (refine DW.cond (by rfl) ?_ ?_ <;> (first | exact i0_ | (refine ic_ ?_; intro hb)))
    | ((with_reducible refine FVg_cases ?_ ?_) <;> (intro hb; rw [hb]; revert hb; (first | exact i0_ | (refine i_ ?_; intro hb))))
    | refine r_ ?_
    | refine k_ ?_
    | refine o_ ?_
    | refine f_ ?_
    | with_reducible intro b)
  all_goals first
  | ((refine ⟨_, _, le.of_eq ?_, ⟨rfl, rfl⟩, ?_⟩); (unfold hidT; (first | rfl | (have : l = [] := List.length_eq_zero_iff.1 (by omega); subst this; rfl) | (congr 1; simp_all))); (exact sub_))
theorem hasq_dc (l : List UInt8) (F : Own) : (l.length ≤ 1000000000) → DC Tryz.prog 188 [.str l, .str [36]] (([] : Own) ++ F) fun d G => d = .bool (hidT l) ∧ G = [] ++ F := by
  intro hA
  have hl := hA
  refine DC.bodyS (n_ := 8) (show Tryz.prog.funcs[188]? = some Tryz.f188 by kernel_rfl) rfl rfl (by rfl) ?_
  simp only [env0, List.cons_append, List.nil_append]
  have kw := ksIs [0, 1, 4]
  have ow := ownIs []
  repeat' (first
    | refine g_ ?_
    | ((with_reducible refine And.intro ?_ ?_); (exact sv))
    | (refine DW.cond (by rfl) ?_ ?_ <;> (first | exact i0_ | (refine ic_ ?_; intro hb)))
    | ((with_reducible refine FVg_cases ?_ ?_) <;> (intro hb; rw [hb]; revert hb; (first | exact i0_ | (refine i_ ?_; intro hb))))
    | refine r_ ?_
    | refine k_ ?_
    | (refine q_ (hasp_dc _ _) ?_)
    | refine o_ ?_
    | refine f_ ?_
    | with_reducible intro b)
  (first | exact fin_ | refine finq_ ?_)
  all_goals rfl
theorem hidden_dc (l : List UInt8) (F : Own) : (l.length ≤ 1000000000) → DC Tryz.prog 146 [.str l] (([] : Own) ++ F) fun d G => d = .bool (hidT l) ∧ G = [] ++ F := by
  intro hA
  have hl := hA
  refine DC.bodyS (n_ := 5) (show Tryz.prog.funcs[146]? = some Tryz.f146 by kernel_rfl) rfl rfl (by rfl) ?_
  simp only [env0, List.cons_append, List.nil_append]
  have kw := ksIs [0, 2]
  have ow := ownIs []
  repeat' (first
    | refine g_ ?_
    | ((with_reducible refine And.intro ?_ ?_); (exact sv))
    | (refine DW.cond (by rfl) ?_ ?_ <;> (first | exact i0_ | (refine ic_ ?_; intro hb)))
    | ((with_reducible refine FVg_cases ?_ ?_) <;> (intro hb; rw [hb]; revert hb; (first | exact i0_ | (refine i_ ?_; intro hb))))
    | refine r_ ?_
    | refine k_ ?_
    | (refine q_ (hasq_dc _ _) ?_)
    | refine o_ ?_
    | refine f_ ?_
    | with_reducible intro b)
  (first | exact fin_ | refine finq_ ?_)
  all_goals rfl
theorem goes0_dc (b : List (List UInt8)) (F : Own) : (b.length ≤ 1000000000) → DC Tryz.prog 147 [.sl [], .sl (b.map V.str)] (([] : Own) ++ F) fun d G => d = .bool (goesM [] b) ∧ G = [] ++ F := by
  intro hA
  have hl := hA
  refine DC.bodyS (n_ := 41) (show Tryz.prog.funcs[147]? = some Tryz.f147 by kernel_rfl) rfl rfl (by rfl) ?_
  simp only [env0, List.cons_append, List.nil_append]
  have kw := ksIs [0, 1, 4, 5, 12, 17]
  have ow := ownIs []
  have dw7 := drIs 7 [] [2, 7, 10, 18]
  repeat' (first
    | refine g_ ?_
    | ((with_reducible refine And.intro ?_ ?_); (exact sv))
    | (refine DW.cond (by rfl) ?_ ?_ <;> (first | exact i0_ | (refine ic_ ?_; intro hb)))
    | ((with_reducible first | refine FVg_cases ?_ ?_ | refine FDg_cases ?_ ?_) <;> (intro hb; rw [hb]; revert hb; (first | exact i0_ | (refine i_ ?_; intro hb))))
    | refine r_ ?_
    | refine d_ ?_
    | refine k_ ?_
    | refine vo_ ?_
    | refine o_ ?_
    | refine f_ ?_
    | refine vm_ ?_
    | with_reducible intro b)
  all_goals first
  | ((refine ⟨_, _, le.of_eq ?_, ⟨rfl, rfl⟩, ?_⟩); (cases b with | nil => rfl | cons y b => (simp [goesM]; try omega)); (exact sub_))
theorem goes1_dc (x : List UInt8) (a : List (List UInt8)) (F : Own) : (a.length ≤ 1000000000) → DC Tryz.prog 147 [.sl (.str x :: a.map V.str), .sl []] (([] : Own) ++ F) fun d G => d = .bool (goesM (x :: a) []) ∧ G = [] ++ F := by
  intro hA
  have hl := hA
  refine DC.bodyS (n_ := 41) (show Tryz.prog.funcs[147]? = some Tryz.f147 by kernel_rfl) rfl rfl (by rfl) ?_
  simp only [env0, List.cons_append, List.nil_append]
  have kw := ksIs [0, 1, 4, 5, 12, 17]
  have ow := ownIs []
  have dw7 := drIs 7 [] [2, 7, 10, 18]
  repeat' (first
    | refine g_ ?_
    | ((with_reducible refine And.intro ?_ ?_); (exact sv))
    | (refine DW.cond (by rfl) ?_ ?_ <;> (first | exact i0_ | (refine ic_ ?_; intro hb)))
    | ((with_reducible first | refine FVg_cases ?_ ?_ | refine FDg_cases ?_ ?_) <;> (intro hb; rw [hb]; revert hb; (first | exact i0_ | (refine i_ ?_; intro hb))))
    | refine r_ ?_
    | refine d_ ?_
    | refine k_ ?_
    | refine vo_ ?_
    | refine o_ ?_
    | refine f_ ?_
    | refine vm_ ?_
    | with_reducible intro b)
  all_goals first
  | ((refine ⟨_, _, le.of_eq ?_, ⟨rfl, rfl⟩, ?_⟩); (simp_all [goesM]); (exact sub_))
section
attribute [local push_cast 2000] take_str
theorem goes2_dc (x y : List UInt8) (a b : List (List UInt8)) (F : Own) : ((∀ F : Own, True → DC Tryz.prog 147 [.sl (a.map V.str), .sl (b.map V.str)] (([] : Own) ++ F) fun d G => d = .bool (goesM a b) ∧ G = [] ++ F) ∧ (a.length ≤ 1000000000 ∧ b.length ≤ 1000000000)) → DC Tryz.prog 147 [.sl (.str x :: a.map V.str), .sl (.str y :: b.map V.str)] (([] : Own) ++ F) fun d G => d = .bool (goesM (x :: a) (y :: b)) ∧ G = [] ++ F := by
  intro hA
  obtain ⟨hcl, hla, hlb⟩ := hA
  refine DC.bodyS (n_ := 41) (show Tryz.prog.funcs[147]? = some Tryz.f147 by kernel_rfl) rfl rfl (by rfl) ?_
  simp only [env0, List.cons_append, List.nil_append]
  have kw := ksIs [0, 1, 4, 5, 12, 17]
  have ow := ownIs []
  have dw7 := drIs 7 [] [2, 7, 10, 18]
  repeat' (first
    | refine g_ ?_
    | ((with_reducible refine And.intro ?_ ?_); (exact sv))
    | (refine DW.cond (by rfl) ?_ ?_ <;> (first | exact i0_ | (refine ic_ ?_; intro hb)))
    | ((with_reducible first | refine FVg_cases ?_ ?_ | refine FDg_cases ?_ ?_) <;> (intro hb; rw [hb]; revert hb; (first | exact i0_ | (refine i_ ?_; intro hb))))
    | refine r_ ?_
    | refine d_ ?_
    | refine k_ ?_
    | ((refine dm_ ?_); (first | (refine v_ (hcl _) ?_)))
    | refine vo_ ?_
    | (refine q_ (hcl _) ?_)
    | refine o_ ?_
    | refine f_ ?_
    | refine vm_ ?_
    | with_reducible intro b)
  all_goals first
  | ((refine ⟨_, _, le.of_eq ?_, ⟨rfl, rfl⟩, ?_⟩); (simp_all [goesM]); (exact sub_))
end
theorem goes_dc : ∀ (a b : List (List UInt8)) (F : Own), (a.length ≤ 1000000000 ∧ b.length ≤ 1000000000) → DC Tryz.prog 147 [.sl (a.map V.str), .sl (b.map V.str)] (([] : Own) ++ F) fun d G => d = .bool (goesM a b) ∧ G = [] ++ F
  | [], b, F, h => goes0_dc b F h.2
  | x :: a, [], F, h => goes1_dc x a F (by have := h.1; simp only [List.length_cons] at this; omega)
  | x :: a, y :: b, F, h => by
    obtain ⟨h1, h2⟩ := h
    simp only [List.length_cons] at h1 h2
    exact goes2_dc x y a b F ⟨fun F _ => goes_dc a b F ⟨by omega, by omega⟩, by omega, by omega⟩
theorem match_dc (m : Int) (a b : List UInt8) (F : Own) : ((topicT a ∧ lvOK a) ∧ (topicT b ∧ lvOK b)) → DC Tryz.prog 93 [.str a, .str b] ([knF, knA, knM m] ++ F) fun d G => d = .bool (okF (levs a) && (!wildT b && matchM (levs a) (levs b))) ∧ G = [knF, knA, knM m] ++ F := by
  intro hA
  obtain ⟨hA1, ⟨hT, hL⟩⟩ := hA
  refine DC.bodyS (n_ := 41) (show Tryz.prog.funcs[93]? = some Tryz.f93 by kernel_rfl) rfl rfl (by rfl) ?_
  simp only [env0, List.cons_append, List.nil_append]
  have kw := ksIs [0, 1, 4, 5, 6, 14]
  have ow := ownIs []
  have hTa := hA1.1
  have hLa := hA1.2
  have hl1 : a.length ≤ 1000000000 := Nat.le_trans hTa.2.2 (by decide)
  have hl2 : b.length ≤ 1000000000 := Nat.le_trans hT.2.2 (by decide)
  have ha1 := hLa.1
  have hb1 := hL.1
  have ha0 : 0 < (levs a).length := by rw [levs_len]; omega
  have hb0 : 0 < (levs b).length := by rw [levs_len]; omega
  have hb2 : ((levs b).getD 0 default).length ≤ 1000000000 := (lv_0 hL).2
  
  repeat' (first
    | refine g_ ?_
    | ((with_reducible refine And.intro ?_ ?_); (exact sv))
    | (refine DW.cond (by rfl) ?_ ?_ <;> (first | exact i0_ | (refine ic_ ?_; intro hb)))
    | ((with_reducible refine FVg_cases ?_ ?_) <;> (intro hb; rw [hb]; revert hb; (first | exact i0_ | (refine i_ ?_; intro hb))))
    | refine r_ ?_
    | refine k_ ?_
    | ((first | refine q_ (filterg_dc _ _ _) ?_ | refine q_ (nameg_dc _ _) ?_ | refine q_ (levelsg_dc _ _ _) ?_ | refine q_ (hidden_dc _ _) ?_ | refine q_ (goes_dc _ _ _) ?_))
    | refine o_ ?_
    | refine f_ ?_
    | with_reducible intro b)
  all_goals first
  | ((refine ⟨_, _, le.of_eq ?_, ⟨rfl, rfl⟩, ?_⟩); (congr 1; clear hT hL hA1 hTa hLa; unfold matchM; simp_all); (exact sub_))
end Go.Proofs.YtfamfamgopchnaaGreatDoor
