/- Which topics a filter matches, as the document says; numbers held against one another. -/
import Derived.Test.YtfamfamgopchnaaGreatDoorPu2x
import Derived.Test.YtfamfamgopchnaaGreatDoorPu3x
import Derived.KernelRfl
namespace Go.Proofs.YtfamfamgopchnaaGreatDoor
open Go.RowKit
set_option linter.unusedSimpArgs false
set_option linter.unusedVariables false
set_option linter.unusedSectionVars false
set_option maxHeartbeats 4000000
set_option maxRecDepth 100000
attribute [local irreducible] DW SeqD DV DOp DC DVX


def matchB (a b : Str) : Bool := filterB a && (nameB b && !((((b.getD 0 0).toNat : Int) == 36) && ((((a.getD 0 0).toNat : Int) == 43) || (((a.getD 0 0).toNat : Int) == 35))) && goesM (lev a a.length) (lev b b.length))
theorem filterB_len {t : Str} (h : filterB t = true) : 1 ≤ t.length ∧ t.length ≤ 65535 := by
  unfold filterB at h; simp only [Bool.and_eq_true] at h; exact textB_len h.1
theorem nameB_len {t : Str} (h : nameB t = true) : 1 ≤ t.length ∧ t.length ≤ 65535 := by
  unfold nameB at h; simp only [Bool.and_eq_true] at h; exact textB_len h.1.1
theorem levl_len (t : Str) : (lev t t.length).length ≤ t.length + 1 := (lev_len (Nat.le_refl _)).2
attribute [local irreducible] filterB nameB lev
theorem rgoes0_dc (b : List (List UInt8)) (F : Own) : (b.length ≤ 1000000000) → DC Tryz.prog 96 [.sl [], .sl (b.map V.str)] (([] : Own) ++ F) fun d G => d = .bool (goesM [] b) ∧ G = [] ++ F := by
  intro hA
  have hl := hA
  refine DC.bodyS (n_ := 47) (show Tryz.prog.funcs[96]? = some Tryz.f96 by kernel_rfl) rfl rfl (by rfl) ?_
  simp only [env0, List.cons_append, List.nil_append]
  have kw := ksIs [0, 1, 4, 13, 21]
  have ow := ownIs []
  have dw5 := drIs 5 [] [2, 7, 10, 18]
  repeat' (first
    | refine g_ ?_
    | ((with_reducible refine And.intro ?_ ?_); (exact sv))
    | (refine DW.cond (by rfl) ?_ ?_ <;> (first | exact i0_ | (refine ic_ ?_; intro hb)))
    | ((with_reducible first | refine FVg_cases ?_ ?_ | refine FDg_cases ?_ ?_) <;> (intro hb; rw [hb]; revert hb; (first | exact i0_ | (refine i_ ?_; intro hb))))
    | refine r_ ?_
    | refine d_ ?_
    | refine k_ ?_
    | refine vo_ ?_
    | refine o_ ?_
    | refine f_ ?_
    | refine vm_ ?_
    | with_reducible intro b)
  all_goals first
  | ((refine ⟨_, _, le.of_eq ?_, ⟨rfl, rfl⟩, ?_⟩); (cases b with | nil => rfl | cons y b => (simp [goesM]; try omega)); (exact sub_))
theorem rgoes1_dc (x : List UInt8) (a : List (List UInt8)) (F : Own) : (a.length ≤ 1000000000) → DC Tryz.prog 96 [.sl (.str x :: a.map V.str), .sl []] (([] : Own) ++ F) fun d G => d = .bool (goesM (x :: a) []) ∧ G = [] ++ F := by
  intro hA
  have hl := hA
  refine DC.bodyS (n_ := 47) (show Tryz.prog.funcs[96]? = some Tryz.f96 by kernel_rfl) rfl rfl (by rfl) ?_
  simp only [env0, List.cons_append, List.nil_append]
  have kw := ksIs [0, 1, 4, 13, 21]
  have ow := ownIs []
  have dw5 := drIs 5 [] [2, 7, 10, 18]
  repeat' (first
    | refine g_ ?_
    | ((with_reducible refine And.intro ?_ ?_); (exact sv))
    | (refine DW.cond (by rfl) ?_ ?_ <;> (first | exact i0_ | (refine ic_ ?_; intro hb)))
    | ((with_reducible first | refine FVg_cases ?_ ?_ | refine FDg_cases ?_ ?_) <;> (intro hb; rw [hb]; revert hb; (first | exact i0_ | (refine i_ ?_; intro hb))))
    | refine r_ ?_
    | refine d_ ?_
    | refine k_ ?_
    | refine vo_ ?_
    | refine o_ ?_
    | refine f_ ?_
    | refine vm_ ?_
    | with_reducible intro b)
  all_goals first
  | ((have e1 : ((a.length : Int) + 1 == 0) = false := beq_eq_false_iff_ne.2 (by omega)); (refine ⟨_, _, le.of_eq ?_, ⟨rfl, rfl⟩, ?_⟩); (focus (simp_all [goesM]; done)); (exact sub_))
  | ((have e1 : ((a.length : Int) + 1 == 0) = false := beq_eq_false_iff_ne.2 (by omega)); (have e2 : (x == [35]) = false := beq_eq_false_iff_ne.2 (by assumption)); (refine ⟨_, _, le.of_eq ?_, ⟨rfl, rfl⟩, ?_⟩); (focus (rw [e1, goesM, e2]; rfl)); (exact sub_))
  | ((obtain rfl : x = [35] := by assumption); (refine ⟨_, _, le.of_eq ?_, ⟨rfl, rfl⟩, ?_⟩); (focus rfl); (exact sub_))
section
attribute [local push_cast 2000] take_str
theorem rgoes2_dc (x y : List UInt8) (a b : List (List UInt8)) (F : Own) : ((∀ F : Own, True → DC Tryz.prog 96 [.sl (a.map V.str), .sl (b.map V.str)] (([] : Own) ++ F) fun d G => d = .bool (goesM a b) ∧ G = [] ++ F) ∧ (a.length ≤ 1000000000 ∧ b.length ≤ 1000000000)) → DC Tryz.prog 96 [.sl (.str x :: a.map V.str), .sl (.str y :: b.map V.str)] (([] : Own) ++ F) fun d G => d = .bool (goesM (x :: a) (y :: b)) ∧ G = [] ++ F := by
  intro hA
  obtain ⟨hcl, hla, hlb⟩ := hA
  refine DC.bodyS (n_ := 47) (show Tryz.prog.funcs[96]? = some Tryz.f96 by kernel_rfl) rfl rfl (by rfl) ?_
  simp only [env0, List.cons_append, List.nil_append]
  have kw := ksIs [0, 1, 4, 13, 21]
  have ow := ownIs []
  have dw5 := drIs 5 [] [2, 7, 10, 18]
  repeat' (first
    | refine g_ ?_
    | ((with_reducible refine And.intro ?_ ?_); (exact sv))
    | (refine DW.cond (by rfl) ?_ ?_ <;> (first | exact i0_ | (refine ic_ ?_; intro hb)))
    | ((with_reducible first | refine FVg_cases ?_ ?_ | refine FDg_cases ?_ ?_) <;> (intro hb; rw [hb]; revert hb; (first | exact i0_ | (refine i_ ?_; intro hb))))
    | refine r_ ?_
    | refine d_ ?_
    | refine k_ ?_
    | ((refine dm_ ?_); (first | (refine v_ (hcl _) ?_)))
    | refine vo_ ?_
    | (refine q_ (hcl _) ?_)
    | refine o_ ?_
    | refine f_ ?_
    | refine vm_ ?_
    | with_reducible intro b)
  all_goals first
  | ((refine ⟨_, _, le.of_eq ?_, ⟨rfl, rfl⟩, ?_⟩); (simp_all [goesM]); (exact sub_))
end
theorem rgoes_dc : ∀ (a b : List (List UInt8)) (F : Own), (a.length ≤ 1000000000 ∧ b.length ≤ 1000000000) → DC Tryz.prog 96 [.sl (a.map V.str), .sl (b.map V.str)] (([] : Own) ++ F) fun d G => d = .bool (goesM a b) ∧ G = [] ++ F
  | [], b, F, h => rgoes0_dc b F h.2
  | x :: a, [], F, h => rgoes1_dc x a F (by have := h.1; simp only [List.length_cons] at this; omega)
  | x :: a, y :: b, F, h => by
    obtain ⟨h1, h2⟩ := h
    simp only [List.length_cons] at h1 h2
    exact rgoes2_dc x y a b F ⟨fun F _ => rgoes_dc a b F ⟨by omega, by omega⟩, by omega, by omega⟩
theorem lev2_dc (t : Str) (F : Own) : (t.length ≤ 65535) → DC Tryz.prog 97 [.str t] (([] : Own) ++ F) fun d G => d = .sl ((lev t t.length).map V.str) ∧ G = [] ++ F := levels_dc t F
theorem sv_rmatch_dc {p : Prop} (h : p := by first | exact sv | exact ⟨Nat.le_trans (levl_len a) (by omega), Nat.le_trans (levl_len b) (by omega)⟩ | (have hq := nameB_len (by assumption); omega) | (have hq := filterB_len (by assumption); omega) | fail) : p := h
section
attribute [local push_cast 2000] u8
theorem rmatch_dc (a b : Str) (F : Own) : (a.length ≤ 65535 ∧ b.length ≤ 65535) → DC Tryz.prog 40 [.str a, .str b] (([] : Own) ++ F) fun d G => d = .bool (matchB a b) ∧ G = [] ++ F := by
  intro hA
  obtain ⟨hla, hlb⟩ := hA
  refine DC.bodyS (n_ := 33) (show Tryz.prog.funcs[40]? = some Tryz.f40 by kernel_rfl) rfl rfl (by rfl) ?_
  simp only [env0, List.cons_append, List.nil_append]
  have kw := ksIs [0, 1, 4, 27]
  have ow := ownIs []
  repeat' (first
    | refine g_ ?_
    | ((with_reducible refine And.intro ?_ ?_); (exact sv_rmatch_dc))
    | (refine DW.cond (by rfl) ?_ ?_ <;> (first | exact i0_ | (refine ic_ ?_; intro hb)))
    | ((with_reducible refine FVg_cases ?_ ?_) <;> (intro hb; rw [hb]; revert hb; (first | exact i0_ | (refine i_ ?_; intro hb))))
    | refine r_ ?_
    | refine k_ ?_
    | ((first | refine q_ (rfilter_dc _ _) ?_ (ha := by exact sv_rmatch_dc) | refine q_ (rname_dc _ _) ?_ (ha := by exact sv_rmatch_dc)))
    | (refine q_ (lev2_dc _ _) ?_ (ha := by exact sv_rmatch_dc))
    | (refine q_ (rgoes_dc _ _ _) ?_ (ha := by exact sv_rmatch_dc))
    | refine o_ ?_
    | refine f_ ?_
    | with_reducible intro b)
  all_goals first
  | ((refine ⟨_, _, le.of_eq ?_, ⟨rfl, rfl⟩, ?_⟩); (focus (unfold matchB; simp_all; done)); (exact sub_); done)
  | ((refine ⟨_, _, le.of_eq ?_, ⟨rfl, rfl⟩, ?_⟩); (focus (unfold matchB; simp_all; omega)); (exact sub_); done)
end
theorem ints_dc (l q : List Int) (F : Own) : (l.length ≤ 1000000000 ∧ q.length ≤ 1000000000) → DC Tryz.prog 36 [.sl (l.map (V.int .i64)), .sl (q.map (V.int .i64))] (([] : Own) ++ F) fun d G => d = .bool (decide (l = q)) ∧ G = [] ++ F := by
  intro hA
  obtain ⟨hl, hq⟩ := hA
  refine DC.bodyS (n_ := 26) (show Tryz.prog.funcs[36]? = some Tryz.f36 by kernel_rfl) rfl rfl (by rfl) ?_
  simp only [env0, List.cons_append, List.nil_append]
  have kw := ksIs [0, 1, 4, 5, 10, 14, 25]
  have ow := ownIs []
  have dw6 := drIs 6 [] [3, 7]
  repeat' (first
    | ((with_reducible refine DW.loopB 0 (X := Nat) (fun x => x ≤ l.length ∧ eqK l q x) (fun x => [(0, .sl (l.map (V.int .i64))), (1, .sl (q.map (V.int .i64))), (5, .int .i64 x)]) (fun x => ([] : Own)) (fun x => l.length - x) (0) ?_ ?_ ?_); exact (⟨Nat.zero_le _, eqK_0 _ _⟩); (simp [Sub, get, keepL] <;> fail); (try simp only [List.cons_append, List.nil_append]); refine pl_ ?_; intro k ⟨hk, ek⟩; (try simp only [List.cons_append, List.nil_append]))
    | refine g_ ?_
    | ((with_reducible refine And.intro ?_ ?_); (exact sv))
    | (refine DW.cond (by rfl) ?_ ?_ <;> (first | exact i0_ | (refine ic_ ?_; intro hb)))
    | ((with_reducible first | refine FVg_cases ?_ ?_ | refine FDg_cases ?_ ?_) <;> (intro hb; rw [hb]; revert hb; (first | exact i0_ | (refine i_ ?_; intro hb))))
    | refine r_ ?_
    | refine d_ ?_
    | refine k_ ?_
    | refine vo_ ?_
    | refine o_ ?_
    | refine f_ ?_
    | refine vm_ ?_
    | with_reducible intro b)
  all_goals first
  | ((rw [show decide (l = q) = true from decide_eq_true (eqK_all ek (by omega) (by omega))]; (first | exact fin_ | refine finq_ ?_); done))
  | (refine ⟨k + 1, ⟨by omega, eqK_s ek hb⟩, by omega, by simp [Sub, get], ?_⟩; (exact sub_); done)
  | ((rw [show decide (l = q) = false from decide_eq_false (fun e => by subst e; first | (exact absurd rfl hb) | (simp at hb; done) | omega)]; (first | exact fin_ | refine finq_ ?_); done))
end Go.Proofs.YtfamfamgopchnaaGreatDoor
