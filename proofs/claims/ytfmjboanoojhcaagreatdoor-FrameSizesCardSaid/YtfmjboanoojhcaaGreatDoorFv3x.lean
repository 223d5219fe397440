/- How long each kind of frame is, to the byte. -/
import Derived.Test.YtfmjboanoojhcaaGreatDoorFq7x
import Derived.Test.YtfmjboanoojhcaaGreatDoorFp4x
import Derived.Test.YtfmjboanoojhcaaGreatDoorFm9x
import Derived.KernelRfl
namespace Go.Proofs.YtfmjboanoojhcaaGreatDoor
open Go.RowKit
set_option linter.unusedSimpArgs false
set_option linter.unusedVariables false
set_option linter.unusedSectionVars false
set_option maxHeartbeats 4000000
set_option maxRecDepth 100000


theorem flatBy_pre {α : Type} (g : α → Str) (l : List α) (k : Nat) : (flatBy g (l.take k)).length ≤ (flatBy g l).length := by
  have e : flatBy g l = flatBy g (l.take k) ++ flatBy g (l.drop k) := by
    unfold flatBy
    rw [← List.flatten_append, ← List.map_append, List.take_append_drop]
  rw [e, List.length_append]; omega
theorem light_r {t : TTable} (h : LightT t) (k : Nat) : (t.routes.getD k default).filter.length ≤ 2000000 := by
  by_cases hk : k < t.routes.length
  · exact h.rf _ (getD_mem hk)
  · rw [List.getD_eq_getElem?_getD, List.getElem?_eq_none (by omega)]; exact Nat.zero_le _
theorem light_c {t : TTable} (h : LightT t) (k : Nat) : (t.cells.getD k default).topic.length ≤ 2000000 ∧ (t.cells.getD k default).payload.length ≤ 2000000 := by
  by_cases hk : k < t.cells.length
  · exact ⟨h.ct _ (getD_mem hk), h.cp _ (getD_mem hk)⟩
  · rw [List.getD_eq_getElem?_getD, List.getElem?_eq_none (by omega)]; exact ⟨Nat.zero_le _, Nat.zero_le _⟩
theorem full_take3' (f : TFrame) : (fullBy f).take 3 = [72, 66, 49] := rfl
theorem kind_at {f : TFrame} (h0 : 1 ≤ f.kind) (h1 : f.kind ≤ 3) : (((fullBy f).getD 3 default).toNat : Int) = f.kind := by
  show ((byteI f.kind).toNat : Int) = f.kind
  unfold byteI; rw [UInt8.toNat_ofNat']; omega
theorem len_1 {f : TFrame} (h : f.kind = 1) (h2 : frameB f = true) : (fullBy f).length = 36 + (8 + 80 + 8 + 24 * f.seen.length) := by
  have h10 : f.sums.length = 10 := by
    unfold frameB at h2; rw [if_pos h] at h2
    simp only [Bool.and_eq_true, decide_eq_true_eq] at h2
    exact h2.2.1.1.1
  rw [fullBy_len, restP_1 h]
  simp only [List.length_append, numsL_len, dotsBy_len, flatBy_len (f := sumBy) (n := 8) (l := f.sums) (fun x _ => sumP_len x), List.length_cons, List.length_nil, h10]
  omega
theorem len_2 {f : TFrame} (h : f.kind = 2) : (fullBy f).length = 36 + (32 + 24 * f.tab.seen.length + 16 * f.tab.fences.length) + (flatBy routeBy f.tab.routes).length + (flatBy cellBy f.tab.cells).length := by
  rw [fullBy_len, restP_2 h]
  simp only [tableBy, List.length_append, numsL_len, dotsBy_len, flatBy_len (f := fenceBy) (n := 16) (l := f.tab.fences) (fun x _ => fenceBy_len x), List.length_cons, List.length_nil]
  omega
theorem len_3 {f : TFrame} (h : f.kind = 3) : (fullBy f).length = 36 + (32 + f.topic.length + f.payload.length) := by
  rw [fullBy_len, restP_3 h]
  simp only [List.length_append, numsL_len, textBy_len, List.length_cons, List.length_nil]
  omega
attribute [local irreducible] DW SeqD DV DOp DC DVX DVJ fullBy frameB flatBy
theorem sv_frameSizes_dc {p : Prop} (h : p := by first | exact sv | (simp [u8, V.one]; omega) | (simp [u8, V.one] <;> fail) | exact ⟨hn20, deeds_ok hl hx30, hk, ha, by omega⟩ | exact ⟨hf.b, hf.r⟩ | fail) : p := h
section
attribute [local push_cast 2000] u8 isU8 full_take3' kind_at takeMap byteOf_map isU8_map encRoute encCell
theorem frameSizes_dc (l : List TDeed) (k a : Int) (x : List UInt8) (m0 : Int) (F : Own) : ((∀ d ∈ l, deedR d) ∧ (0 ≤ k ∧ k ≤ 255) ∧ (0 ≤ a ∧ a ≤ 255)) → DC Tryz.prog 5 [.sl (l.map encDeed), .int .u8 k, .int .u8 a, .sl (x.map u8)] ([knF, knA, knM m0] ++ F) fun d G => d = .bool true ∧ G = [knF, knA, knM m0] ++ F := by
  intro hA
  obtain ⟨hl, hk, ha⟩ := hA
  refine DC.bodyS (n_ := 138) (show Tryz.prog.funcs[5]? = some Tryz.f5 by kernel_rfl) rfl rfl (by rfl) ?_
  simp only [env0, List.take_zero, List.cons_append, List.nil_append]
  have kw := ksIs [0, 1, 2, 3, 8, 9, 10, 11, 12, 13, 14, 15, 17, 25, 37, 48, 57, 77, 94]
  have ow := ownIs []
  have dw22 := drIs 22 [] [2, 6, 10, 14]
  have dw23 := drIs 23 [] [17, 20]
  repeat' (first
    | ((fail_if_success (have zz := hfn)); have hfn := hf.n; have hkd := frameB_kind hf.r; have hq1 := hf.b.seen; have hq2 := hf.b.tab.s; have hq3 := hf.b.tab.f; have hq4 := hf.b.top; have hq5 := hf.b.tab.r; have hq6 := hf.b.tab.c)
    | ((with_reducible apply DW.frzB 6 9); (focus (exact rfl)); (repeat (with_reducible first | refine Out.here ?_ | refine Out.next ?_)); simp only [put_cons, put_nil, Nat.reduceEqDiff, ↓reduceIte, if_true, if_false, reduceCtorEq])
    | ((with_reducible apply DW.frzB 14 13); (focus (exact rfl)); (repeat (with_reducible first | refine Out.here ?_ | refine Out.next ?_)); simp only [put_cons, put_nil, Nat.reduceEqDiff, ↓reduceIte, if_true, if_false, reduceCtorEq])
    | ((with_reducible refine DW.loopB 1 (X := Nat × Nat) (fun x => x.1 ≤ f.tab.routes.length ∧ x.2 = 36 + (32 + 24 * f.tab.seen.length + 16 * f.tab.fences.length) + (flatBy routeBy (f.tab.routes.take x.1)).length) (fun x => [(9, .sp [.int .i64 f.kind, .int .i64 f.fr, .int .i64 f.ep, .int .i64 f.at_, .sl (f.sums.map encU), .sl (f.seen.map encDot), .sl (f.tab.seen.map encDot), .sl (f.tab.fences.map encFence), .sl (f.tab.routes.map encRoute), .sl (f.tab.cells.map encCell), .int .i64 f.seq, .str f.topic, .sl (f.payload.map u8), .int .i64 f.qos, .bool f.retain]), (10, .gs v1 ((fullBy f).map u8)), (11, .int .i64 0), (12, .int .i64 x.2), (13, .sp [.sl (f.tab.seen.map encDot), .sl (f.tab.fences.map encFence), .sl (f.tab.routes.map encRoute), .sl (f.tab.cells.map encCell)]), (14, .int .i64 x.1)]) (fun x => ([] : Own)) (fun x => f.tab.routes.length - x.1) ((0, 36 + (32 + 24 * f.tab.seen.length + 16 * f.tab.fences.length))) ?_ ?_ ?_); exact (⟨Nat.zero_le _, by simp [flatBy_0]⟩); (simp [Sub, get, keepL] <;> fail); (try simp only [List.take_zero, List.cons_append, List.nil_append]); refine pl_ ?_; intro ⟨i, m⟩ ⟨hi, hm⟩; (try simp only [List.take_zero, List.cons_append, List.nil_append]); simp only at hi hm; have z1 := flatBy_pre routeBy f.tab.routes i; have z2 := len_2 (f := f) (by assumption); have z3 := light_r hf.b.tab i)
    | ((have hix : i = f.tab.routes.length := by omega); subst hix; rw [List.take_length] at hm; ((with_reducible refine DW.loopB 3 (X := Nat × Nat) (fun x => x.1 ≤ f.tab.cells.length ∧ x.2 = 36 + (32 + 24 * f.tab.seen.length + 16 * f.tab.fences.length) + (flatBy routeBy f.tab.routes).length + (flatBy cellBy (f.tab.cells.take x.1)).length) (fun x => [(9, .sp [.int .i64 f.kind, .int .i64 f.fr, .int .i64 f.ep, .int .i64 f.at_, .sl (f.sums.map encU), .sl (f.seen.map encDot), .sl (f.tab.seen.map encDot), .sl (f.tab.fences.map encFence), .sl (f.tab.routes.map encRoute), .sl (f.tab.cells.map encCell), .int .i64 f.seq, .str f.topic, .sl (f.payload.map u8), .int .i64 f.qos, .bool f.retain]), (10, .gs v1 ((fullBy f).map u8)), (11, .int .i64 0), (12, .int .i64 x.2), (13, .sp [.sl (f.tab.seen.map encDot), .sl (f.tab.fences.map encFence), .sl (f.tab.routes.map encRoute), .sl (f.tab.cells.map encCell)]), (15, .int .i64 x.1)]) (fun x => ([] : Own)) (fun x => f.tab.cells.length - x.1) ((0, m)) ?_ ?_ ?_); exact (⟨Nat.zero_le _, by simp [flatBy_0, hm]⟩); (simp [Sub, get, keepL] <;> fail); (try simp only [List.take_zero, List.cons_append, List.nil_append]); refine pl_ ?_; intro ⟨j, m2⟩ ⟨hj, hm2⟩; (try simp only [List.take_zero, List.cons_append, List.nil_append]); simp only at hj hm2; have z1 := flatBy_pre cellBy f.tab.cells j; have z2 := len_2 (f := f) (by assumption); obtain ⟨z3, z4⟩ := light_c hf.b.tab j))
    | refine g_ ?_
    | ((with_reducible refine And.intro ?_ ?_); (exact sv_frameSizes_dc))
    | (refine DW.cond (by rfl) ?_ ?_ <;> (first | exact i0_ | (refine ic_ ?_; intro hb)))
    | ((with_reducible first | refine FVg_cases ?_ ?_ | refine FDg_cases ?_ ?_) <;> (intro hb; rw [hb]; revert hb; (first | exact i0_ | (refine i_ ?_; intro hb))))
    | refine r_ ?_
    | refine d_ ?_
    | refine k_ ?_
    | ((refine dm_ ?_); (first | (refine v_ (known14_dc _) ?_ (ha := by exact sv_frameSizes_dc))))
    | refine vo_ ?_
    | (refine q_ (known14_dc _) ?_ (ha := by exact sv_frameSizes_dc))
    | (refine p_ (few_dc _ _) ?_ (ha := by exact sv_frameSizes_dc); rintro d H1 (⟨rfl, ⟨hn20, hx30⟩, rfl⟩ | ⟨rfl, rfl⟩) <;> refine s_ ?_)
    | (refine p_ (someF_dc _ _ _ _ _) ?_ (ha := by exact sv_frameSizes_dc); rintro d H1 ⟨f, hf, rfl, rfl⟩ <;> refine s_ ?_)
    | (refine p_ (pfput_dc _ _ _) ?_ (ha := by exact sv_frameSizes_dc); rintro d H1 (⟨hle, v1, rfl, rfl⟩ | ⟨hgt, rfl, rfl⟩) <;> refine s_ ?_)
    | refine o_ ?_
    | refine f_ ?_
    | refine vm_ ?_
    | with_reducible intro b)
  all_goals first
  | (refine ⟨(i + 1, m + (32 + (f.tab.routes.getD i default).filter.length)), ⟨by dsimp only; omega, ?_⟩, by dsimp only; omega, ?_, ?_⟩; (dsimp only; rw [flatBy_next routeBy (show i < f.tab.routes.length by omega), List.length_append, routeBy_len]; omega); (simp [Sub, get] <;> fail); (exact sub_); done)
  | (refine ⟨(j + 1, m2 + (80 + (f.tab.cells.getD j default).topic.length + (f.tab.cells.getD j default).payload.length)), ⟨by dsimp only; omega, ?_⟩, by dsimp only; omega, ?_, ?_⟩; (dsimp only; rw [flatBy_next cellBy (show j < f.tab.cells.length by omega), List.length_append, cellBy_len]; omega); (simp [Sub, get] <;> fail); (exact sub_); done)
  | ((first | exact fin_ | refine finq_ ?_); done)
  | (exact absurd rfl hb)
  | (exfalso; have hl1 := len_1 (by assumption) hf.r; omega)
  | (exfalso; have hjx : j = f.tab.cells.length := by omega
     subst hjx
     rw [List.take_length] at hm2
     have hl1 := len_2 (f := f) (by assumption); omega)
  | (exfalso; have hl1 := len_3 (f := f) (by omega); have hp := congrArg List.length (hf.p (by omega)); omega)
  | (exfalso; omega)
  | (trace_state; fail)
end
end Go.Proofs.YtfmjboanoojhcaaGreatDoor
