/- Numbers, texts laid down behind bytes that are owned. -/
import Derived.Test.YtfmjboanoojhcaaGreatDoorFrx
import Derived.Test.YtfmjboanoojhcaaGreatDoorEu
import Derived.KernelRfl
import Derived.Test.YtfmjboanoojhcaaGreatDoorFp3x
import Derived.Test.YtfmjboanoojhcaaGreatDoorFm3x
import Derived.Test.YtfmjboanoojhcaaGreatDoorFm5x
import Derived.Test.YtfmjboanoojhcaaGreatDoorPtgx
namespace Go.Proofs.YtfmjboanoojhcaaGreatDoor
open Go.RowKit
set_option linter.unusedSimpArgs false
set_option linter.unusedVariables false
set_option linter.unusedSectionVars false
set_option maxHeartbeats 4000000
set_option maxRecDepth 100000
attribute [local irreducible] DW SeqD DV DOp DC DVX


theorem shK_div (x : Int) : ∀ k, shK k x = x / 2 ^ (8 * k)
  | 0 => by simp [shK]
  | k + 1 => by
    show (shK k x).fdiv (2 ^ min 8 IntKind.u64.bits) = _
    rw [shK_div x k, show ((2 : Int) ^ min 8 IntKind.u64.bits) = 256 from rfl, Int.fdiv_eq_ediv_of_nonneg _ (by decide), Int.ediv_ediv_of_nonneg (Int.pow_nonneg (by decide)), Nat.mul_add, Int.pow_add]
    rfl
theorem sh_at (x : Int) {k : Nat} (h : k < 8) : x.fdiv (2 ^ min (8 * (k : Int)).toNat IntKind.u64.bits) = shK k x := by
  rw [shK_div, show (8 * (k : Int)).toNat = 8 * k by omega, show min (8 * k) IntKind.u64.bits = 8 * k from Nat.min_eq_left (by show 8 * k ≤ 64; omega), Int.fdiv_eq_ediv_of_nonneg _ (Int.pow_nonneg (by decide))]
section
attribute [local push_cast 2000] cells_cons cells_nil sh_at
end
section
attribute [local push_cast 2000] encJ
end
section
attribute [local push_cast 2000] cells_u8
end
section
attribute [local push_cast 2000] encDot
end
end Go.Proofs.YtfmjboanoojhcaaGreatDoor
/- A frame laid down, whatever it tells. -/
namespace Go.Proofs.YtfmjboanoojhcaaGreatDoor
open Go.RowKit
set_option linter.unusedSimpArgs false
set_option linter.unusedVariables false
set_option linter.unusedSectionVars false
set_option maxHeartbeats 4000000
set_option maxRecDepth 100000


def hdP (k x y z : Int) : Str := [72, 66, 49, byteI k] ++ numsL [x, y, z]
theorem hdP_len (k x y z : Int) : (hdP k x y z).length = 28 := by simp [hdP, numsL_len]
theorem bodyP {f : TFrame} {l : Str} (h : l = restBy f) : hdP f.kind f.fr f.ep f.at_ ++ l = bodyBy f := by subst h; rfl
theorem fullP {f : TFrame} {l : Str} (h : l = bodyBy f) : l ++ leK 8 (fnvV l) = fullBy f := by subst h; rfl
theorem restP_1 {f : TFrame} (h : f.kind = 1) : restBy f = numsL [(f.sums.length : Int)] ++ flatBy sumBy f.sums ++ dotsBy f.seen := by rw [restBy, if_pos h]
theorem restP_2 {f : TFrame} (h : f.kind = 2) : restBy f = tableBy ⟨f.tab.seen, f.tab.fences, f.tab.routes, f.tab.cells⟩ := by rw [restBy, if_neg (by omega), if_pos h]
theorem restP_3 {f : TFrame} (h : f.kind = 3) : restBy f = numsL [f.seq] ++ textBy f.topic ++ textBy f.payload ++ numsL [f.qos] := by rw [restBy, if_neg (by omega), if_neg (by omega)]
theorem sumP_len (x : Int) : (sumBy x).length = 8 := leK_len _ _
theorem numbersK_dc (v : Value) (k x y z : Int) (F : Own) : (0 ≤ k ∧ k ≤ 255) → DC Tryz.prog 51 [.gs v [.int .u8 72, .int .u8 66, .int .u8 49, .int .u8 k], .sl [.int .i64 x, .int .i64 y, .int .i64 z]] ([.tail 1 v] ++ F) fun d G => ∃ v1, d = .gs v1 ((hdP k x y z).map u8) ∧ G = .tail 1 v1 :: F := fun h => by
  have := numbers_dc v [72, 66, 49, byteI k] [x, y, z] F ⟨by simp, by simp⟩
  have e : V.int .u8 k = u8 (byteI k) := by rw [u8_byteI, wrap_u8 k h.1 h.2]
  rw [e]; exact this
theorem pfrightY_dc (f : TFrame) (m : Int) (F : Own) : (LightF f ∧ frameB f = true) → DC Tryz.prog 19 [.agg [.int .i64 f.kind, .int .i64 f.fr, .int .i64 f.ep, .int .i64 f.at_, .sl (f.sums.map encU), .sl (f.seen.map encDot), .sl (f.tab.seen.map encDot), .sl (f.tab.fences.map encFence), .sl (f.tab.routes.map encRoute), .sl (f.tab.cells.map encCell), .int .i64 f.seq, .str f.topic, .sl (f.payload.map u8), .int .i64 f.qos, .bool f.retain]] ([knF, knA, knM m] ++ F) fun d G => d = .bool true ∧ G = [knF, knA, knM m] ++ F := fun h => by
  have := pfright_dc f m F h.1; rwa [h.2] at this
theorem tableP_len {f : TFrame} (h : LightF f) : (tableBy ⟨f.tab.seen, f.tab.fences, f.tab.routes, f.tab.cells⟩).length ≤ 700000000000 := by
  have h1 := h.tab.s; have h2 := h.tab.f; have h3 := h.tab.r; have h4 := h.tab.c
  have e1 := flatBy_le (f := fenceBy) (n := 16) (l := f.tab.fences) (fun x _ => Nat.le_of_eq (fenceBy_len x))
  have e2 := flatBy_le (f := routeBy) (n := 2000032) (l := f.tab.routes) (fun x hx => by rw [routeBy_len]; have := h.tab.rf x hx; omega)
  have e3 := flatBy_le (f := cellBy) (n := 4000080) (l := f.tab.cells) (fun x hx => by rw [cellBy_len]; have := h.tab.ct x hx; have := h.tab.cp x hx; omega)
  simp only [tableBy, List.length_append, numsL_len, dotsBy_len, List.length_cons, List.length_nil]
  omega
theorem frameB_kind {f : TFrame} (h : frameB f = true) : 1 ≤ f.kind ∧ f.kind ≤ 3 := by
  unfold frameB at h
  rw [Bool.and_eq_true] at h
  have h := h.2
  by_cases h1 : f.kind = 1
  · omega
  · rw [if_neg h1] at h
    by_cases h2 : f.kind = 2
    · omega
    · rw [if_neg h2] at h
      by_cases h3 : f.kind = 3
      · omega
      · rw [if_neg h3] at h; cases h
attribute [local irreducible] DW SeqD DV DOp DC DVX DVJ nameB tabB rightB frameB numsL textBy flatBy dotsBy tableBy hdP leK
theorem sv_pfput_dc {p : Prop} (h : p := by first | exact sv | (simp only [List.length_append, leK_len, numsL_len, textBy_len, dotsBy_len, hdP_len, List.length_cons, List.length_nil]; omega) | (refine ⟨?_, ?_⟩ <;> first | omega | (simp only [List.length_append, leK_len, numsL_len, textBy_len, dotsBy_len, hdP_len, List.length_cons, List.length_nil]; omega)) | (refine ⟨?_, ?_, ?_⟩ <;> first | omega | (simp only [List.length_append, leK_len, numsL_len, textBy_len, dotsBy_len, hdP_len, List.length_cons, List.length_nil]; omega)) | exact ⟨hf, hB⟩ | (refine ⟨?_, ⟨?_, ?_, ?_, ?_⟩, ?_, ?_, ?_⟩ <;> first | omega | exact (fun k hk => hf.tab.rf _ (getD_mem hk)) | exact (fun k hk => hf.tab.ct _ (getD_mem hk)) | exact (fun k hk => hf.tab.cp _ (getD_mem hk)) | (rw [hdP_len]; decide)) | fail) : p := h
section
attribute [local push_cast 2000] V.sl.injEq forall_eq' byteOf_map isU8_map encU
theorem pfput_dc (f : TFrame) (m : Int) (F : Own) : (LightF f ∧ frameB f = true) → DC Tryz.prog 17 [.agg [.int .i64 f.kind, .int .i64 f.fr, .int .i64 f.ep, .int .i64 f.at_, .sl (f.sums.map encU), .sl (f.seen.map encDot), .sl (f.tab.seen.map encDot), .sl (f.tab.fences.map encFence), .sl (f.tab.routes.map encRoute), .sl (f.tab.cells.map encCell), .int .i64 f.seq, .str f.topic, .sl (f.payload.map u8), .int .i64 f.qos, .bool f.retain]] ([knF, knA, knM m] ++ F) fun d G => ((fullBy f).length ≤ 1048576 ∧ ∃ v1, d = .tup [.gs v1 ((fullBy f).map u8), .int .i64 0] ∧ G = .tail 1 v1 :: ([knF, knA, knM m] ++ F)) ∨ (1048576 < (fullBy f).length ∧ d = .tup [.gs (.slice none 0 0) [], .int .i64 22] ∧ G = [knF, knA, knM m] ++ F) := by
  intro hA
  obtain ⟨hf, hB⟩ := hA
  refine DC.bodyS (n_ := 86) (show Tryz.prog.funcs[17]? = some Tryz.f17 by kernel_rfl) rfl rfl (by rfl) ?_
  simp only [env0, List.cons_append, List.nil_append]
  have kw := ksIs [0, 1, 2, 3, 4, 6, 9, 26, 27, 36, 37, 38, 39, 50, 56, 84]
  have ow := ownIs [10, 11]
  have dw3 := drIs 3 [0, 1, 6, 14] []
  have dw16 := drIs 16 [4, 8, 13, 18] [2]
  have hk3 := frameB_kind hB; have q1 := hf.sums; have q2 := hf.seen; have q3 := hf.tab.s; have q4 := hf.tab.f; have q5 := hf.tab.r; have q6 := hf.tab.c; have q7 := hf.top; have q8 := hf.msg; have q9 := hdP_len f.kind f.fr f.ep f.at_; have q10 := tableP_len hf
  repeat' (first
    | ((with_reducible refine DW.loopB 1 (X := Nat × Value × Str) (fun x => x.1 ≤ f.sums.length ∧ x.2.2 = hdP f.kind f.fr f.ep f.at_ ++ numsL [(f.sums.length : Int)] ++ flatBy sumBy (f.sums.take x.1) ∧ x.2.2.length ≤ 100 + 8 * x.1) (fun x => [(1, .sp [.int .i64 f.kind, .int .i64 f.fr, .int .i64 f.ep, .int .i64 f.at_, .sl (f.sums.map encU), .sl (f.seen.map encDot), .sl (f.tab.seen.map encDot), .sl (f.tab.fences.map encFence), .sl (f.tab.routes.map encRoute), .sl (f.tab.cells.map encCell), .int .i64 f.seq, .str f.topic, .sl (f.payload.map u8), .int .i64 f.qos, .bool f.retain]), (4, .gs x.2.1 (x.2.2.map u8)), (36, .sl (f.sums.map encU)), (37, .int .i64 f.sums.length), (38, .int .i64 x.1)]) (fun x => .tail 1 x.2.1 :: ([] : Own)) (fun x => f.sums.length - x.1) ((0, v1, hdP f.kind f.fr f.ep f.at_ ++ numsL [(f.sums.length : Int)])) ?_ ?_ ?_); exact (⟨Nat.zero_le _, by simp [flatBy_0], by simp only [List.length_append, hdP_len, numsL_len, List.length_cons, List.length_nil]; omega⟩); (simp [Sub, get, keepL] <;> fail); (try simp only [List.cons_append, List.nil_append]); refine pl_ ?_; intro ⟨k, y, ls⟩ ⟨hk, hs, hm⟩; (try simp only [List.cons_append, List.nil_append]); simp only at hk hs hm)
    | refine g_ ?_
    | ((with_reducible refine And.intro ?_ ?_); (exact sv_pfput_dc))
    | (refine DW.cond (by rfl) ?_ ?_ <;> (first | exact i0_ | (refine ic_ ?_; intro hb)))
    | ((with_reducible first | refine FVg_cases ?_ ?_ | refine FDg_cases ?_ ?_) <;> (intro hb; rw [hb]; revert hb; (first | exact i0_ | (refine i_ ?_; intro hb))))
    | refine r_ ?_
    | refine d_ ?_
    | refine k_ ?_
    | ((refine dm_ ?_); (first | ((first | refine v_ (pfrightY_dc _ _ _) ?_ (ha := by exact sv_pfput_dc) | refine v_ (fnv_dc _ _) ?_ (ha := by exact sv_pfput_dc)))))
    | refine vo_ ?_
    | ((first | refine q_ (pfrightY_dc _ _ _) ?_ (ha := by exact sv_pfput_dc) | refine q_ (fnv_dc _ _) ?_ (ha := by exact sv_pfput_dc)))
    | (refine p_ (numbersK_dc _ _ _ _ _ _) ?_ (ha := by exact sv_pfput_dc); rintro d H1 ⟨v1, rfl, rfl⟩ <;> refine s_ ?_)
    | (refine p_ (numbersJ1_dc _ _ _ _) ?_ (ha := by exact sv_pfput_dc); rintro d H1 ⟨v1, rfl, rfl⟩ <;> refine s_ ?_)
    | ((first | refine p_ (number_dc _ _ _ _) ?_ (ha := by exact sv_pfput_dc) | refine p_ (plines_dc _ _ _ _) ?_ (ha := by exact sv_pfput_dc) | refine p_ (pstate_dc _ _ _ _ _ _ _) ?_ (ha := by exact sv_pfput_dc) | refine p_ (textJ_dc _ _ _ _) ?_ (ha := by exact sv_pfput_dc)); rintro d H1 ⟨v1, rfl, rfl⟩ <;> refine s_ ?_)
    | refine o_ ?_
    | refine f_ ?_
    | refine vm_ ?_
    | with_reducible intro b)
  all_goals first
  | (exfalso; omega)
  | (refine ⟨(k + 1, v1, ls ++ sumBy (f.sums.getD k default)), ⟨?_, ?_, ?_⟩, ?_, ?_, ?_⟩; (dsimp only; omega); (dsimp only; rw [hs, flatBy_next sumBy (show k < f.sums.length by omega)]; simp only [List.append_assoc]); (dsimp only; rw [List.length_append]; have hx := sumP_len (f.sums.getD k default); omega); (dsimp only; omega); (simp [Sub, get, sumBy] <;> fail); (dsimp only; (try simp only [sumBy, List.append_assoc]); (exact sub_)); done)
  | (have hkx : k = f.sums.length := by omega
     subst hkx
     rw [List.take_length] at hs
     have e : ls ++ dotsBy f.seen = bodyBy f := by
       rw [← bodyP (l := restBy f) rfl, hs, restP_1 (by assumption)]; (try simp only [List.append_assoc])
     have e2 := fullP e
     simp only [List.append_assoc] at e2
     have e3 := congrArg List.length e2
     simp only [List.length_append] at e3
     (try rw [e2])
     first
     | (refine ⟨_, _, le.rfl_, .inr ⟨by omega, rfl, rfl⟩, ?_⟩; (exact sub_); done)
     | (refine ⟨_, _, le.rfl_, .inl ⟨by omega, _, rfl, rfl⟩, ?_⟩; (exact sub_); done))
  | (have e : hdP f.kind f.fr f.ep f.at_ ++ tableBy ⟨f.tab.seen, f.tab.fences, f.tab.routes, f.tab.cells⟩ = bodyBy f := by
       rw [← bodyP (l := restBy f) rfl, restP_2 (by assumption)]; (try simp only [List.append_assoc])
     have e2 := fullP e
     simp only [List.append_assoc] at e2
     have e3 := congrArg List.length e2
     simp only [List.length_append] at e3
     (try rw [e2])
     first
     | (refine ⟨_, _, le.rfl_, .inr ⟨by omega, rfl, rfl⟩, ?_⟩; (exact sub_); done)
     | (refine ⟨_, _, le.rfl_, .inl ⟨by omega, _, rfl, rfl⟩, ?_⟩; (exact sub_); done))
  | (have e : hdP f.kind f.fr f.ep f.at_ ++ (numsL [f.seq] ++ (textBy f.topic ++ (textBy f.payload ++ numsL [f.qos]))) = bodyBy f := by
       rw [← bodyP (l := restBy f) rfl, restP_3 (by assumption)]; (try simp only [List.append_assoc])
     have e2 := fullP e
     simp only [List.append_assoc] at e2
     have e3 := congrArg List.length e2
     simp only [List.length_append] at e3
     (try rw [e2])
     first
     | (refine ⟨_, _, le.rfl_, .inr ⟨by omega, rfl, rfl⟩, ?_⟩; (exact sub_); done)
     | (refine ⟨_, _, le.rfl_, .inl ⟨by omega, _, rfl, rfl⟩, ?_⟩; (exact sub_); done))
  | (trace_state; fail)
end
end Go.Proofs.YtfmjboanoojhcaaGreatDoor
/- Any bytes are read, number by number. -/
namespace Go.Proofs.YtfmjboanoojhcaaGreatDoor
open Go.RowKit
set_option linter.unusedSimpArgs false
set_option linter.unusedVariables false
set_option linter.unusedSectionVars false
set_option maxHeartbeats 4000000
set_option maxRecDepth 100000


/-- What is left of bytes that are read, and whether there were too few. -/
structure RS where
  l : Str
  k : Bool
def takeR (s : RS) (n : Int) : Str × RS := if n ≤ s.l.length then (s.l.take n.toNat, ⟨s.l.drop n.toNat, s.k⟩) else ([], ⟨[], true⟩)
def numR (s : RS) : Int × RS := if 8 ≤ s.l.length then (valL (s.l.take 8), ⟨s.l.drop 8, s.k⟩) else (0, ⟨[], true⟩)
attribute [local irreducible] DW SeqD DV DOp DC DVX DVJ leK valL
def intR (s : RS) : Int × RS := (IntKind.i64.wrap (numR s).1, (numR s).2)
def textR (s : RS) : Str × RS := takeR (numR s).2 (numR s).1
def dotR (s : RS) : TDot × RS := (⟨(intR s).1, (intR (intR s).2).1, (intR (intR (intR s).2).2).1⟩, (intR (intR (intR s).2).2).2)
attribute [local irreducible] numR takeR
section
attribute [local push_cast 2000] byteOf_map isU8_map
end
attribute [local irreducible] intR
end Go.Proofs.YtfmjboanoojhcaaGreatDoor
/- Any bytes are read: a cell; what each reading consumes. -/
namespace Go.Proofs.YtfmjboanoojhcaaGreatDoor
open Go.RowKit
set_option linter.unusedSimpArgs false
set_option linter.unusedVariables false
set_option linter.unusedSectionVars false
set_option maxHeartbeats 4000000
set_option maxRecDepth 100000


def mu (s : RS) : Nat := if s.k = true then 0 else s.l.length + 1
theorem numR_mu (s : RS) : mu (numR s).2 ≤ mu s ∧ (s.k = false → mu (numR s).2 < mu s) := by
  unfold numR mu
  by_cases h : 8 ≤ s.l.length
  · rw [if_pos h]
    cases hk : s.k <;> simp [hk] <;> omega
  · rw [if_neg h]
    cases hk : s.k <;> simp [hk]
theorem takeR_mu (s : RS) (n : Int) : mu (takeR s n).2 ≤ mu s := by
  unfold takeR mu
  split
  · cases hk : s.k <;> simp [hk]
  · simp
theorem intR_mu (s : RS) : mu (intR s).2 ≤ mu s ∧ (s.k = false → mu (intR s).2 < mu s) := numR_mu s
theorem textR_mu (s : RS) : mu (textR s).2 ≤ mu s ∧ (s.k = false → mu (textR s).2 < mu s) :=
  ⟨Nat.le_trans (takeR_mu _ _) (numR_mu s).1, fun h => Nat.lt_of_le_of_lt (takeR_mu _ _) ((numR_mu s).2 h)⟩
theorem dotR_mu (s : RS) : mu (dotR s).2 ≤ mu s ∧ (s.k = false → mu (dotR s).2 < mu s) :=
  ⟨Nat.le_trans (intR_mu _).1 (Nat.le_trans (intR_mu _).1 (intR_mu s).1), fun h => Nat.lt_of_le_of_lt (intR_mu _).1 (Nat.lt_of_le_of_lt (intR_mu _).1 ((intR_mu s).2 h))⟩
attribute [local irreducible] numR intR textR dotR takeR
def cS1 (s : RS) : RS := (dotR s).2
def cS2 (s : RS) : RS := (numR (cS1 s)).2
def cS3 (s : RS) : RS := (numR (cS2 s)).2
def cS4 (s : RS) : RS := (intR (cS3 s)).2
def cS5 (s : RS) : RS := (textR (cS4 s)).2
def cS6 (s : RS) : RS := (textR (cS5 s)).2
def cS7 (s : RS) : RS := (intR (cS6 s)).2
def cS8 (s : RS) : RS := (numR (cS7 s)).2
def cellR (s : RS) : TCell × RS := (⟨(dotR s).1, ⟨IntKind.i64.wrap (numR (cS1 s)).1, IntKind.i64.wrap (numR (cS2 s)).1, (intR (cS3 s)).1⟩, (textR (cS4 s)).1, (textR (cS5 s)).1, (intR (cS6 s)).1, (numR (cS7 s)).1 == 1⟩, cS8 s)
theorem cS_mu (s : RS) : mu (cS8 s) ≤ mu (cS1 s) := by
  have h2 : mu (cS2 s) ≤ mu (cS1 s) := (numR_mu (cS1 s)).1
  have h3 : mu (cS3 s) ≤ mu (cS2 s) := (numR_mu (cS2 s)).1
  have h4 : mu (cS4 s) ≤ mu (cS3 s) := (intR_mu (cS3 s)).1
  have h5 : mu (cS5 s) ≤ mu (cS4 s) := (textR_mu (cS4 s)).1
  have h6 : mu (cS6 s) ≤ mu (cS5 s) := (textR_mu (cS5 s)).1
  have h7 : mu (cS7 s) ≤ mu (cS6 s) := (intR_mu (cS6 s)).1
  have h8 : mu (cS8 s) ≤ mu (cS7 s) := (numR_mu (cS7 s)).1
  omega
theorem cellR_2 (s : RS) : (cellR s).2 = cS8 s := rfl
theorem cellR_mu (s : RS) : mu (cellR s).2 ≤ mu s ∧ (s.k = false → mu (cellR s).2 < mu s) := by
  rw [cellR_2]
  have h := cS_mu s
  exact ⟨Nat.le_trans h (dotR_mu s).1, fun hk => Nat.lt_of_le_of_lt h ((dotR_mu s).2 hk)⟩
def fenR (s : RS) : TFence × RS := (⟨(intR s).1, (intR (intR s).2).1⟩, (intR (intR s).2).2)
def routeR (s : RS) : TRoute × RS := (⟨(dotR s).1, (textR (dotR s).2).1⟩, (textR (dotR s).2).2)
theorem fenR_mu (s : RS) : mu (fenR s).2 ≤ mu s ∧ (s.k = false → mu (fenR s).2 < mu s) := ⟨Nat.le_trans (intR_mu _).1 (intR_mu s).1, fun h => Nat.lt_of_le_of_lt (intR_mu _).1 ((intR_mu s).2 h)⟩
theorem routeR_mu (s : RS) : mu (routeR s).2 ≤ mu s ∧ (s.k = false → mu (routeR s).2 < mu s) := ⟨Nat.le_trans (textR_mu _).1 (dotR_mu s).1, fun h => Nat.lt_of_le_of_lt (textR_mu _).1 ((dotR_mu s).2 h)⟩
/-- Elements, one behind another, as long as there are bytes. -/
def listL {β : Type} (one : RS → β × RS) : Nat → Int → List β → RS → List β × RS
  | 0, _, a, s => (a, s)
  | q + 1, n, a, s => if 0 < n ∧ s.k = false then listL one q (n - 1) (a ++ [(one s).1]) (one s).2 else (a, s)
theorem listL_go {β : Type} {one : RS → β × RS} (hm : ∀ s, mu (one s).2 ≤ mu s ∧ (s.k = false → mu (one s).2 < mu s)) {q : Nat} {n : Int} {a : List β} {s : RS} (hq : mu s ≤ q) (h : 0 < n ∧ s.k = false) : listL one q n a s = listL one (q - 1) (n - 1) (a ++ [(one s).1]) (one s).2 ∧ mu (one s).2 ≤ q - 1 ∧ mu (one s).2 < mu s := by
  have h1 := (hm s).2 h.2
  have h2 : 0 < q := by omega
  obtain ⟨p, rfl⟩ : ∃ p, q = p + 1 := ⟨q - 1, by omega⟩
  refine ⟨?_, by omega, h1⟩
  conv => lhs; unfold listL
  rw [if_pos h]; rfl
theorem listL_end {β : Type} {one : RS → β × RS} {q : Nat} {n : Int} {a : List β} {s : RS} (h : ¬ (0 < n ∧ s.k = false)) : listL one q n a s = (a, s) := by
  cases q with
  | zero => rfl
  | succ q => unfold listL; rw [if_neg h]
def runL {β : Type} (one : RS → β × RS) (s : RS) : List β × RS := listL one (mu (numR s).2) (numR s).1 [] (numR s).2
attribute [local irreducible] DW SeqD DV DOp DC DVX DVJ
end Go.Proofs.YtfmjboanoojhcaaGreatDoor
/- Any bytes are read: lists. -/
namespace Go.Proofs.YtfmjboanoojhcaaGreatDoor
open Go.RowKit
set_option linter.unusedSimpArgs false
set_option linter.unusedVariables false
set_option linter.unusedSectionVars false
set_option maxHeartbeats 4000000
set_option maxRecDepth 100000


attribute [local irreducible] DW SeqD DV DOp DC DVX DVJ numR intR textR dotR takeR cellR listL mu
section
attribute [local push_cast 2000] encDot
end
section
attribute [local push_cast 2000] encFence
end
section
attribute [local push_cast 2000] encRoute
end
section
attribute [local push_cast 2000] encCell
end
section
attribute [local push_cast 2000] encU
end
section
attribute [local push_cast 2000] encDot
end
end Go.Proofs.YtfmjboanoojhcaaGreatDoor
/- Any bytes are read: lists, as long as there are bytes. -/
namespace Go.Proofs.YtfmjboanoojhcaaGreatDoor
open Go.RowKit
set_option linter.unusedSimpArgs false
set_option linter.unusedVariables false
set_option linter.unusedSectionVars false
set_option maxHeartbeats 4000000
set_option maxRecDepth 100000

attribute [local irreducible] DW SeqD DV DOp DC DVX DVJ numR intR textR dotR takeR cellR fenR routeR listL mu
end Go.Proofs.YtfmjboanoojhcaaGreatDoor
/- Any bytes are read: a table, a frame. -/
namespace Go.Proofs.YtfmjboanoojhcaaGreatDoor
open Go.RowKit
set_option linter.unusedSimpArgs false
set_option linter.unusedVariables false
set_option linter.unusedSectionVars false
set_option maxHeartbeats 4000000
set_option maxRecDepth 100000


def tS1 (s : RS) : RS := (runL dotR s).2
def tS2 (s : RS) : RS := (runL fenR (tS1 s)).2
def tS3 (s : RS) : RS := (runL routeR (tS2 s)).2
def tabR (s : RS) : TTable × RS := (⟨(runL dotR s).1, (runL fenR (tS1 s)).1, (runL routeR (tS2 s)).1, (runL cellR (tS3 s)).1⟩, (runL cellR (tS3 s)).2)
attribute [local irreducible] DW SeqD DV DOp DC DVX DVJ numR intR textR dotR takeR cellR fenR routeR runL
end Go.Proofs.YtfmjboanoojhcaaGreatDoor
