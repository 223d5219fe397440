/- Tables as they come: bounds, and the contracts as functions of tables. -/
import Derived.Test.YtfamfamgopchnaaGreatDoorRa2
import Derived.KernelRfl
namespace Go.Proofs.YtfamfamgopchnaaGreatDoor
open Go.RowKit
set_option linter.unusedSimpArgs false
set_option linter.unusedVariables false
set_option linter.unusedSectionVars false
set_option maxHeartbeats 4000000
set_option maxRecDepth 100000
attribute [local irreducible] DW SeqD DV DOp DC DVX


/-- Tables that are not too great. -/
structure Lite (m : Nat) (t : TTable) : Prop where
  s : t.seen.length ≤ m
  f : t.fences.length ≤ m
  r : t.routes.length ≤ m
  c : t.cells.length ≤ m
  rf : ∀ r ∈ t.routes, r.filter.length ≤ 65535
  ct : ∀ c ∈ t.cells, c.topic.length ≤ 65535
  cp : ∀ c ∈ t.cells, c.payload.length ≤ 1000000000
theorem Lite.mono {m n : Nat} {t : TTable} (h : Lite m t) (hmn : m ≤ n) : Lite n t := ⟨Nat.le_trans h.s hmn, Nat.le_trans h.f hmn, Nat.le_trans h.r hmn, Nat.le_trans h.c hmn, h.rf, h.ct, h.cp⟩
theorem insR_len (ro : List TRoute) (r : TRoute) : (insR ro r).length = ro.length + 1 := by rw [(insR_perm ro r).length_eq]; rfl
theorem cellIn_len (ce : List TCell) (c : TCell) : (cellInM ce c).length ≤ ce.length + 1 := by
  unfold cellInM
  split
  · split
    · omega
    · simp only [List.length_append, List.length_take, List.length_cons, List.length_drop]; omega
  · simp only [List.length_append, List.length_take, List.length_cons, List.length_drop]; omega
theorem mem_cellIn {ce : List TCell} {c x : TCell} (h : x ∈ cellInM ce c) : x = c ∨ x ∈ ce := by
  unfold cellInM at h
  have key : ∀ q, x ∈ ce.take (placeC ce c.topic) ++ c :: ce.drop q → x = c ∨ x ∈ ce := by
    intro q hx
    rcases List.mem_append.1 hx with hx | hx
    · exact .inr (List.mem_of_mem_take hx)
    · rcases List.mem_cons.1 hx with rfl | hx
      · exact .inl rfl
      · exact .inr (List.mem_of_mem_drop hx)
  split at h
  · split at h
    · exact .inr h
    · exact key _ h
  · exact key _ h
theorem join_len (a b : List TDot) : (joinM a b).length ≤ a.length + b.length := by
  unfold joinM
  split
  · exact fold_len b a
  · simp
theorem stays_len (ro1 : List TRoute) (se2 : List TDot) (ro2 : List TRoute) : (staysM ro1 se2 ro2).length ≤ ro1.length := List.length_filter_le _ _
theorem keeps_len (ce1 : List TCell) (se2 : List TDot) (ce2 : List TCell) : (keepsM ce1 se2 ce2).length ≤ ce1.length := List.length_filter_le _ _
def roStep (ro : List TRoute) (r : TRoute) : List TRoute := if (withoutR ro r.dot.node r.dot.epoch r.filter).length < ro.length then ro else insR ro r
def ceStep (ce : List TCell) (c : TCell) : List TCell := if ce.any (fun o => o.topic == c.topic) = true then ce else cellInM ce c
theorem mergeRo_eq (ro l : List TRoute) : mergeRo ro l = l.foldl roStep ro := rfl
theorem mergeCe_eq (ce l : List TCell) : mergeCe ce l = l.foldl ceStep ce := rfl
theorem mergeRo_more (ro : List TRoute) {l : List TRoute} {k : Nat} (h : k < l.length) : mergeRo ro (l.take (k + 1)) = roStep (mergeRo ro (l.take k)) (l.getD k default) := foldl_more _ _ h
theorem mergeCe_more (ce : List TCell) {l : List TCell} {k : Nat} (h : k < l.length) : mergeCe ce (l.take (k + 1)) = ceStep (mergeCe ce (l.take k)) (l.getD k default) := foldl_more _ _ h
theorem mergeFe_more (t : TTable) {l : List TFence} {k : Nat} (h : k < l.length) : mergeFe t (l.take (k + 1)) = fenceM (mergeFe t (l.take k)) (l.getD k default).node (l.getD k default).epoch := foldl_more _ _ h
theorem mergeRo_facts (l : List TRoute) : ∀ ro : List TRoute, (mergeRo ro l).length ≤ ro.length + l.length ∧ ∀ x ∈ mergeRo ro l, x ∈ ro ∨ x ∈ l := by
  induction l with
  | nil => intro ro; exact ⟨Nat.le_refl _, fun x hx => .inl hx⟩
  | cons r l ih =>
    intro ro
    obtain ⟨h1, h2⟩ := ih (roStep ro r)
    have hs : (roStep ro r).length ≤ ro.length + 1 ∧ ∀ x ∈ roStep ro r, x ∈ ro ∨ x = r := by
      unfold roStep
      split
      · exact ⟨by omega, fun x hx => .inl hx⟩
      · exact ⟨by rw [insR_len]; exact Nat.le_refl _, fun x hx => (mem_insR.1 hx).symm⟩
    refine ⟨?_, fun x hx => ?_⟩
    · show (mergeRo (roStep ro r) l).length ≤ _
      simp only [List.length_cons]; omega
    · rcases h2 x hx with h | h
      · rcases hs.2 x h with h | rfl
        · exact .inl h
        · exact .inr (List.mem_cons_self ..)
      · exact .inr (List.mem_cons_of_mem _ h)
theorem mergeCe_facts (l : List TCell) : ∀ ce : List TCell, (mergeCe ce l).length ≤ ce.length + l.length ∧ ∀ x ∈ mergeCe ce l, x ∈ ce ∨ x ∈ l := by
  induction l with
  | nil => intro ce; exact ⟨Nat.le_refl _, fun x hx => .inl hx⟩
  | cons c l ih =>
    intro ce
    obtain ⟨h1, h2⟩ := ih (ceStep ce c)
    have hs : (ceStep ce c).length ≤ ce.length + 1 ∧ ∀ x ∈ ceStep ce c, x ∈ ce ∨ x = c := by
      unfold ceStep
      split
      · exact ⟨by omega, fun x hx => .inl hx⟩
      · exact ⟨cellIn_len _ _, fun x hx => (mem_cellIn hx).symm⟩
    refine ⟨?_, fun x hx => ?_⟩
    · show (mergeCe (ceStep ce c) l).length ≤ _
      simp only [List.length_cons]; omega
    · rcases h2 x hx with h | h
      · rcases hs.2 x h with h | rfl
        · exact .inl h
        · exact .inr (List.mem_cons_self ..)
      · exact .inr (List.mem_cons_of_mem _ h)
theorem stepFe_len1 (node epoch : Int) (a : List TFence × Bool) (f : TFence) : (stepFe node epoch a f).1.length + (if (stepFe node epoch a f).2 = true then 0 else 1) ≤ a.1.length + (if a.2 = true then 0 else 1) + 1 := by
  obtain ⟨l, b⟩ := a
  unfold stepFe
  cases b
  · by_cases h1 : f.node = node
    · rw [if_pos h1]; by_cases h2 : node ≤ f.node <;> simp [h2]
    · rw [if_neg h1]; by_cases h2 : node ≤ f.node <;> simp [h2]
  · by_cases h1 : f.node = node <;> simp [h1]
theorem fenceL_len (fe : List TFence) (node epoch : Int) : (fenceL fe node epoch).length ≤ fe.length + 1 := by
  have key : ∀ k, k ≤ fe.length → (fenceAcc fe node epoch k).1.length + (if (fenceAcc fe node epoch k).2 = true then 0 else 1) ≤ k + 1 := by
    intro k
    induction k with
    | zero => intro _; simp [fenceAcc_0]
    | succ k ih =>
      intro hk
      rw [fenceAcc_more (by omega)]
      have := stepFe_len1 node epoch (fenceAcc fe node epoch k) (fe.getD k default)
      have := ih (by omega)
      omega
  have h := key fe.length (Nat.le_refl _)
  unfold fenceL
  by_cases hb : (fenceAcc fe node epoch fe.length).2 = true
  · rw [if_pos hb] at h ⊢; omega
  · rw [if_neg hb] at h ⊢; simp only [List.length_append, List.length_singleton]; omega
theorem fenceM_facts (t : TTable) (n e : Int) : (fenceM t n e).seen = t.seen ∧ (fenceM t n e).cells = t.cells ∧ (fenceM t n e).fences.length ≤ t.fences.length + 1 ∧ (fenceM t n e).routes.Sublist t.routes := by
  unfold fenceM
  split
  · exact ⟨rfl, rfl, fenceL_len _ _ _, List.filter_sublist⟩
  · exact ⟨rfl, rfl, by omega, List.Sublist.refl _⟩
theorem mergeFe_facts (l : List TFence) : ∀ t : TTable, (mergeFe t l).seen = t.seen ∧ (mergeFe t l).cells = t.cells ∧ (mergeFe t l).fences.length ≤ t.fences.length + l.length ∧ (mergeFe t l).routes.Sublist t.routes := by
  induction l with
  | nil => intro t; exact ⟨rfl, rfl, Nat.le_refl _, List.Sublist.refl _⟩
  | cons f l ih =>
    intro t
    obtain ⟨h1, h2, h3, h4⟩ := ih (fenceM t f.node f.epoch)
    obtain ⟨g1, g2, g3, g4⟩ := fenceM_facts t f.node f.epoch
    refine ⟨h1.trans g1, h2.trans g2, ?_, h4.trans g4⟩
    show (mergeFe (fenceM t f.node f.epoch) l).fences.length ≤ _
    simp only [List.length_cons]; omega
theorem merge0_lite {m : Nat} {a b : TTable} (ha : Lite m a) (hb : Lite m b) : Lite (m + m) (merge0 a b) := by
  have h1 := join_len a.seen b.seen
  have r1 := stays_len a.routes b.seen b.routes
  have r2 := stays_len b.routes a.seen a.routes
  have c1 := keeps_len a.cells b.seen b.cells
  have c2 := keeps_len b.cells a.seen a.cells
  obtain ⟨f1, f2⟩ := mergeRo_facts (staysM b.routes a.seen a.routes) (staysM a.routes b.seen b.routes)
  obtain ⟨g1, g2⟩ := mergeCe_facts (keepsM b.cells a.seen a.cells) (keepsM a.cells b.seen b.cells)
  have := ha.s; have := ha.f; have := ha.r; have := ha.c; have := hb.s; have := hb.f; have := hb.r; have := hb.c
  have mr : ∀ x ∈ (merge0 a b).routes, x ∈ a.routes ∨ x ∈ b.routes := fun x hx => by
    rcases f2 x hx with h | h
    · exact .inl (List.filter_sublist.subset h)
    · exact .inr (List.filter_sublist.subset h)
  have mc : ∀ x ∈ (merge0 a b).cells, x ∈ a.cells ∨ x ∈ b.cells := fun x hx => by
    rcases g2 x hx with h | h
    · exact .inl (List.filter_sublist.subset h)
    · exact .inr (List.filter_sublist.subset h)
  refine ⟨?_, ?_, ?_, ?_, fun r hr => ?_, fun c hc => ?_, fun c hc => ?_⟩
  · show (joinM a.seen b.seen).length ≤ _; omega
  · show a.fences.length ≤ _; omega
  · show (mergeRo _ _).length ≤ _; omega
  · show (mergeCe _ _).length ≤ _; omega
  · rcases mr r hr with h | h
    · exact ha.rf r h
    · exact hb.rf r h
  · rcases mc c hc with h | h
    · exact ha.ct c h
    · exact hb.ct c h
  · rcases mc c hc with h | h
    · exact ha.cp c h
    · exact hb.cp c h
theorem merge1_lite {m : Nat} {a b : TTable} (ha : Lite m a) (hb : Lite m b) (k : Nat) : Lite (m + m) (mergeFe (merge0 a b) (b.fences.take k)) := by
  have h := merge0_lite ha hb
  obtain ⟨h1, h2, h3, h4⟩ := mergeFe_facts (b.fences.take k) (merge0 a b)
  have hf : (merge0 a b).fences.length ≤ m := ha.f
  have := hb.f
  refine ⟨by rw [h1]; exact h.s, ?_, Nat.le_trans h4.length_le h.r, by rw [h2]; exact h.c, fun r hr => h.rf r (h4.subset hr), by rw [h2]; exact h.ct, by rw [h2]; exact h.cp⟩
  rw [List.length_take] at h3; omega
theorem unf_lite {m : Nat} {t : TTable} (h : Lite m t) : Lite m { t with routes := unfR t.fences t.routes } := by
  refine ⟨h.s, h.f, Nat.le_trans (List.length_filter_le _ _) h.r, h.c, fun r hr => h.rf r (List.filter_sublist.subset hr), h.ct, h.cp⟩
def unfM (t : TTable) : TTable := { t with routes := unfR t.fences t.routes }
theorem roStep_1 {ro : List TRoute} {r : TRoute} (h : (withoutR ro r.dot.node r.dot.epoch r.filter).length < ro.length) : roStep ro r = ro := if_pos h
theorem roStep_2 {ro : List TRoute} {r : TRoute} (h : ¬ (withoutR ro r.dot.node r.dot.epoch r.filter).length < ro.length) : roStep ro r = insR ro r := if_neg h
theorem ceStep_1 {ce : List TCell} {c : TCell} (h : ce.any (fun o => o.topic == c.topic) = true) : ceStep ce c = ce := if_pos h
theorem ceStep_2 {ce : List TCell} {c : TCell} (h : ce.any (fun o => o.topic == c.topic) = false) : ceStep ce c = cellInM ce c := if_neg (by rw [h]; simp)
theorem mergeFe_0 (t : TTable) (l : List TFence) : mergeFe t (List.take 0 l) = t := rfl
theorem m0_seen (a b : TTable) : (merge0 a b).seen = joinM a.seen b.seen := rfl
theorem m0_fences (a b : TTable) : (merge0 a b).fences = a.fences := rfl
theorem m0_routes (a b : TTable) : (merge0 a b).routes = mergeRo (staysM a.routes b.seen b.routes) (staysM b.routes a.seen a.routes) := rfl
theorem m0_cells (a b : TTable) : (merge0 a b).cells = mergeCe (keepsM a.cells b.seen b.cells) (keepsM b.cells a.seen a.cells) := rfl
theorem mergeM_1 {a b : TTable} (h1 : tabB a = false) (h2 : tabB b = false) : mergeM a b = emptyT := by rw [mergeM, if_neg (by rw [h1]; simp), if_neg (by rw [h2]; simp)]
theorem mergeM_2 {a b : TTable} (h1 : tabB a = false) (h2 : tabB b = true) : mergeM a b = b := by rw [mergeM, if_neg (by rw [h1]; simp), if_pos h2]
theorem mergeM_3 {a b : TTable} (h1 : tabB a = true) (h2 : tabB b = false) : mergeM a b = a := by rw [mergeM, if_pos h1, if_neg (by rw [h2]; simp)]
theorem mergeM_4 {a b : TTable} (h1 : tabB a = true) (h2 : tabB b = true) (h3 : tabB (unfM (mergeFe (merge0 a b) b.fences)) = false) : mergeM a b = a := by rw [mergeM, if_pos h1, if_pos h2, if_neg (by rw [show merge2 a b = unfM (mergeFe (merge0 a b) b.fences) from rfl, h3]; simp)]
theorem mergeM_5 {a b : TTable} (h1 : tabB a = true) (h2 : tabB b = true) (h3 : tabB (unfM (mergeFe (merge0 a b) b.fences)) = true) : mergeM a b = unfM (mergeFe (merge0 a b) b.fences) := by rw [mergeM, if_pos h1, if_pos h2, if_pos (show tabB (merge2 a b) = true from h3)]; rfl
theorem merge2_lite {m : Nat} {a b : TTable} (ha : Lite m a) (hb : Lite m b) : Lite (m + m) (merge2 a b) := by
  have := merge1_lite ha hb b.fences.length
  rw [List.take_length] at this
  exact unf_lite this
theorem merge_lite {m : Nat} {a b : TTable} (ha : Lite m a) (hb : Lite m b) : Lite (m + m) (mergeM a b) := by
  unfold mergeM
  split
  · split
    · split
      · exact merge2_lite ha hb
      · exact ha.mono (by omega)
    · exact ha.mono (by omega)
  · split
    · exact hb.mono (by omega)
    · exact ⟨Nat.zero_le _, Nat.zero_le _, Nat.zero_le _, Nat.zero_le _, (fun _ h => nomatch h), (fun _ h => nomatch h), (fun _ h => nomatch h)⟩
theorem fenceT_dc (t : TTable) (n e : Int) (F : Own) : (Lite 100000000 t) → DC Tryz.prog 29 [.agg [.sl (t.seen.map encDot), .sl (t.fences.map encFence), .sl (t.routes.map encRoute), .sl (t.cells.map encCell)], .int .i64 n, .int .i64 e] (([] : Own) ++ F) fun d G => d = .agg [.sl ((fenceM t n e).seen.map encDot), .sl ((fenceM t n e).fences.map encFence), .sl ((fenceM t n e).routes.map encRoute), .sl ((fenceM t n e).cells.map encCell)] ∧ G = [] ++ F := by
  intro h
  refine (rfence_dc t.seen t.fences t.routes t.cells n e F ⟨⟨by have := h.s; omega, by have := h.f; omega, by have := h.r; omega, by have := h.c; omega⟩, h.f⟩).mono fun d G hd => ?_
  obtain ⟨hd | hd, hG⟩ := hd
  · rw [fenceM, if_neg (by rintro ⟨x, y⟩; rcases hd.1 with h | h <;> simp_all)]; exact ⟨hd.2, hG⟩
  · rw [fenceM, if_pos hd.1]; exact ⟨hd.2, hG⟩
theorem unfT_dc (t : TTable) (F : Own) : (Lite 1000000000 t) → DC Tryz.prog 89 [.agg [.sl (t.seen.map encDot), .sl (t.fences.map encFence), .sl (t.routes.map encRoute), .sl (t.cells.map encCell)]] (([] : Own) ++ F) fun d G => d = .agg [.sl ((unfM t).seen.map encDot), .sl ((unfM t).fences.map encFence), .sl ((unfM t).routes.map encRoute), .sl ((unfM t).cells.map encCell)] ∧ G = [] ++ F := by
  intro h
  exact unfenced_dc t.seen t.fences t.routes t.cells F ⟨h.s, h.f, h.r, h.c⟩
theorem rightT_dc (t : TTable) (F : Own) : (Lite 1000000000 t) → DC Tryz.prog 16 [.agg [.sl (t.seen.map encDot), .sl (t.fences.map encFence), .sl (t.routes.map encRoute), .sl (t.cells.map encCell)]] (([] : Own) ++ F) fun d G => d = .bool (tabB t) ∧ G = [] ++ F := by
  intro h
  exact tableright_dc t.seen t.fences t.routes t.cells F ⟨⟨h.s, h.f, h.r, h.c⟩, fun k hk => h.rf _ (getD_mem hk), fun k hk => h.ct _ (getD_mem hk), fun k hk => h.cp _ (getD_mem hk)⟩
theorem addT_dc (t : TTable) (n e : Int) (f : Str) (F : Own) : (Lite 1000000000 t ∧ f.length ≤ 1000000000 ∧ -1000000000000 ≤ topM t.seen n e ∧ topM t.seen n e ≤ 1000000000000) → DC Tryz.prog 27 [.agg [.sl (t.seen.map encDot), .sl (t.fences.map encFence), .sl (t.routes.map encRoute), .sl (t.cells.map encCell)], .int .i64 n, .int .i64 e, .str f] (([] : Own) ++ F) fun d G => d = .agg [.sl ((routeAddM t n e f).seen.map encDot), .sl ((routeAddM t n e f).fences.map encFence), .sl ((routeAddM t n e f).routes.map encRoute), .sl ((routeAddM t n e f).cells.map encCell)] ∧ G = [] ++ F := by
  intro h
  obtain ⟨h, h1, h2, h3⟩ := h
  refine (routeadd_dc t.seen t.fences t.routes t.cells n e f F ⟨⟨h.s, h.f, h.r, h.c⟩, h1, h2, h3⟩).mono fun d G hd => ?_
  obtain ⟨hd | hd, hG⟩ := hd
  · rw [routeAddM, if_neg (by rintro ⟨x, y, z⟩; rcases hd.1 with h | h | h <;> simp_all)]; exact ⟨hd.2, hG⟩
  · rw [routeAddM, if_pos hd.1]; exact ⟨hd.2, hG⟩
theorem dropT_dc (t : TTable) (n e : Int) (f : Str) (F : Own) : (Lite 1000000000 t ∧ -1000000000000 ≤ topM t.seen n e ∧ topM t.seen n e ≤ 1000000000000) → DC Tryz.prog 28 [.agg [.sl (t.seen.map encDot), .sl (t.fences.map encFence), .sl (t.routes.map encRoute), .sl (t.cells.map encCell)], .int .i64 n, .int .i64 e, .str f] (([] : Own) ++ F) fun d G => d = .agg [.sl ((routeDropM t n e f).seen.map encDot), .sl ((routeDropM t n e f).fences.map encFence), .sl ((routeDropM t n e f).routes.map encRoute), .sl ((routeDropM t n e f).cells.map encCell)] ∧ G = [] ++ F := by
  intro h
  obtain ⟨h, h2, h3⟩ := h
  refine (rdrop_dc t.seen t.fences t.routes t.cells n e f F ⟨⟨h.s, h.f, h.r, h.c⟩, h2, h3⟩).mono fun d G hd => ?_
  obtain ⟨hd | hd, hG⟩ := hd
  · rw [routeDropM, if_neg (by have := hd.1; omega)]; exact ⟨hd.2, hG⟩
  · rw [routeDropM, if_pos hd.1]; exact ⟨hd.2, hG⟩
theorem putT_dc (t : TTable) (n e s1 s2 s3 : Int) (m1 m2 : Str) (m3 : Int) (m4 : Bool) (F : Own) : (Lite 1000000000 t ∧ (m1.length ≤ 1000000000 ∧ m2.length ≤ 1000000000) ∧ -1000000000000 ≤ topM t.seen n e ∧ topM t.seen n e ≤ 1000000000000) → DC Tryz.prog 126 [.agg [.sl (t.seen.map encDot), .sl (t.fences.map encFence), .sl (t.routes.map encRoute), .sl (t.cells.map encCell)], .int .i64 n, .int .i64 e, .agg [.int .i64 s1, .int .i64 s2, .int .i64 s3], .agg [.str m1, .sl (m2.map u8), .int .i64 m3, .bool m4]] (([] : Own) ++ F) fun d G => d = .agg [.sl ((cellPutM t n e ⟨s1, s2, s3⟩ m1 m2 m3).seen.map encDot), .sl ((cellPutM t n e ⟨s1, s2, s3⟩ m1 m2 m3).fences.map encFence), .sl ((cellPutM t n e ⟨s1, s2, s3⟩ m1 m2 m3).routes.map encRoute), .sl ((cellPutM t n e ⟨s1, s2, s3⟩ m1 m2 m3).cells.map encCell)] ∧ G = [] ++ F := by
  intro h
  obtain ⟨h, h1, h2, h3⟩ := h
  refine (cellput_dc t.seen t.fences t.routes t.cells n e s1 s2 s3 m1 m2 m3 m4 F ⟨⟨h.s, h.f, h.r, h.c⟩, h1, h2, h3⟩).mono fun d G hd => ?_
  obtain ⟨hd | hd, hG⟩ := hd
  · rw [cellPutM, if_neg (by rw [hd.1]; simp)]; exact ⟨hd.2, hG⟩
  · rw [cellPutM, if_pos hd.1]; exact ⟨hd.2, hG⟩
end Go.Proofs.YtfamfamgopchnaaGreatDoor
