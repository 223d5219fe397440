/- Routes, fences, cells that come to a right table leave a right one. No statement of the program. -/
import Derived.Test.YtfamfamgopchnaaGreatDoorRd9x
import Derived.Test.YtfamfamgopchnaaGreatDoorRe2x
import Derived.KernelRfl
namespace Go.Proofs.YtfamfamgopchnaaGreatDoor
open Go.RowKit
set_option linter.unusedSimpArgs false
set_option linter.unusedVariables false
set_option linter.unusedSectionVars false

def routeAddM (t : TTable) (n e : Int) (f : Str) : TTable := if filterB f = true ∧ pairB n e = true ∧ fencedL t.fences n e = false then ⟨addM t.seen (nextDot t.seen n e), t.fences, insR (withoutR t.routes n e f) ⟨nextDot t.seen n e, f⟩, t.cells⟩ else t
def routeDropM (t : TTable) (n e : Int) (f : Str) : TTable := if (withoutR t.routes n e f).length < t.routes.length then ⟨addM t.seen (nextDot t.seen n e), t.fences, withoutR t.routes n e f, t.cells⟩ else t
def fenceM (t : TTable) (n e : Int) : TTable := if pairB n e = true ∧ fencedL t.fences n e = false then ⟨t.seen, fenceL t.fences n e, unfR (fenceL t.fences n e) t.routes, t.cells⟩ else t
def cellPutM (t : TTable) (n e : Int) (s : TStamp) (m1 m2 : Str) (m3 : Int) : TTable := if putOk n e s.l s.c s.node m1 m3 = true then ⟨addM t.seen (nextDot t.seen n e), t.fences, t.routes, cellInM t.cells (putC (nextDot t.seen n e) s.l s.c s.node m1 m2 m3)⟩ else t
def mergeRo (ro l : List TRoute) : List TRoute := l.foldl (fun ro r => if (withoutR ro r.dot.node r.dot.epoch r.filter).length < ro.length then ro else insR ro r) ro
def mergeCe (ce m : List TCell) : List TCell := m.foldl (fun ce c => if ce.any (fun o => o.topic == c.topic) = true then ce else cellInM ce c) ce
def mergeFe (t : TTable) (l : List TFence) : TTable := l.foldl (fun t f => fenceM t f.node f.epoch) t
def merge0 (a b : TTable) : TTable := ⟨joinM a.seen b.seen, a.fences, mergeRo (staysM a.routes b.seen b.routes) (staysM b.routes a.seen a.routes), mergeCe (keepsM a.cells b.seen b.cells) (keepsM b.cells a.seen a.cells)⟩
def merge1 (a b : TTable) : TTable := mergeFe (merge0 a b) b.fences
def merge2 (a b : TTable) : TTable := { merge1 a b with routes := unfR (merge1 a b).fences (merge1 a b).routes }
def emptyT : TTable := ⟨[], [], [], []⟩
def mergeM (a b : TTable) : TTable := if tabB a = true then (if tabB b = true then (if tabB (merge2 a b) = true then merge2 a b else a) else a) else (if tabB b = true then b else emptyT)

theorem ins_perm {α : Type} (l : List α) (p : Nat) (x : α) : (l.take p ++ x :: l.drop p).Perm (x :: l) := by
  have := @List.perm_middle α x (l.take p) (l.drop p)
  rwa [List.take_append_drop] at this
theorem insR_perm (ro : List TRoute) (r : TRoute) : (insR ro r).Perm (r :: ro) := ins_perm ro _ r
theorem mem_insR {ro : List TRoute} {r x : TRoute} : x ∈ insR ro r ↔ x = r ∨ x ∈ ro := by rw [(insR_perm ro r).mem_iff, List.mem_cons]
theorem mem_without {ro : List TRoute} {n e : Int} {f : Str} {x : TRoute} : x ∈ withoutR ro n e f ↔ x ∈ ro ∧ ¬ (x.dot.node = n ∧ x.dot.epoch = e ∧ x.filter = f) := by
  unfold withoutR
  rw [List.mem_filter]
  simp only [Bool.not_eq_true', ← Bool.not_eq_true, own_iff]
theorem without_sub (ro : List TRoute) (n e : Int) (f : Str) : (withoutR ro n e f).Sublist ro := List.filter_sublist
theorem next_one {se : List TDot} (h : rightB se = true) {n e : Int} (hp : pairB n e = true) : oneB (nextDot se n e) = true := by
  have := top_nonneg h n e
  rw [one_iff]
  simp only [pairB, Bool.and_eq_true, decide_eq_true_eq] at hp
  simp only [nextDot]
  omega
theorem next_fresh {se : List TDot} {n e : Int} {x : TDot} (hx : hasB se x = true) : x ≠ nextDot se n e := by
  rintro rfl
  rw [has_iff] at hx
  simp only [nextDot] at hx
  omega
theorem TR.sub {t : TTable} (h : TR t) {se' : List TDot} {fe' : List TFence} {ro' : List TRoute} (hs : rightB se' = true) (hm : ∀ x, hasB t.seen x = true → hasB se' x = true) (hf : FR fe') (hr : ro'.Sublist t.routes) (hn : ∀ r ∈ ro', fencedL fe' r.dot.node r.dot.epoch = false) : TR ⟨se', fe', ro', t.cells⟩ where
  seen := hs
  fences := hf
  rsort := h.rsort.sublist hr
  rok r hr' := ⟨(h.rok r (hr.subset hr')).1, hm _ (h.rok r (hr.subset hr')).2.1, hn r hr'⟩
  rone := h.rone.sublist hr
  csort := h.csort
  cok c hc := ⟨(h.cok c hc).1, hm _ (h.cok c hc).2⟩
  fresh := h.fresh.sublist ((hr.map _).append (List.Sublist.refl _))
theorem TR.hasDots {t : TTable} (h : TR t) : ∀ d ∈ dotsOf t.routes t.cells, hasB t.seen d = true := by
  intro d hd
  rcases List.mem_append.1 hd with hd | hd
  · obtain ⟨r, hr, rfl⟩ := List.mem_map.1 hd; exact (h.rok r hr).2.1
  · obtain ⟨c, hc, rfl⟩ := List.mem_map.1 hd; exact (h.cok c hc).2
theorem TR.add {t : TTable} (h : TR t) (n e : Int) (f : Str) : TR (routeAddM t n e f) := by
  unfold routeAddM
  split
  · rename_i hc
    obtain ⟨hf, hp, hn⟩ := hc
    have h1 := next_one h.seen hp
    have hm := fun x => @has_add t.seen h.seen (nextDot t.seen n e) x
    have hw := without_sub t.routes n e f
    have hne : ∀ x ∈ withoutR t.routes n e f, rbefore x ⟨nextDot t.seen n e, f⟩ = false → rbefore ⟨nextDot t.seen n e, f⟩ x = true := by
      intro x hx hb
      cases hb' : rbefore ⟨nextDot t.seen n e, f⟩ x with
      | true => rfl
      | false =>
        have := rbefore_tri hb hb'
        exact absurd (congrArg TRoute.dot this) (next_fresh (h.rok x (hw.subset hx)).2.1)
    have hi := ins_pw (R := rbefore) rbefore_trans (h.rsort.sublist hw) hne (p := placeR (withoutR t.routes n e f) ⟨nextDot t.seen n e, f⟩) rfl
    refine ⟨add_right h.seen _, h.fences, hi.2.1, fun x hx => ?_, ?_, h.csort, fun c hc => ⟨(h.cok c hc).1, hm _ (h.cok c hc).2⟩, ?_⟩
    · rcases mem_insR.1 hx with rfl | hx
      · exact ⟨hf, has_self h.seen h1, hn⟩
      · have := h.rok x (hw.subset hx)
        exact ⟨this.1, hm _ this.2.1, this.2.2⟩
    · refine ((insR_perm _ _).pairwise_iff (fun {a b} (hab : lineNe a b) => ?_)).2 (List.pairwise_cons.2 ⟨fun x hx => ?_, h.rone.sublist hw⟩)
      · exact fun hh => hab ⟨hh.1.symm, hh.2.1.symm, hh.2.2.symm⟩
      · exact fun hh => (mem_without.1 hx).2 ⟨hh.1.symm, hh.2.1.symm, hh.2.2.symm⟩
    · have pm : (dotsOf (insR (withoutR t.routes n e f) ⟨nextDot t.seen n e, f⟩) t.cells).Perm (nextDot t.seen n e :: dotsOf (withoutR t.routes n e f) t.cells) := ((insR_perm _ _).map TRoute.dot).append_right _
      refine (pm.pairwise_iff (fun {a b} (hab : a ≠ b) => hab.symm)).2 (List.pairwise_cons.2 ⟨fun x hx => ?_, h.fresh.sublist ((hw.map _).append (List.Sublist.refl _))⟩)
      have : x ∈ dotsOf t.routes t.cells := ((hw.map TRoute.dot).append (List.Sublist.refl _)).subset hx
      exact (next_fresh (h.hasDots x this)).symm
  · exact h
theorem TR.drop {t : TTable} (h : TR t) (n e : Int) (f : Str) : TR (routeDropM t n e f) := by
  unfold routeDropM
  split
  · exact h.sub (add_right h.seen _) (fun x => has_add h.seen _) h.fences (without_sub _ _ _ _) (fun r hr => (h.rok r ((without_sub _ _ _ _).subset hr)).2.2)
  · exact h

/-! Fences. -/
theorem stepFe_true {n e : Int} : ∀ (l : List TFence) (acc : List TFence), (∀ f ∈ l, n < f.node) → l.foldl (stepFe n e) (acc, true) = (acc ++ l, true)
  | [], acc, _ => by simp
  | f :: l, acc, h => by
    have hf := h f (List.mem_cons_self ..)
    rw [List.foldl_cons, stepFe_3 (.inl rfl) (by omega), stepFe_true l _ (fun x hx => h x (List.mem_cons_of_mem _ hx))]
    simp
def finFe (n e : Int) (a : List TFence × Bool) : List TFence := if a.2 = true then a.1 else a.1 ++ [⟨n, e⟩]
theorem filter_none {α : Type} {p : α → Bool} {l : List α} (h : ∀ x ∈ l, p x = false) : l.filter p = [] := List.filter_eq_nil_iff.2 fun x hx => by rw [h x hx]; simp
theorem filter_all {α : Type} {p : α → Bool} {l : List α} (h : ∀ x ∈ l, p x = true) : l.filter p = l := List.filter_eq_self.2 h
theorem stepFe_false {n e : Int} : ∀ (l : List TFence) (acc : List TFence), l.Pairwise (fun a b => a.node < b.node) → finFe n e (l.foldl (stepFe n e) (acc, false)) = acc ++ (l.filter fun f => decide (f.node < n)) ++ ⟨n, e⟩ :: (l.filter fun f => decide (n < f.node))
  | [], acc, _ => by simp [finFe]
  | f :: l, acc, h => by
    have hp := List.pairwise_cons.1 h
    rw [List.foldl_cons]
    rcases Int.lt_trichotomy f.node n with hf | hf | hf
    · rw [stepFe_3 (.inr hf) (by omega), stepFe_false l _ hp.2, List.filter_cons_of_pos (by simpa using hf), List.filter_cons_of_neg (by simp; omega)]
      simp
    · have hl : ∀ x ∈ l, n < x.node := fun x hx => by have := hp.1 x hx; omega
      rw [stepFe_2 rfl hf, stepFe_true l _ hl, List.filter_cons_of_neg (by simp; omega), List.filter_cons_of_neg (by simp; omega), filter_none (p := fun (f : TFence) => decide (f.node < n)) (fun x hx => by have := hl x hx; simp; omega), filter_all (p := fun (f : TFence) => decide (n < f.node)) (fun x hx => by simpa using hl x hx)]
      simp [finFe]
    · have hl : ∀ x ∈ l, n < x.node := fun x hx => by have := hp.1 x hx; omega
      rw [stepFe_1 rfl (by omega) (by omega), stepFe_true l _ hl, List.filter_cons_of_neg (by simp; omega), List.filter_cons_of_pos (by simpa using hf), filter_none (p := fun (f : TFence) => decide (f.node < n)) (fun x hx => by have := hl x hx; simp; omega), filter_all (p := fun (f : TFence) => decide (n < f.node)) (fun x hx => by simpa using hl x hx)]
      simp [finFe]
theorem fenceL_eq {fe : List TFence} (h : FR fe) (n e : Int) : fenceL fe n e = (fe.filter fun f => decide (f.node < n)) ++ ⟨n, e⟩ :: (fe.filter fun f => decide (n < f.node)) := by
  have := stepFe_false (n := n) (e := e) fe [] h.1
  rw [List.nil_append] at this
  rw [← this]
  unfold fenceL finFe fenceAcc
  rw [List.take_length]
theorem mem_fenceL {fe : List TFence} (h : FR fe) {n e : Int} {x : TFence} : x ∈ fenceL fe n e ↔ x = ⟨n, e⟩ ∨ (x ∈ fe ∧ x.node ≠ n) := by
  rw [fenceL_eq h, List.mem_append, List.mem_cons, List.mem_filter, List.mem_filter]
  simp only [decide_eq_true_eq]
  constructor
  · rintro (⟨h1, h2⟩ | rfl | ⟨h1, h2⟩)
    · exact .inr ⟨h1, by omega⟩
    · exact .inl rfl
    · exact .inr ⟨h1, by omega⟩
  · rintro (rfl | ⟨h1, h2⟩)
    · exact .inr (.inl rfl)
    · rcases Int.lt_or_gt_of_ne h2 with h3 | h3
      · exact .inl ⟨h1, h3⟩
      · exact .inr (.inr ⟨h1, h3⟩)
theorem fence_right {fe : List TFence} (h : FR fe) {n e : Int} (hp : pairB n e = true) : FR (fenceL fe n e) := by
  refine ⟨?_, fun x hx => ?_⟩
  · rw [fenceL_eq h]
    refine List.pairwise_append.2 ⟨h.1.sublist List.filter_sublist, List.pairwise_cons.2 ⟨fun x hx => by simpa using (List.mem_filter.1 hx).2, h.1.sublist List.filter_sublist⟩, fun x hx y hy => ?_⟩
    have h1 : x.node < n := by simpa using (List.mem_filter.1 hx).2
    rcases List.mem_cons.1 hy with rfl | hy
    · exact h1
    · have h2 : n < y.node := by simpa using (List.mem_filter.1 hy).2
      omega
  · rcases (mem_fenceL h).1 hx with rfl | ⟨hx, _⟩
    · exact hp
    · exact h.2 x hx
theorem fenced_fenceL {fe : List TFence} (h : FR fe) {n e m k : Int} : fencedL (fenceL fe n e) m k = true ↔ (m = n ∧ k ≤ e) ∨ (m ≠ n ∧ fencedL fe m k = true) := by
  rw [fenced_iff, fenced_iff]
  constructor
  · rintro ⟨f, hf, rfl, h2⟩
    rcases (mem_fenceL h).1 hf with rfl | ⟨hf, h3⟩
    · exact .inl ⟨rfl, h2⟩
    · exact .inr ⟨h3, f, hf, rfl, h2⟩
  · rintro (⟨rfl, h2⟩ | ⟨h1, f, hf, rfl, h2⟩)
    · exact ⟨⟨m, e⟩, (mem_fenceL h).2 (.inl rfl), rfl, h2⟩
    · exact ⟨f, (mem_fenceL h).2 (.inr ⟨hf, h1⟩), rfl, h2⟩
theorem mem_unfR {fe : List TFence} {ro : List TRoute} {r : TRoute} : r ∈ unfR fe ro ↔ r ∈ ro ∧ fencedL fe r.dot.node r.dot.epoch = false := by
  unfold unfR; rw [List.mem_filter]; simp
theorem TR.fence {t : TTable} (h : TR t) (n e : Int) : TR (fenceM t n e) := by
  unfold fenceM
  split
  · rename_i hc
    exact h.sub h.seen (fun _ hx => hx) (fence_right h.fences hc.1) List.filter_sublist (fun r hr => (mem_unfR.1 hr).2)
  · exact h

/-! Cells. -/
theorem TR.cell {t : TTable} (h : TR t) {n e : Int} (hp : pairB n e = true) {c : TCell} (hc : cellB c = true) (hd : c.dot = nextDot t.seen n e) {ce' ce0 : List TCell} (hpm : ce'.Perm (c :: ce0)) (hs : ce0.Sublist t.cells) (hsort : ce'.Pairwise (fun a b => Op.bytesLess a.topic b.topic = true)) : TR ⟨addM t.seen (nextDot t.seen n e), t.fences, t.routes, ce'⟩ where
  seen := add_right h.seen _
  fences := h.fences
  rsort := h.rsort
  rok r hr := ⟨(h.rok r hr).1, has_add h.seen _ (h.rok r hr).2.1, (h.rok r hr).2.2⟩
  rone := h.rone
  csort := hsort
  cok x hx := by
    rcases List.mem_cons.1 (hpm.mem_iff.1 hx) with rfl | hx
    · exact ⟨hc, by rw [hd]; exact has_self h.seen (next_one h.seen hp)⟩
    · exact ⟨(h.cok x (hs.subset hx)).1, has_add h.seen _ (h.cok x (hs.subset hx)).2⟩
  fresh := by
    have pm : (dotsOf t.routes ce').Perm (nextDot t.seen n e :: dotsOf t.routes ce0) := by
      have h1 : (dotsOf t.routes ce').Perm (t.routes.map TRoute.dot ++ nextDot t.seen n e :: ce0.map TCell.dot) := by
        have := (hpm.map TCell.dot).append_left (t.routes.map TRoute.dot)
        rwa [List.map_cons, hd] at this
      exact h1.trans List.perm_middle
    refine (pm.pairwise_iff (fun {a b} (hab : a ≠ b) => hab.symm)).2 (List.pairwise_cons.2 ⟨fun x hx => ?_, h.fresh.sublist ((List.Sublist.refl _).append (hs.map _))⟩)
    have : x ∈ dotsOf t.routes t.cells := ((List.Sublist.refl _).append (hs.map TCell.dot)).subset hx
    exact (next_fresh (h.hasDots x this)).symm
theorem putC_ok {n e : Int} {s1 s2 s3 : Int} {m1 m2 : Str} {m3 : Int} (h : putOk n e s1 s2 s3 m1 m3 = true) (d : TDot) : cellB (putC d s1 s2 s3 m1 m2 m3) = true ∧ pairB n e = true := by
  simp only [putOk, Bool.and_eq_true, decide_eq_true_eq] at h
  obtain ⟨⟨⟨⟨h1, h2⟩, h3⟩, h4⟩, h5⟩ := h
  refine ⟨?_, h4⟩
  unfold cellB putC
  simp only [h1, h5, Bool.true_and, Bool.and_eq_true, decide_eq_true_eq]
  by_cases hl : ((m2.length : Int) == 0) = true
  · rw [if_pos hl, hl]; simp
  · rw [if_neg hl]; simp only [Bool.not_eq_true] at hl; rw [hl]; simp [h2, h3]
theorem cellIn_facts {ce : List TCell} (hs : ce.Pairwise (fun a b => Op.bytesLess a.topic b.topic = true)) (c : TCell) :
    cellInM ce c = ce ∨ ∃ ce0, ce0.Sublist ce ∧ (cellInM ce c).Perm (c :: ce0) ∧ (cellInM ce c).Pairwise (fun a b => Op.bytesLess a.topic b.topic = true) ∧ (∀ x ∈ ce, x.topic ≠ c.topic → x ∈ ce0) ∧ (∀ x ∈ ce0, x.topic ≠ c.topic) := by
  obtain ⟨p, hp⟩ : ∃ p, p = placeC ce c.topic := ⟨_, rfl⟩
  obtain ⟨h1, h2, h3, h4⟩ := firstK_le (fun i => !Op.bytesLess (ce.getD i default).topic c.topic) ce.length 0
  have hp' : firstK (fun i => !Op.bytesLess (ce.getD i default).topic c.topic) ce.length 0 = p := hp.symm
  rw [hp'] at h1 h2 h3 h4
  have hpl : p ≤ ce.length := by omega
  have bef : ∀ x ∈ ce.take p, Op.bytesLess x.topic c.topic = true := by
    intro x hx
    obtain ⟨i, hi, rfl⟩ := (mem_take_iff hpl).1 hx
    simpa using h3 i (Nat.zero_le _) hi
  have hat : p < ce.length → Op.bytesLess (ce.getD p default).topic c.topic = false := fun hlt => by simpa using h4 (by omega)
  have nb : ∀ x ∈ ce.take p, x.topic ≠ c.topic := fun x hx e => by have := bef x hx; rw [e, bl_irrefl] at this; cases this
  by_cases hc : p < ce.length ∧ (ce.getD p default).topic = c.topic
  · by_cases hn : newerM (ce.getD p default) c = true
    · left; rw [cellInM, ← hp, if_pos hc, if_pos hn]
    · right
      have e : cellInM ce c = ce.take p ++ c :: ce.drop (p + 1) := by rw [cellInM, ← hp, if_pos hc, if_neg hn]
      have aft : ∀ x ∈ ce.drop (p + 1), Op.bytesLess c.topic x.topic = true := by
        intro x hx
        obtain ⟨j, hj1, hj2, rfl⟩ := mem_drop_iff.1 hx
        have := pw_at hs (show p < j by omega) hj2
        rwa [hc.2] at this
      refine ⟨ce.take p ++ ce.drop (p + 1), skip_sub ce p, ?_, ?_, fun x hx hne => ?_, fun x hx => ?_⟩
      · rw [e]; exact List.perm_middle
      · rw [e]; exact pw_ins (hs.sublist (skip_sub ce p)) bef aft
      · obtain ⟨j, hj, rfl⟩ := mem_getD hx
        rcases Nat.lt_trichotomy j p with hjp | rfl | hjp
        · exact List.mem_append_left _ ((mem_take_iff hpl).2 ⟨j, hjp, rfl⟩)
        · exact absurd hc.2 hne
        · exact List.mem_append_right _ (mem_drop_iff.2 ⟨j, hjp, hj, rfl⟩)
      · rcases List.mem_append.1 hx with hx | hx
        · exact nb x hx
        · intro e; have := aft x hx; rw [e, bl_irrefl] at this; cases this
  · right
    have e : cellInM ce c = ce.take p ++ c :: ce.drop p := by rw [cellInM, ← hp, if_neg hc]
    have aft : ∀ x ∈ ce.drop p, Op.bytesLess c.topic x.topic = true := by
      intro x hx
      obtain ⟨j, hj1, hj2, rfl⟩ := mem_drop_iff.1 hx
      have ha : Op.bytesLess c.topic (ce.getD p default).topic = true := by
        cases hb : Op.bytesLess c.topic (ce.getD p default).topic with
        | true => rfl
        | false => exact absurd ⟨by omega, bl_tri _ _ (hat (by omega)) hb⟩ hc
      rcases Nat.eq_or_lt_of_le hj1 with rfl | hlt
      · exact ha
      · exact bl_trans _ _ _ ha (pw_at hs hlt hj2)
    refine ⟨ce, List.Sublist.refl _, ?_, ?_, fun x hx _ => hx, fun x hx => ?_⟩
    · rw [e]; exact ins_perm ce p c
    · rw [e]; exact pw_ins (by rw [List.take_append_drop]; exact hs) bef aft
    · rw [← List.take_append_drop p ce] at hx
      rcases List.mem_append.1 hx with hx | hx
      · exact nb x hx
      · intro e; have := aft x hx; rw [e, bl_irrefl] at this; cases this
theorem TR.put {t : TTable} (h : TR t) (n e : Int) (s : TStamp) (m1 m2 : Str) (m3 : Int) : TR (cellPutM t n e s m1 m2 m3) := by
  unfold cellPutM
  split
  · rename_i hc
    obtain ⟨hcb, hp⟩ := putC_ok (m2 := m2) hc (nextDot t.seen n e)
    rcases cellIn_facts h.csort (putC (nextDot t.seen n e) s.l s.c s.node m1 m2 m3) with he | ⟨ce0, h1, h2, h3, _⟩
    · rw [he]
      exact h.sub (add_right h.seen _) (fun x => has_add h.seen _) h.fences (List.Sublist.refl _) (fun r hr => (h.rok r hr).2.2)
    · exact h.cell hp hcb rfl h2 h1 h3
  · exact h
theorem TR.merge {a b : TTable} (ha : TR a) (hb : TR b) : TR (mergeM a b) := by
  unfold mergeM
  rw [if_pos (tr_iff.2 ha), if_pos (tr_iff.2 hb)]
  split
  · rename_i h; exact tr_iff.1 h
  · exact ha
end Go.Proofs.YtfamfamgopchnaaGreatDoor
/- Tables as they come: bounds, and the contracts as functions of tables. -/
namespace Go.Proofs.YtfamfamgopchnaaGreatDoor
open Go.RowKit
set_option linter.unusedSimpArgs false
set_option linter.unusedVariables false
set_option linter.unusedSectionVars false
set_option maxHeartbeats 4000000
set_option maxRecDepth 100000
attribute [local irreducible] DW SeqD DV DOp DC DVX


/-- Tables that are not too great. -/
structure Lite (m : Nat) (t : TTable) : Prop where
  s : t.seen.length ≤ m
  f : t.fences.length ≤ m
  r : t.routes.length ≤ m
  c : t.cells.length ≤ m
  rf : ∀ r ∈ t.routes, r.filter.length ≤ 65535
  ct : ∀ c ∈ t.cells, c.topic.length ≤ 65535
  cp : ∀ c ∈ t.cells, c.payload.length ≤ 1000000000
theorem Lite.mono {m n : Nat} {t : TTable} (h : Lite m t) (hmn : m ≤ n) : Lite n t := ⟨Nat.le_trans h.s hmn, Nat.le_trans h.f hmn, Nat.le_trans h.r hmn, Nat.le_trans h.c hmn, h.rf, h.ct, h.cp⟩
theorem insR_len (ro : List TRoute) (r : TRoute) : (insR ro r).length = ro.length + 1 := by rw [(insR_perm ro r).length_eq]; rfl
theorem cellIn_len (ce : List TCell) (c : TCell) : (cellInM ce c).length ≤ ce.length + 1 := by
  unfold cellInM
  split
  · split
    · omega
    · simp only [List.length_append, List.length_take, List.length_cons, List.length_drop]; omega
  · simp only [List.length_append, List.length_take, List.length_cons, List.length_drop]; omega
theorem mem_cellIn {ce : List TCell} {c x : TCell} (h : x ∈ cellInM ce c) : x = c ∨ x ∈ ce := by
  unfold cellInM at h
  have key : ∀ q, x ∈ ce.take (placeC ce c.topic) ++ c :: ce.drop q → x = c ∨ x ∈ ce := by
    intro q hx
    rcases List.mem_append.1 hx with hx | hx
    · exact .inr (List.mem_of_mem_take hx)
    · rcases List.mem_cons.1 hx with rfl | hx
      · exact .inl rfl
      · exact .inr (List.mem_of_mem_drop hx)
  split at h
  · split at h
    · exact .inr h
    · exact key _ h
  · exact key _ h
theorem join_len (a b : List TDot) : (joinM a b).length ≤ a.length + b.length := by
  unfold joinM
  split
  · exact fold_len b a
  · simp
theorem stays_len (ro1 : List TRoute) (se2 : List TDot) (ro2 : List TRoute) : (staysM ro1 se2 ro2).length ≤ ro1.length := List.length_filter_le _ _
theorem keeps_len (ce1 : List TCell) (se2 : List TDot) (ce2 : List TCell) : (keepsM ce1 se2 ce2).length ≤ ce1.length := List.length_filter_le _ _
def roStep (ro : List TRoute) (r : TRoute) : List TRoute := if (withoutR ro r.dot.node r.dot.epoch r.filter).length < ro.length then ro else insR ro r
def ceStep (ce : List TCell) (c : TCell) : List TCell := if ce.any (fun o => o.topic == c.topic) = true then ce else cellInM ce c
theorem mergeRo_eq (ro l : List TRoute) : mergeRo ro l = l.foldl roStep ro := rfl
theorem mergeCe_eq (ce l : List TCell) : mergeCe ce l = l.foldl ceStep ce := rfl
theorem mergeRo_more (ro : List TRoute) {l : List TRoute} {k : Nat} (h : k < l.length) : mergeRo ro (l.take (k + 1)) = roStep (mergeRo ro (l.take k)) (l.getD k default) := foldl_more _ _ h
theorem mergeCe_more (ce : List TCell) {l : List TCell} {k : Nat} (h : k < l.length) : mergeCe ce (l.take (k + 1)) = ceStep (mergeCe ce (l.take k)) (l.getD k default) := foldl_more _ _ h
theorem mergeFe_more (t : TTable) {l : List TFence} {k : Nat} (h : k < l.length) : mergeFe t (l.take (k + 1)) = fenceM (mergeFe t (l.take k)) (l.getD k default).node (l.getD k default).epoch := foldl_more _ _ h
theorem mergeRo_facts (l : List TRoute) : ∀ ro : List TRoute, (mergeRo ro l).length ≤ ro.length + l.length ∧ ∀ x ∈ mergeRo ro l, x ∈ ro ∨ x ∈ l := by
  induction l with
  | nil => intro ro; exact ⟨Nat.le_refl _, fun x hx => .inl hx⟩
  | cons r l ih =>
    intro ro
    obtain ⟨h1, h2⟩ := ih (roStep ro r)
    have hs : (roStep ro r).length ≤ ro.length + 1 ∧ ∀ x ∈ roStep ro r, x ∈ ro ∨ x = r := by
      unfold roStep
      split
      · exact ⟨by omega, fun x hx => .inl hx⟩
      · exact ⟨by rw [insR_len]; exact Nat.le_refl _, fun x hx => (mem_insR.1 hx).symm⟩
    refine ⟨?_, fun x hx => ?_⟩
    · show (mergeRo (roStep ro r) l).length ≤ _
      simp only [List.length_cons]; omega
    · rcases h2 x hx with h | h
      · rcases hs.2 x h with h | rfl
        · exact .inl h
        · exact .inr (List.mem_cons_self ..)
      · exact .inr (List.mem_cons_of_mem _ h)
theorem mergeCe_facts (l : List TCell) : ∀ ce : List TCell, (mergeCe ce l).length ≤ ce.length + l.length ∧ ∀ x ∈ mergeCe ce l, x ∈ ce ∨ x ∈ l := by
  induction l with
  | nil => intro ce; exact ⟨Nat.le_refl _, fun x hx => .inl hx⟩
  | cons c l ih =>
    intro ce
    obtain ⟨h1, h2⟩ := ih (ceStep ce c)
    have hs : (ceStep ce c).length ≤ ce.length + 1 ∧ ∀ x ∈ ceStep ce c, x ∈ ce ∨ x = c := by
      unfold ceStep
      split
      · exact ⟨by omega, fun x hx => .inl hx⟩
      · exact ⟨cellIn_len _ _, fun x hx => (mem_cellIn hx).symm⟩
    refine ⟨?_, fun x hx => ?_⟩
    · show (mergeCe (ceStep ce c) l).length ≤ _
      simp only [List.length_cons]; omega
    · rcases h2 x hx with h | h
      · rcases hs.2 x h with h | rfl
        · exact .inl h
        · exact .inr (List.mem_cons_self ..)
      · exact .inr (List.mem_cons_of_mem _ h)
theorem stepFe_len1 (node epoch : Int) (a : List TFence × Bool) (f : TFence) : (stepFe node epoch a f).1.length + (if (stepFe node epoch a f).2 = true then 0 else 1) ≤ a.1.length + (if a.2 = true then 0 else 1) + 1 := by
  obtain ⟨l, b⟩ := a
  unfold stepFe
  cases b
  · by_cases h1 : f.node = node
    · rw [if_pos h1]; by_cases h2 : node ≤ f.node <;> simp [h2]
    · rw [if_neg h1]; by_cases h2 : node ≤ f.node <;> simp [h2]
  · by_cases h1 : f.node = node <;> simp [h1]
theorem fenceL_len (fe : List TFence) (node epoch : Int) : (fenceL fe node epoch).length ≤ fe.length + 1 := by
  have key : ∀ k, k ≤ fe.length → (fenceAcc fe node epoch k).1.length + (if (fenceAcc fe node epoch k).2 = true then 0 else 1) ≤ k + 1 := by
    intro k
    induction k with
    | zero => intro _; simp [fenceAcc_0]
    | succ k ih =>
      intro hk
      rw [fenceAcc_more (by omega)]
      have := stepFe_len1 node epoch (fenceAcc fe node epoch k) (fe.getD k default)
      have := ih (by omega)
      omega
  have h := key fe.length (Nat.le_refl _)
  unfold fenceL
  by_cases hb : (fenceAcc fe node epoch fe.length).2 = true
  · rw [if_pos hb] at h ⊢; omega
  · rw [if_neg hb] at h ⊢; simp only [List.length_append, List.length_singleton]; omega
theorem fenceM_facts (t : TTable) (n e : Int) : (fenceM t n e).seen = t.seen ∧ (fenceM t n e).cells = t.cells ∧ (fenceM t n e).fences.length ≤ t.fences.length + 1 ∧ (fenceM t n e).routes.Sublist t.routes := by
  unfold fenceM
  split
  · exact ⟨rfl, rfl, fenceL_len _ _ _, List.filter_sublist⟩
  · exact ⟨rfl, rfl, by omega, List.Sublist.refl _⟩
theorem mergeFe_facts (l : List TFence) : ∀ t : TTable, (mergeFe t l).seen = t.seen ∧ (mergeFe t l).cells = t.cells ∧ (mergeFe t l).fences.length ≤ t.fences.length + l.length ∧ (mergeFe t l).routes.Sublist t.routes := by
  induction l with
  | nil => intro t; exact ⟨rfl, rfl, Nat.le_refl _, List.Sublist.refl _⟩
  | cons f l ih =>
    intro t
    obtain ⟨h1, h2, h3, h4⟩ := ih (fenceM t f.node f.epoch)
    obtain ⟨g1, g2, g3, g4⟩ := fenceM_facts t f.node f.epoch
    refine ⟨h1.trans g1, h2.trans g2, ?_, h4.trans g4⟩
    show (mergeFe (fenceM t f.node f.epoch) l).fences.length ≤ _
    simp only [List.length_cons]; omega
theorem merge0_lite {m : Nat} {a b : TTable} (ha : Lite m a) (hb : Lite m b) : Lite (m + m) (merge0 a b) := by
  have h1 := join_len a.seen b.seen
  have r1 := stays_len a.routes b.seen b.routes
  have r2 := stays_len b.routes a.seen a.routes
  have c1 := keeps_len a.cells b.seen b.cells
  have c2 := keeps_len b.cells a.seen a.cells
  obtain ⟨f1, f2⟩ := mergeRo_facts (staysM b.routes a.seen a.routes) (staysM a.routes b.seen b.routes)
  obtain ⟨g1, g2⟩ := mergeCe_facts (keepsM b.cells a.seen a.cells) (keepsM a.cells b.seen b.cells)
  have := ha.s; have := ha.f; have := ha.r; have := ha.c; have := hb.s; have := hb.f; have := hb.r; have := hb.c
  have mr : ∀ x ∈ (merge0 a b).routes, x ∈ a.routes ∨ x ∈ b.routes := fun x hx => by
    rcases f2 x hx with h | h
    · exact .inl (List.filter_sublist.subset h)
    · exact .inr (List.filter_sublist.subset h)
  have mc : ∀ x ∈ (merge0 a b).cells, x ∈ a.cells ∨ x ∈ b.cells := fun x hx => by
    rcases g2 x hx with h | h
    · exact .inl (List.filter_sublist.subset h)
    · exact .inr (List.filter_sublist.subset h)
  refine ⟨?_, ?_, ?_, ?_, fun r hr => ?_, fun c hc => ?_, fun c hc => ?_⟩
  · show (joinM a.seen b.seen).length ≤ _; omega
  · show a.fences.length ≤ _; omega
  · show (mergeRo _ _).length ≤ _; omega
  · show (mergeCe _ _).length ≤ _; omega
  · rcases mr r hr with h | h
    · exact ha.rf r h
    · exact hb.rf r h
  · rcases mc c hc with h | h
    · exact ha.ct c h
    · exact hb.ct c h
  · rcases mc c hc with h | h
    · exact ha.cp c h
    · exact hb.cp c h
theorem merge1_lite {m : Nat} {a b : TTable} (ha : Lite m a) (hb : Lite m b) (k : Nat) : Lite (m + m) (mergeFe (merge0 a b) (b.fences.take k)) := by
  have h := merge0_lite ha hb
  obtain ⟨h1, h2, h3, h4⟩ := mergeFe_facts (b.fences.take k) (merge0 a b)
  have hf : (merge0 a b).fences.length ≤ m := ha.f
  have := hb.f
  refine ⟨by rw [h1]; exact h.s, ?_, Nat.le_trans h4.length_le h.r, by rw [h2]; exact h.c, fun r hr => h.rf r (h4.subset hr), by rw [h2]; exact h.ct, by rw [h2]; exact h.cp⟩
  rw [List.length_take] at h3; omega
theorem unf_lite {m : Nat} {t : TTable} (h : Lite m t) : Lite m { t with routes := unfR t.fences t.routes } := by
  refine ⟨h.s, h.f, Nat.le_trans (List.length_filter_le _ _) h.r, h.c, fun r hr => h.rf r (List.filter_sublist.subset hr), h.ct, h.cp⟩
def unfM (t : TTable) : TTable := { t with routes := unfR t.fences t.routes }
theorem roStep_1 {ro : List TRoute} {r : TRoute} (h : (withoutR ro r.dot.node r.dot.epoch r.filter).length < ro.length) : roStep ro r = ro := if_pos h
theorem roStep_2 {ro : List TRoute} {r : TRoute} (h : ¬ (withoutR ro r.dot.node r.dot.epoch r.filter).length < ro.length) : roStep ro r = insR ro r := if_neg h
theorem ceStep_1 {ce : List TCell} {c : TCell} (h : ce.any (fun o => o.topic == c.topic) = true) : ceStep ce c = ce := if_pos h
theorem ceStep_2 {ce : List TCell} {c : TCell} (h : ce.any (fun o => o.topic == c.topic) = false) : ceStep ce c = cellInM ce c := if_neg (by rw [h]; simp)
theorem mergeFe_0 (t : TTable) (l : List TFence) : mergeFe t (List.take 0 l) = t := rfl
theorem m0_seen (a b : TTable) : (merge0 a b).seen = joinM a.seen b.seen := rfl
theorem m0_fences (a b : TTable) : (merge0 a b).fences = a.fences := rfl
theorem m0_routes (a b : TTable) : (merge0 a b).routes = mergeRo (staysM a.routes b.seen b.routes) (staysM b.routes a.seen a.routes) := rfl
theorem m0_cells (a b : TTable) : (merge0 a b).cells = mergeCe (keepsM a.cells b.seen b.cells) (keepsM b.cells a.seen a.cells) := rfl
theorem mergeM_1 {a b : TTable} (h1 : tabB a = false) (h2 : tabB b = false) : mergeM a b = emptyT := by rw [mergeM, if_neg (by rw [h1]; simp), if_neg (by rw [h2]; simp)]
theorem mergeM_2 {a b : TTable} (h1 : tabB a = false) (h2 : tabB b = true) : mergeM a b = b := by rw [mergeM, if_neg (by rw [h1]; simp), if_pos h2]
theorem mergeM_3 {a b : TTable} (h1 : tabB a = true) (h2 : tabB b = false) : mergeM a b = a := by rw [mergeM, if_pos h1, if_neg (by rw [h2]; simp)]
theorem mergeM_4 {a b : TTable} (h1 : tabB a = true) (h2 : tabB b = true) (h3 : tabB (unfM (mergeFe (merge0 a b) b.fences)) = false) : mergeM a b = a := by rw [mergeM, if_pos h1, if_pos h2, if_neg (by rw [show merge2 a b = unfM (mergeFe (merge0 a b) b.fences) from rfl, h3]; simp)]
theorem mergeM_5 {a b : TTable} (h1 : tabB a = true) (h2 : tabB b = true) (h3 : tabB (unfM (mergeFe (merge0 a b) b.fences)) = true) : mergeM a b = unfM (mergeFe (merge0 a b) b.fences) := by rw [mergeM, if_pos h1, if_pos h2, if_pos (show tabB (merge2 a b) = true from h3)]; rfl
theorem merge2_lite {m : Nat} {a b : TTable} (ha : Lite m a) (hb : Lite m b) : Lite (m + m) (merge2 a b) := by
  have := merge1_lite ha hb b.fences.length
  rw [List.take_length] at this
  exact unf_lite this
theorem merge_lite {m : Nat} {a b : TTable} (ha : Lite m a) (hb : Lite m b) : Lite (m + m) (mergeM a b) := by
  unfold mergeM
  split
  · split
    · split
      · exact merge2_lite ha hb
      · exact ha.mono (by omega)
    · exact ha.mono (by omega)
  · split
    · exact hb.mono (by omega)
    · exact ⟨Nat.zero_le _, Nat.zero_le _, Nat.zero_le _, Nat.zero_le _, (fun _ h => nomatch h), (fun _ h => nomatch h), (fun _ h => nomatch h)⟩
theorem fenceT_dc (t : TTable) (n e : Int) (F : Own) : (Lite 100000000 t) → DC Tryz.prog 29 [.agg [.sl (t.seen.map encDot), .sl (t.fences.map encFence), .sl (t.routes.map encRoute), .sl (t.cells.map encCell)], .int .i64 n, .int .i64 e] (([] : Own) ++ F) fun d G => d = .agg [.sl ((fenceM t n e).seen.map encDot), .sl ((fenceM t n e).fences.map encFence), .sl ((fenceM t n e).routes.map encRoute), .sl ((fenceM t n e).cells.map encCell)] ∧ G = [] ++ F := by
  intro h
  refine (rfence_dc t.seen t.fences t.routes t.cells n e F ⟨⟨by have := h.s; omega, by have := h.f; omega, by have := h.r; omega, by have := h.c; omega⟩, h.f⟩).mono fun d G hd => ?_
  obtain ⟨hd | hd, hG⟩ := hd
  · rw [fenceM, if_neg (by rintro ⟨x, y⟩; rcases hd.1 with h | h <;> simp_all)]; exact ⟨hd.2, hG⟩
  · rw [fenceM, if_pos hd.1]; exact ⟨hd.2, hG⟩
theorem unfT_dc (t : TTable) (F : Own) : (Lite 1000000000 t) → DC Tryz.prog 89 [.agg [.sl (t.seen.map encDot), .sl (t.fences.map encFence), .sl (t.routes.map encRoute), .sl (t.cells.map encCell)]] (([] : Own) ++ F) fun d G => d = .agg [.sl ((unfM t).seen.map encDot), .sl ((unfM t).fences.map encFence), .sl ((unfM t).routes.map encRoute), .sl ((unfM t).cells.map encCell)] ∧ G = [] ++ F := by
  intro h
  exact unfenced_dc t.seen t.fences t.routes t.cells F ⟨h.s, h.f, h.r, h.c⟩
theorem rightT_dc (t : TTable) (F : Own) : (Lite 1000000000 t) → DC Tryz.prog 16 [.agg [.sl (t.seen.map encDot), .sl (t.fences.map encFence), .sl (t.routes.map encRoute), .sl (t.cells.map encCell)]] (([] : Own) ++ F) fun d G => d = .bool (tabB t) ∧ G = [] ++ F := by
  intro h
  exact tableright_dc t.seen t.fences t.routes t.cells F ⟨⟨h.s, h.f, h.r, h.c⟩, fun k hk => h.rf _ (getD_mem hk), fun k hk => h.ct _ (getD_mem hk), fun k hk => h.cp _ (getD_mem hk)⟩
theorem addT_dc (t : TTable) (n e : Int) (f : Str) (F : Own) : (Lite 1000000000 t ∧ f.length ≤ 1000000000 ∧ -1000000000000 ≤ topM t.seen n e ∧ topM t.seen n e ≤ 1000000000000) → DC Tryz.prog 27 [.agg [.sl (t.seen.map encDot), .sl (t.fences.map encFence), .sl (t.routes.map encRoute), .sl (t.cells.map encCell)], .int .i64 n, .int .i64 e, .str f] (([] : Own) ++ F) fun d G => d = .agg [.sl ((routeAddM t n e f).seen.map encDot), .sl ((routeAddM t n e f).fences.map encFence), .sl ((routeAddM t n e f).routes.map encRoute), .sl ((routeAddM t n e f).cells.map encCell)] ∧ G = [] ++ F := by
  intro h
  obtain ⟨h, h1, h2, h3⟩ := h
  refine (routeadd_dc t.seen t.fences t.routes t.cells n e f F ⟨⟨h.s, h.f, h.r, h.c⟩, h1, h2, h3⟩).mono fun d G hd => ?_
  obtain ⟨hd | hd, hG⟩ := hd
  · rw [routeAddM, if_neg (by rintro ⟨x, y, z⟩; rcases hd.1 with h | h | h <;> simp_all)]; exact ⟨hd.2, hG⟩
  · rw [routeAddM, if_pos hd.1]; exact ⟨hd.2, hG⟩
theorem dropT_dc (t : TTable) (n e : Int) (f : Str) (F : Own) : (Lite 1000000000 t ∧ -1000000000000 ≤ topM t.seen n e ∧ topM t.seen n e ≤ 1000000000000) → DC Tryz.prog 28 [.agg [.sl (t.seen.map encDot), .sl (t.fences.map encFence), .sl (t.routes.map encRoute), .sl (t.cells.map encCell)], .int .i64 n, .int .i64 e, .str f] (([] : Own) ++ F) fun d G => d = .agg [.sl ((routeDropM t n e f).seen.map encDot), .sl ((routeDropM t n e f).fences.map encFence), .sl ((routeDropM t n e f).routes.map encRoute), .sl ((routeDropM t n e f).cells.map encCell)] ∧ G = [] ++ F := by
  intro h
  obtain ⟨h, h2, h3⟩ := h
  refine (rdrop_dc t.seen t.fences t.routes t.cells n e f F ⟨⟨h.s, h.f, h.r, h.c⟩, h2, h3⟩).mono fun d G hd => ?_
  obtain ⟨hd | hd, hG⟩ := hd
  · rw [routeDropM, if_neg (by have := hd.1; omega)]; exact ⟨hd.2, hG⟩
  · rw [routeDropM, if_pos hd.1]; exact ⟨hd.2, hG⟩
theorem putT_dc (t : TTable) (n e s1 s2 s3 : Int) (m1 m2 : Str) (m3 : Int) (m4 : Bool) (F : Own) : (Lite 1000000000 t ∧ (m1.length ≤ 1000000000 ∧ m2.length ≤ 1000000000) ∧ -1000000000000 ≤ topM t.seen n e ∧ topM t.seen n e ≤ 1000000000000) → DC Tryz.prog 126 [.agg [.sl (t.seen.map encDot), .sl (t.fences.map encFence), .sl (t.routes.map encRoute), .sl (t.cells.map encCell)], .int .i64 n, .int .i64 e, .agg [.int .i64 s1, .int .i64 s2, .int .i64 s3], .agg [.str m1, .sl (m2.map u8), .int .i64 m3, .bool m4]] (([] : Own) ++ F) fun d G => d = .agg [.sl ((cellPutM t n e ⟨s1, s2, s3⟩ m1 m2 m3).seen.map encDot), .sl ((cellPutM t n e ⟨s1, s2, s3⟩ m1 m2 m3).fences.map encFence), .sl ((cellPutM t n e ⟨s1, s2, s3⟩ m1 m2 m3).routes.map encRoute), .sl ((cellPutM t n e ⟨s1, s2, s3⟩ m1 m2 m3).cells.map encCell)] ∧ G = [] ++ F := by
  intro h
  obtain ⟨h, h1, h2, h3⟩ := h
  refine (cellput_dc t.seen t.fences t.routes t.cells n e s1 s2 s3 m1 m2 m3 m4 F ⟨⟨h.s, h.f, h.r, h.c⟩, h1, h2, h3⟩).mono fun d G hd => ?_
  obtain ⟨hd | hd, hG⟩ := hd
  · rw [cellPutM, if_neg (by rw [hd.1]; simp)]; exact ⟨hd.2, hG⟩
  · rw [cellPutM, if_pos hd.1]; exact ⟨hd.2, hG⟩
end Go.Proofs.YtfamfamgopchnaaGreatDoor
/- Tables of a story: what comes of deeds, and how great that may be. No statement of the program. -/
namespace Go.Proofs.YtfamfamgopchnaaGreatDoor
open Go.RowKit
set_option linter.unusedSimpArgs false
set_option linter.unusedVariables false
set_option linter.unusedSectionVars false

structure TDeed where
  what : Int
  who : Int
  k : Int
  x : Str
  deriving DecidableEq, Inhabited
def encDeed (d : TDeed) : V := .agg [.int .u8 d.what, .int .u8 d.who, .int .u8 d.k, .sl (d.x.map u8)]
def topicL : List Str := [[97], [97, 47, 98], [98, 47, 99], [36, 115, 47, 97], [97, 47, 47, 98], [195, 169, 47, 97], [99]]
def filterL : List Str := [[97], [35], [97, 47, 43], [43, 47, 98], [97, 47, 35], [98, 47, 99], [36, 115, 47, 35], [43], [43, 47, 43], [195, 169, 47, 35]]
def topicM (k : Int) : Str := topicL.getD (k.tmod 7).toNat default
def filterM (k : Int) : Str := filterL.getD (k.tmod 10).toNat default
structure TSt where
  ts : List TTable
  es : List Int
  at_ : Int
def tabT (s : TSt) (n : Int) : TTable := s.ts.getD n.toNat default
def epT (s : TSt) (n : Int) : Int := s.es.getD n.toNat default
def actT (s : TSt) (d : TDeed) (a : Int) : TTable :=
  if d.what.tmod 8 = 0 ∨ d.what.tmod 8 = 1 then routeAddM (tabT s (d.who.tmod 3)) (d.who.tmod 3) (epT s (d.who.tmod 3)) (filterM d.k)
  else if d.what.tmod 8 = 2 then routeDropM (tabT s (d.who.tmod 3)) (d.who.tmod 3) (epT s (d.who.tmod 3)) (filterM d.k)
  else if d.what.tmod 8 = 3 ∨ d.what.tmod 8 = 4 then cellPutM (tabT s (d.who.tmod 3)) (d.who.tmod 3) (epT s (d.who.tmod 3)) ⟨a, d.k.tmod 2, d.who.tmod 3⟩ (topicM d.k) d.x (d.k.tmod 3)
  else if d.what.tmod 8 = 5 then (if d.k.tmod 4 = 0 then fenceM (tabT s (d.who.tmod 3)) ((d.k.tdiv 4).tmod 3) (epT s ((d.k.tdiv 4).tmod 3)) else tabT s (d.who.tmod 3))
  else mergeM (tabT s (d.who.tmod 3)) (tabT s (d.k.tmod 3))
def endT (s : TSt) (d : TDeed) (t : TTable) : TSt :=
  ⟨s.ts.set (d.who.tmod 3).toNat t, if fencedL t.fences (d.who.tmod 3) (epT s (d.who.tmod 3)) = true then s.es.set (d.who.tmod 3).toNat (epT s (d.who.tmod 3) + 1) else s.es, s.at_ + d.k.tmod 3⟩
def stepT (s : TSt) (d : TDeed) : TSt := endT s d (actT s d (s.at_ + d.k.tmod 3))
def startT : TSt := ⟨[emptyT, emptyT, emptyT], [1, 1, 1], 1⟩
def storyT (l : List TDeed) : TSt := l.foldl stepT startT
def tablesM (l : List TDeed) : List TTable := (storyT l).ts

/-! What lies in what comes. -/
theorem mem_add {l : List TDot} {d x : TDot} (h : x ∈ addM l d) : x = d ∨ x ∈ l := by
  unfold addM at h
  split at h
  · rename_i hr
    split at h
    · rename_i hc
      rcases ((put_facts (right_iff.1 hr) hc.1).2 x).1 h with h | h
      · exact .inl h
      · exact .inr h.1
    · exact .inr h
  · cases h
theorem mem_fold (b : List TDot) : ∀ (a : List TDot) (x : TDot), x ∈ b.foldl addM a → x ∈ a ∨ x ∈ b := by
  induction b with
  | nil => intro a x h; exact .inl h
  | cons d b ih =>
    intro a x h
    rcases ih _ x h with h | h
    · rcases mem_add h with rfl | h
      · exact .inr (List.mem_cons_self ..)
      · exact .inl h
    · exact .inr (List.mem_cons_of_mem _ h)
theorem mem_join {a b : List TDot} {x : TDot} (h : x ∈ joinM a b) : x ∈ a ∨ x ∈ b := by
  unfold joinM at h
  split at h
  · exact mem_fold b a x h
  · cases h
theorem mem_fenceL' {fe : List TFence} {n e : Int} {x : TFence} (h : x ∈ fenceL fe n e) : x = ⟨n, e⟩ ∨ x ∈ fe := by
  have key : ∀ k, k ≤ fe.length → ∀ x, x ∈ (fenceAcc fe n e k).1 → x = ⟨n, e⟩ ∨ x ∈ fe := by
    intro k
    induction k with
    | zero => intro _ x hx; rw [fenceAcc_0] at hx; cases hx
    | succ k ih =>
      intro hk x hx
      rw [fenceAcc_more (by omega)] at hx
      have hm : fe.getD k default ∈ fe := getD_mem (by omega)
      have ih := ih (by omega)
      unfold stepFe at hx
      split at hx
      · split at hx
        · rcases List.mem_append.1 hx with hx | hx
          · exact ih x hx
          · rw [List.mem_singleton] at hx; exact .inl hx
        · exact ih x hx
      · split at hx
        · rcases List.mem_append.1 hx with hx | hx
          · rcases List.mem_append.1 hx with hx | hx
            · exact ih x hx
            · rw [List.mem_singleton] at hx; exact .inl hx
          · rw [List.mem_singleton] at hx; exact .inr (hx ▸ hm)
        · rcases List.mem_append.1 hx with hx | hx
          · exact ih x hx
          · rw [List.mem_singleton] at hx; exact .inr (hx ▸ hm)
  unfold fenceL at h
  split at h
  · exact key _ (Nat.le_refl _) x h
  · rcases List.mem_append.1 h with h | h
    · exact key _ (Nat.le_refl _) x h
    · rw [List.mem_singleton] at h; exact .inl h
theorem mem_fenceM {t : TTable} {n e : Int} {x : TFence} (h : x ∈ (fenceM t n e).fences) : x = ⟨n, e⟩ ∨ x ∈ t.fences := by
  unfold fenceM at h
  split at h
  · exact mem_fenceL' h
  · exact .inr h
theorem mem_mergeFe (l : List TFence) : ∀ (t : TTable) (x : TFence), x ∈ (mergeFe t l).fences → x ∈ t.fences ∨ x ∈ l := by
  induction l with
  | nil => intro t x h; exact .inl h
  | cons f l ih =>
    intro t x h
    rcases ih (fenceM t f.node f.epoch) x h with h | h
    · rcases mem_fenceM h with rfl | h
      · exact .inr (List.mem_cons_self ..)
      · exact .inl h
    · exact .inr (List.mem_cons_of_mem _ h)
/-- What holds of all that two tables have holds of all that comes of them. -/
structure All4 (ps : TDot → Prop) (pf : TFence → Prop) (pr : TRoute → Prop) (pc : TCell → Prop) (t : TTable) : Prop where
  s : ∀ d ∈ t.seen, ps d
  f : ∀ f ∈ t.fences, pf f
  r : ∀ r ∈ t.routes, pr r
  c : ∀ c ∈ t.cells, pc c
section
variable {ps : TDot → Prop} {pf : TFence → Prop} {pr : TRoute → Prop} {pc : TCell → Prop}
theorem All4.empty : All4 ps pf pr pc emptyT := ⟨(fun _ h => nomatch h), (fun _ h => nomatch h), (fun _ h => nomatch h), (fun _ h => nomatch h)⟩
theorem All4.merge0 {a b : TTable} (ha : All4 ps pf pr pc a) (hb : All4 ps pf pr pc b) : All4 ps pf pr pc (merge0 a b) where
  s d hd := by
    rcases mem_join hd with h | h
    · exact ha.s d h
    · exact hb.s d h
  f := ha.f
  r x hx := by
    rcases (mergeRo_facts _ _).2 x hx with h | h
    · exact ha.r x (List.filter_sublist.subset h)
    · exact hb.r x (List.filter_sublist.subset h)
  c x hx := by
    rcases (mergeCe_facts _ _).2 x hx with h | h
    · exact ha.c x (List.filter_sublist.subset h)
    · exact hb.c x (List.filter_sublist.subset h)
theorem All4.merge {a b : TTable} (ha : All4 ps pf pr pc a) (hb : All4 ps pf pr pc b) : All4 ps pf pr pc (mergeM a b) := by
  have h0 := ha.merge0 hb
  obtain ⟨h1, h2, _, h4⟩ := mergeFe_facts b.fences (Go.Proofs.YtfamfamgopchnaaGreatDoor.merge0 a b)
  have h2' : All4 ps pf pr pc (merge2 a b) := by
    refine ⟨?_, ?_, ?_, ?_⟩
    · show ∀ d ∈ (mergeFe _ _).seen, ps d
      rw [h1]; exact h0.s
    · intro x hx
      rcases mem_mergeFe _ _ x hx with h | h
      · exact h0.f x h
      · exact hb.f x h
    · intro x hx
      exact h0.r x (h4.subset (List.filter_sublist.subset hx))
    · show ∀ d ∈ (mergeFe _ _).cells, pc d
      rw [h2]; exact h0.c
  unfold mergeM
  split
  · split
    · split
      · exact h2'
      · exact ha
    · exact ha
  · split
    · exact hb
    · exact All4.empty
theorem All4.add {t : TTable} (h : All4 ps pf pr pc t) (n e : Int) (f : Str) (h1 : fencedL t.fences n e = false → pairB n e = true → ps (nextDot t.seen n e)) (h2 : pr ⟨nextDot t.seen n e, f⟩) : All4 ps pf pr pc (routeAddM t n e f) := by
  unfold routeAddM
  split
  · rename_i hc
    refine ⟨fun d hd => ?_, h.f, fun r hr => ?_, h.c⟩
    · rcases mem_add hd with rfl | hd
      · exact h1 hc.2.2 hc.2.1
      · exact h.s d hd
    · rcases mem_insR.1 hr with rfl | hr
      · exact h2
      · exact h.r r ((without_sub _ _ _ _).subset hr)
  · exact h
theorem All4.drop {t : TTable} (h : All4 ps pf pr pc t) (n e : Int) (f : Str) (h1 : ps (nextDot t.seen n e)) : All4 ps pf pr pc (routeDropM t n e f) := by
  unfold routeDropM
  split
  · refine ⟨fun d hd => ?_, h.f, fun r hr => h.r r ((without_sub _ _ _ _).subset hr), h.c⟩
    rcases mem_add hd with rfl | hd
    · exact h1
    · exact h.s d hd
  · exact h
theorem All4.fence {t : TTable} (h : All4 ps pf pr pc t) (n e : Int) (h1 : pf ⟨n, e⟩) : All4 ps pf pr pc (fenceM t n e) := by
  unfold fenceM
  split
  · refine ⟨h.s, fun f hf => ?_, fun r hr => h.r r (List.filter_sublist.subset hr), h.c⟩
    rcases mem_fenceL' hf with rfl | hf
    · exact h1
    · exact h.f f hf
  · exact h
theorem All4.put {t : TTable} (h : All4 ps pf pr pc t) (n e : Int) (s : TStamp) (m1 m2 : Str) (m3 : Int) (h1 : ps (nextDot t.seen n e)) (h2 : pc (putC (nextDot t.seen n e) s.l s.c s.node m1 m2 m3)) : All4 ps pf pr pc (cellPutM t n e s m1 m2 m3) := by
  unfold cellPutM
  split
  · refine ⟨fun d hd => ?_, h.f, h.r, fun c hc => ?_⟩
    · rcases mem_add hd with rfl | hd
      · exact h1
      · exact h.s d hd
    · rcases mem_cellIn hc with rfl | hc
      · exact h2
      · exact h.c c hc
  · exact h
end
/-- How great a story's numbers are behind so many deeds. -/
abbrev Rng (i : Nat) : TTable → Prop := All4 (fun d => (0 ≤ d.node ∧ d.node < 3) ∧ (1 ≤ d.epoch ∧ d.epoch ≤ i + 1) ∧ (1 ≤ d.n ∧ d.n ≤ i)) (fun f => (0 ≤ f.node ∧ f.node < 3) ∧ (1 ≤ f.epoch ∧ f.epoch ≤ i + 1)) (fun r => r.filter ∈ filterL) (fun c => c.topic ∈ topicL ∧ c.payload.length ≤ 30 ∧ 1 ≤ c.stamp.l ∧ c.stamp.l ≤ 1 + 2 * i ∧ (c.stamp.c = 0 ∨ c.stamp.c = 1))
theorem Rng.mono {i j : Nat} {t : TTable} (h : Rng i t) (hij : i ≤ j) : Rng j t where
  s d hd := by have := h.s d hd; omega
  f d hd := by have := h.f d hd; omega
  r := h.r
  c c hc := by
    obtain ⟨h1, h2, h3, h4, h5⟩ := h.c c hc
    exact ⟨h1, h2, h3, by omega, h5⟩
theorem top_le {i : Nat} {l : List TDot} (hr : rightB l = true) (h : ∀ d ∈ l, d.n ≤ i) (n e : Int) : 0 ≤ topM l n e ∧ topM l n e ≤ i := by
  rcases top_cases hr n e with ⟨d, hd, _, _, h3⟩ | ⟨_, h3⟩
  · have := h d hd
    have := (right_iff.1 hr).2 d hd
    rw [one_iff] at this
    omega
  · rw [h3]; omega
theorem mem_getD' {α : Type} [Inhabited α] {l : List α} {k : Nat} (h : k < l.length) : l.getD k default ∈ l := getD_mem h
theorem filterM_mem {k : Int} (h : 0 ≤ k) : filterM k ∈ filterL := by
  have h1 := Int.tmod_nonneg 10 h
  have h2 := Int.tmod_lt_of_pos k (show (0 : Int) < 10 by decide)
  exact getD_mem (by show _ < 10; omega)
theorem topicM_mem {k : Int} (h : 0 ≤ k) : topicM k ∈ topicL := by
  have h1 := Int.tmod_nonneg 7 h
  have h2 := Int.tmod_lt_of_pos k (show (0 : Int) < 7 by decide)
  exact getD_mem (by show _ < 7; omega)
/-- A deed of a story, as it may come. -/
def deedOk (d : TDeed) : Prop := (0 ≤ d.what ∧ d.what ≤ 255) ∧ (0 ≤ d.who ∧ d.who ≤ 255) ∧ (0 ≤ d.k ∧ d.k ≤ 255) ∧ d.x.length ≤ 30
/-- How a story stands behind so many deeds. -/
structure Story (i : Nat) (s : TSt) : Prop where
  lt : s.ts.length = 3
  le : s.es.length = 3
  tr : ∀ t ∈ s.ts, TR t
  rng : ∀ t ∈ s.ts, Rng i t
  ep : ∀ e ∈ s.es, 1 ≤ e ∧ e ≤ i + 1
  at1 : 1 ≤ s.at_
  at2 : s.at_ ≤ 1 + 2 * i
theorem Story.start : Story 0 startT := ⟨rfl, rfl, (fun t h => by simp [startT] at h; subst h; exact tr_empty), (fun t h => by simp [startT] at h; subst h; exact All4.empty), (fun e h => by simp [startT] at h; omega), by decide, by decide⟩
theorem tmod3 {k : Int} (h : 0 ≤ k) : 0 ≤ k.tmod 3 ∧ k.tmod 3 < 3 := ⟨Int.tmod_nonneg 3 h, Int.tmod_lt_of_pos k (by decide)⟩
theorem Story.tab {i : Nat} {s : TSt} (h : Story i s) {n : Int} (hn : 0 ≤ n ∧ n < 3) : TR (tabT s n) ∧ Rng i (tabT s n) ∧ (1 ≤ epT s n ∧ epT s n ≤ i + 1) := by
  have h1 := h.lt; have h2 := h.le
  exact ⟨h.tr _ (getD_mem (by omega)), h.rng _ (getD_mem (by omega)), h.ep _ (getD_mem (by omega))⟩
theorem Story.act {i : Nat} {s : TSt} (h : Story i s) {d : TDeed} (hd : deedOk d) : TR (actT s d (s.at_ + d.k.tmod 3)) ∧ Rng (i + 1) (actT s d (s.at_ + d.k.tmod 3)) := by
  obtain ⟨hw, ho, hk, hx⟩ := hd
  have m := tmod3 ho.1
  have mk := tmod3 hk.1
  obtain ⟨t1, t2, t3⟩ := h.tab m
  have t2' := t2.mono (Nat.le_succ i)
  have tl := top_le t1.seen (fun d hd => (t2.s d hd).2.2.2) (d.who.tmod 3) (epT s (d.who.tmod 3))
  have nx : ((0 ≤ (nextDot (tabT s (d.who.tmod 3)).seen (d.who.tmod 3) (epT s (d.who.tmod 3))).node ∧ (nextDot (tabT s (d.who.tmod 3)).seen (d.who.tmod 3) (epT s (d.who.tmod 3))).node < 3) ∧ (1 ≤ (nextDot (tabT s (d.who.tmod 3)).seen (d.who.tmod 3) (epT s (d.who.tmod 3))).epoch ∧ (nextDot (tabT s (d.who.tmod 3)).seen (d.who.tmod 3) (epT s (d.who.tmod 3))).epoch ≤ ((i + 1 : Nat) : Int) + 1) ∧ (1 ≤ (nextDot (tabT s (d.who.tmod 3)).seen (d.who.tmod 3) (epT s (d.who.tmod 3))).n ∧ (nextDot (tabT s (d.who.tmod 3)).seen (d.who.tmod 3) (epT s (d.who.tmod 3))).n ≤ ((i + 1 : Nat) : Int))) := by
    simp only [nextDot]
    omega
  unfold actT
  split
  · exact ⟨t1.add _ _ _, t2'.add _ _ _ (fun _ _ => nx) (filterM_mem hk.1)⟩
  · split
    · exact ⟨t1.drop _ _ _, t2'.drop _ _ _ nx⟩
    · split
      · refine ⟨t1.put _ _ _ _ _ _, t2'.put _ _ _ _ _ _ nx ⟨topicM_mem hk.1, hx, ?_, ?_, ?_⟩⟩
        · have := h.at1; show 1 ≤ s.at_ + _; omega
        · have := h.at2; show s.at_ + _ ≤ 1 + 2 * ((i + 1 : Nat) : Int); omega
        · have h1 := Int.tmod_nonneg 2 hk.1
          have h2 := Int.tmod_lt_of_pos d.k (show (0 : Int) < 2 by decide)
          show d.k.tmod 2 = 0 ∨ d.k.tmod 2 = 1; omega
      · split
        · split
          · have m4 := tmod3 (Int.tdiv_nonneg hk.1 (show (0 : Int) ≤ 4 by decide))
            obtain ⟨_, _, e3⟩ := h.tab m4
            exact ⟨t1.fence _ _, t2'.fence _ _ ⟨m4, e3.1, by have := e3.2; show epT s _ ≤ ((i + 1 : Nat) : Int) + 1; omega⟩⟩
          · exact ⟨t1, t2'⟩
        · obtain ⟨k1, k2, _⟩ := h.tab mk
          exact ⟨t1.merge k1, t2'.merge (k2.mono (Nat.le_succ i))⟩
theorem mem_set_of {α : Type} {l : List α} {k : Nat} {a x : α} (h : x ∈ l.set k a) : x ∈ l ∨ x = a := List.mem_or_eq_of_mem_set h
theorem Story.step {i : Nat} {s : TSt} (h : Story i s) {d : TDeed} (hd : deedOk d) : Story (i + 1) (stepT s d) := by
  obtain ⟨a1, a2⟩ := h.act hd
  obtain ⟨hw, ho, hk, hx⟩ := hd
  have m := tmod3 ho.1
  have mk := tmod3 hk.1
  obtain ⟨_, _, t3⟩ := h.tab m
  refine ⟨?_, ?_, fun t ht => ?_, fun t ht => ?_, fun e he => ?_, ?_, ?_⟩
  · simp only [stepT, endT, List.length_set]; exact h.lt
  · simp only [stepT, endT]; split
    · rw [List.length_set]; exact h.le
    · exact h.le
  · rcases mem_set_of ht with ht | rfl
    · exact h.tr t ht
    · exact a1
  · rcases mem_set_of ht with ht | rfl
    · exact (h.rng t ht).mono (Nat.le_succ i)
    · exact a2
  · simp only [stepT, endT] at he
    split at he
    · rcases mem_set_of he with he | rfl
      · have := h.ep e he; omega
      · omega
    · have := h.ep e he; omega
  · have := h.at1; show 1 ≤ s.at_ + _; omega
  · have := h.at2; show s.at_ + _ ≤ 1 + 2 * ((i + 1 : Nat) : Int); omega
theorem Story.take {l : List TDeed} (h : ∀ d ∈ l, deedOk d) : ∀ k, k ≤ l.length → Story k ((l.take k).foldl stepT startT) := by
  intro k
  induction k with
  | zero => intro _; exact Story.start
  | succ k ih =>
    intro hk
    rw [foldl_more _ _ (by omega)]
    exact (ih (by omega)).step (h _ (getD_mem (by omega)))
theorem Story.of {l : List TDeed} (h : ∀ d ∈ l, deedOk d) : Story l.length (storyT l) := by
  have := Story.take h l.length (Nat.le_refl _)
  rwa [List.take_length] at this

/-! So many are not more than there are numbers. -/
theorem pigeon : ∀ (n : Nat) (l : List Nat), l.Pairwise (fun a b => a ≠ b) → (∀ x ∈ l, x < n) → l.length ≤ n
  | 0, [], _, _ => Nat.le_refl _
  | 0, x :: l, _, h => absurd (h x (List.mem_cons_self ..)) (Nat.not_lt_zero _)
  | n + 1, l, hp, h => by
    have h1 : (l.erase n).length ≤ n := by
      refine pigeon n _ (hp.sublist List.erase_sublist) fun x hx => ?_
      have hne := (List.Nodup.mem_erase_iff hp).1 hx
      have := h x hne.2
      have := hne.1
      omega
    rw [List.length_erase] at h1
    split at h1 <;> omega
theorem pigeon_map {α : Type} (f : α → Nat) (n : Nat) {l : List α} (hp : l.Pairwise (fun a b => f a ≠ f b)) (h : ∀ x ∈ l, f x < n) : l.length ≤ n := by
  have := pigeon n (l.map f) (List.pairwise_map.2 hp) (fun x hx => by obtain ⟨y, hy, rfl⟩ := List.mem_map.1 hx; exact h y hy)
  rwa [List.length_map] at this
theorem pw_mem {α : Type} {R S : α → α → Prop} {l : List α} (h : l.Pairwise R) (hs : ∀ a ∈ l, ∀ b ∈ l, R a b → S a b) : l.Pairwise S := h.imp_of_mem (fun ha hb hab => hs _ ha _ hb hab)
theorem story_len {i : Nat} {t : TTable} (hi : i ≤ 20) (h : TR t) (hr : Rng i t) : t.seen.length ≤ 96 ∧ t.fences.length ≤ 3 ∧ t.routes.length + t.cells.length ≤ 3072 := by
  refine ⟨?_, ?_, ?_⟩
  · refine pigeon_map (fun d => (d.node * 32 + d.epoch).toNat) 96 (pw_mem (right_iff.1 h.seen).1 fun a ha b hb hab => ?_) fun d hd => ?_
    · have h1 := hr.s a ha; have h2 := hr.s b hb; have := ahead_iff.1 hab
      show (a.node * 32 + a.epoch).toNat ≠ (b.node * 32 + b.epoch).toNat
      omega
    · have h1 := hr.s d hd
      show (d.node * 32 + d.epoch).toNat < 96
      omega
  · refine pigeon_map (fun f => f.node.toNat) 3 (pw_mem h.fences.1 fun a ha b hb hab => ?_) fun d hd => ?_
    · have h1 := hr.f a ha; have h2 := hr.f b hb
      show a.node.toNat ≠ b.node.toNat
      omega
    · have h1 := hr.f d hd
      show d.node.toNat < 3
      omega
  · have hin : ∀ d ∈ dotsOf t.routes t.cells, (0 ≤ d.node ∧ d.node < 3) ∧ (1 ≤ d.epoch ∧ d.epoch ≤ i + 1) ∧ (1 ≤ d.n ∧ d.n ≤ i) := by
      intro d hd
      have hh := has_iff.1 (h.hasDots d hd)
      rcases top_cases h.seen d.node d.epoch with ⟨x, hx, h1, h2, h3⟩ | ⟨_, h3⟩
      · have := hr.s x hx; omega
      · omega
    have := pigeon_map (fun d : TDot => ((d.node * 32 + d.epoch) * 32 + d.n).toNat) 3072 (pw_mem h.fresh fun a ha b hb hab => ?_) fun d hd => ?_
    · rwa [dotsOf_len] at this
    · have h1 := hin a ha; have h2 := hin b hb
      show ((a.node * 32 + a.epoch) * 32 + a.n).toNat ≠ ((b.node * 32 + b.epoch) * 32 + b.n).toNat
      intro e
      refine hab ?_
      cases a; cases b
      simp only [TDot.mk.injEq] at *
      omega
    · have h1 := hin d hd
      show ((d.node * 32 + d.epoch) * 32 + d.n).toNat < 3072
      omega
theorem story_lite {i : Nat} {t : TTable} (hi : i ≤ 20) (h : TR t) (hr : Rng i t) : Lite 3072 t := by
  obtain ⟨h1, h2, h3⟩ := story_len hi h hr
  refine ⟨by omega, by omega, by omega, by omega, fun r hr' => ?_, fun c hc => ?_, fun c hc => ?_⟩
  · have := hr.r r hr'
    have key : ∀ f ∈ filterL, f.length ≤ 65535 := by decide
    exact key _ this
  · have := (hr.c c hc).1
    have key : ∀ f ∈ topicL, f.length ≤ 65535 := by decide
    exact key _ this
  · have := (hr.c c hc).2.1; omega
end Go.Proofs.YtfamfamgopchnaaGreatDoor
