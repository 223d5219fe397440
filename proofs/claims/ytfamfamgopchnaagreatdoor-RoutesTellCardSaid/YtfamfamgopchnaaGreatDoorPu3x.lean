/- What a story tells of its tables; a filter that comes twice; a fence. -/
import Derived.Test.YtfamfamgopchnaaGreatDoorPu1x
import Derived.KernelRfl
namespace Go.Proofs.YtfamfamgopchnaaGreatDoor
open Go.RowKit
set_option linter.unusedSimpArgs false
set_option linter.unusedVariables false
set_option linter.unusedSectionVars false
set_option maxHeartbeats 4000000
set_option maxRecDepth 100000


theorem st_at {l : List TDeed} (hn : l.length ≤ 20) (h : ∀ d ∈ l, deedOk d) {k : Nat} (hk : k < 3) : (tablesM l).length = 3 ∧ TR ((tablesM l).getD k default) ∧ Rng 20 ((tablesM l).getD k default) ∧ Lite 3072 ((tablesM l).getD k default) := by
  have hs := Story.of h
  obtain ⟨t1, t2, _⟩ := hs.tab (n := (k : Int)) ⟨by omega, by omega⟩
  have e : tabT (storyT l) (k : Int) = (tablesM l).getD k default := by unfold tabT tablesM; rw [Int.toNat_natCast]
  rw [e] at t1 t2
  exact ⟨hs.lt, t1, t2.mono hn, story_lite hn t1 t2⟩
theorem st_top {t : TTable} (ht : TR t) (hr : Rng 20 t) (n e : Int) : 0 ≤ topM t.seen n e ∧ topM t.seen n e ≤ 20 := top_le ht.seen (fun d hd => (hr.s d hd).2.2.2) n e
theorem st_no {t : TTable} (ht : TR t) (hr : Rng 20 t) {n : Int} (hn : 3 ≤ n) (e : Int) : fencedL t.fences n e = false ∧ topM t.seen n e = 0 ∧ ∀ r ∈ t.routes, r.dot.node ≠ n := by
  have key : ∀ m e, 3 ≤ m → topM t.seen m e = 0 := fun m e hm => by
    rcases top_cases ht.seen m e with ⟨d, hd, h1, _⟩ | ⟨_, h⟩
    · have := (hr.s d hd).1; omega
    · exact h
  refine ⟨?_, key n e hn, fun r hr' hq => ?_⟩
  · cases hf : fencedL t.fences n e with
    | false => rfl
    | true =>
      obtain ⟨x, hx, h1, _⟩ := fenced_iff.1 hf
      have := (hr.f x hx).1; omega
  · have := (ht.rok r hr').2.1
    rw [has_iff] at this
    have h2 := key r.dot.node r.dot.epoch (by omega)
    omega
theorem without_none {ro : List TRoute} {n e : Int} {f : Str} (h : ∀ r ∈ ro, r.dot.node ≠ n) : withoutR ro n e f = ro := List.filter_eq_self.2 fun r hr => by
  have : ownB r n e f = false := by
    cases hb : ownB r n e f with
    | false => rfl
    | true => exact absurd (own_iff.1 hb).1 (h r hr)
  rw [this]; rfl
theorem without_twice (ro : List TRoute) (n e : Int) (f : Str) : withoutR (withoutR ro n e f) n e f = withoutR ro n e f := by unfold withoutR; rw [List.filter_filter]; congr 1; funext x; simp
theorem add_lite {m : Nat} {t : TTable} (h : Lite m t) (n e : Int) {f : Str} (hf : f.length ≤ 65535) : Lite (m + 1) (routeAddM t n e f) := by
  unfold routeAddM
  split
  · have h1 := addM_len t.seen (nextDot t.seen n e)
    have h2 := insR_len (withoutR t.routes n e f) ⟨nextDot t.seen n e, f⟩
    have h3 := (without_sub t.routes n e f).length_le
    have := h.s; have := h.r
    refine ⟨by show (addM _ _).length ≤ _; omega, Nat.le_trans h.f (Nat.le_succ _), by show (insR _ _).length ≤ _; omega, Nat.le_trans h.c (Nat.le_succ _), fun r hr => ?_, h.ct, h.cp⟩
    rcases mem_insR.1 hr with rfl | hr
    · exact hf
    · exact h.rf r ((without_sub t.routes n e f).subset hr)
  · exact h.mono (Nat.le_succ _)
theorem drop_lite {m : Nat} {t : TTable} (h : Lite m t) (n e : Int) (f : Str) : Lite (m + 1) (routeDropM t n e f) := by
  unfold routeDropM
  split
  · have h1 := addM_len t.seen (nextDot t.seen n e)
    have h3 := (without_sub t.routes n e f).length_le
    have := h.s; have := h.r
    exact ⟨by show (addM _ _).length ≤ _; omega, Nat.le_trans h.f (Nat.le_succ _), by show (withoutR _ _ _ _).length ≤ _; omega, Nat.le_trans h.c (Nat.le_succ _), fun r hr => h.rf r ((without_sub t.routes n e f).subset hr), h.ct, h.cp⟩
  · exact h.mono (Nat.le_succ _)
theorem fence_lite {m : Nat} {t : TTable} (h : Lite m t) (n e : Int) : Lite (m + 1) (fenceM t n e) := by
  obtain ⟨h1, h2, h3, h4⟩ := fenceM_facts t n e
  have := h.s; have := h.f; have := h.r; have := h.c; have := h4.length_le
  exact ⟨by rw [h1]; omega, by omega, by omega, by rw [h2]; omega, fun r hr => h.rf r (h4.subset hr), by rw [h2]; exact h.ct, by rw [h2]; exact h.cp⟩
/-! A filter that comes twice is one route, by two deeds. -/
theorem add_is2 {t : TTable} {n e : Int} {f : Str} (h1 : filterB f = true) (h2 : pairB n e = true) (h3 : fencedL t.fences n e = false) : routeAddM t n e f = ⟨addM t.seen (nextDot t.seen n e), t.fences, insR (withoutR t.routes n e f) ⟨nextDot t.seen n e, f⟩, t.cells⟩ := by
  unfold routeAddM; rw [if_pos ⟨h1, h2, h3⟩]
theorem without_add {t : TTable} {n e : Int} {f : Str} (h1 : filterB f = true) (h2 : pairB n e = true) (h3 : fencedL t.fences n e = false) : (withoutR (routeAddM t n e f).routes n e f).length = (withoutR t.routes n e f).length ∧ (routeAddM t n e f).routes.length = (withoutR t.routes n e f).length + 1 := by
  rw [add_is2 h1 h2 h3]
  refine ⟨?_, insR_len _ _⟩
  have hp := (insR_perm (withoutR t.routes n e f) ⟨nextDot t.seen n e, f⟩).filter (fun r => !ownB r n e f)
  have := hp.length_eq
  show (List.filter _ _).length = _
  rw [this, List.filter_cons]
  have ho : ownB ⟨nextDot t.seen n e, f⟩ n e f = true := own_iff.2 ⟨rfl, rfl, rfl⟩
  rw [ho]
  show (withoutR (withoutR t.routes n e f) n e f).length = _
  rw [without_twice]
theorem add_seen {t : TTable} {n e : Int} {f : Str} (ht : TR t) (h1 : filterB f = true) (h2 : pairB n e = true) (h3 : fencedL t.fences n e = false) : topM (routeAddM t n e f).seen n e = topM t.seen n e + 1 := by
  rw [add_is2 h1 h2 h3]
  show topM (addM t.seen (nextDot t.seen n e)) n e = _
  rw [add_top ht.seen, if_pos ⟨next_one ht.seen h2, rfl, rfl⟩]
  show max _ (topM t.seen n e + 1) = _
  omega
theorem drop_seen {t : TTable} {n e : Int} {f : Str} (ht : TR t) (h2 : pairB n e = true) (h3 : (withoutR t.routes n e f).length < t.routes.length) : topM (routeDropM t n e f).seen n e = topM t.seen n e + 1 ∧ (routeDropM t n e f).routes = withoutR t.routes n e f := by
  unfold routeDropM
  rw [if_pos h3]
  refine ⟨?_, rfl⟩
  show topM (addM t.seen (nextDot t.seen n e)) n e = _
  rw [add_top ht.seen, if_pos ⟨next_one ht.seen h2, rfl, rfl⟩]
  show max _ (topM t.seen n e + 1) = _
  omega
/-- What comes of the four deeds. -/
structure Twice (t a b c : TTable) (f : Str) : Prop where
  la : a.routes.length = t.routes.length + 1
  lb : b.routes.length = a.routes.length
  tb : topM b.seen 9 4 = 2
  tc : topM c.seen 9 4 = 3
  lc : c.routes.length = t.routes.length
  dc : routeDropM c 9 4 f = c
  ra : TR a
  rb : TR b
  rc : TR c
  ta : -1000000000000 ≤ topM a.seen 9 4 ∧ topM a.seen 9 4 ≤ 1000000000000
  tt : -1000000000000 ≤ topM t.seen 9 4 ∧ topM t.seen 9 4 ≤ 1000000000000
  wa : Lite 100000 a
  wb : Lite 100000 b
  wc : Lite 100000 c
theorem twice {t : TTable} (ht : TR t) (hr : Rng 20 t) (hL : Lite 3072 t) {f : Str} (hf : f ∈ filterL) : Twice t (routeAddM t 9 4 f) (routeAddM (routeAddM t 9 4 f) 9 4 f) (routeDropM (routeAddM (routeAddM t 9 4 f) 9 4 f) 9 4 f) f := by
  obtain ⟨n1, n2, n3⟩ := st_no ht hr (n := 9) (by decide) 4
  have h1 := (fl_okL f hf).2.1
  have h2 : pairB 9 4 = true := by decide
  have hlen : f.length ≤ 65535 := (fl_okL f hf).2.2.2.2.1
  have ha := ht.add 9 4 f
  have hb := ha.add 9 4 f
  have hc := hb.drop 9 4 f
  have hfe : fencedL (routeAddM t 9 4 f).fences 9 4 = false := by rw [add_is2 h1 h2 n1]; exact n1
  obtain ⟨a1, a2⟩ := without_add (t := t) h1 h2 n1
  obtain ⟨b1, b2⟩ := without_add (t := routeAddM t 9 4 f) h1 h2 hfe
  rw [without_none n3] at a1 a2
  obtain ⟨c1, c2⟩ := drop_seen (f := f) hb h2 (by omega)
  have s1 := add_seen ht h1 h2 n1
  have s2 := add_seen ha h1 h2 hfe
  refine ⟨a2, by omega, by omega, by omega, by rw [c2]; omega, ?_, ha, hb, hc, by omega, by omega, (add_lite hL _ _ hlen).mono (by decide), (add_lite (add_lite hL _ _ hlen) _ _ hlen).mono (by decide), (drop_lite (add_lite (add_lite hL _ _ hlen) _ _ hlen) _ _ _).mono (by decide)⟩
  rw [routeDropM, if_neg]
  rw [c2, without_twice]; omega
/-! Behind a fence nothing comes. -/
structure Fenc (t : TTable) (fe ge : Int) (f : Str) : Prop where
  tr : TR t
  lt : Lite 100000 t
  tr2 : TR (routeAddM t 7 ge f)
  lu : Lite 100000 (routeAddM t 7 ge f)
  tt : -1000000000000 ≤ topM t.seen 7 ge ∧ topM t.seen 7 ge ≤ 1000000000000
  come : ge > fe → (routeAddM t 7 ge f).routes.length = t.routes.length + 1 ∧ decide (routeAddM t 7 ge f = t) = false
  not : ¬ ge > fe → routeAddM t 7 ge f = t
  low : fenceM t 7 (fe - 1) = t
  f1 : fencedL t.fences 7 fe = true
  f2 : fencedL t.fences 7 (fe + 1) = false
theorem fenc {t : TTable} (ht : TR t) (hr : Rng 20 t) (hL : Lite 3072 t) {f : Str} (hf : f ∈ filterL) {fe ge : Int} (hfe : 1 ≤ fe ∧ fe ≤ 5) (hge : 1 ≤ ge ∧ ge ≤ 7) : Fenc (fenceM t 7 fe) fe ge f := by
  obtain ⟨n1, n2, n3⟩ := st_no ht hr (n := 7) (by decide) fe
  have h1 := (fl_okL f hf).2.1
  have hp : ∀ e : Int, 1 ≤ e → pairB 7 e = true := fun e he => by simp [pairB]; omega
  have hlen : f.length ≤ 65535 := (fl_okL f hf).2.2.2.2.1
  have hF := ht.fence 7 fe
  have hlF := fence_lite hL 7 fe
  have e : fenceM t 7 fe = ⟨t.seen, fenceL t.fences 7 fe, unfR (fenceL t.fences 7 fe) t.routes, t.cells⟩ := by unfold fenceM; rw [if_pos ⟨hp _ hfe.1, n1⟩]
  have hfd : ∀ k, fencedL (fenceM t 7 fe).fences 7 k = decide (k ≤ fe) := fun k => by
    rw [e, Bool.eq_iff_iff]
    show fencedL (fenceL t.fences 7 fe) 7 k = true ↔ _
    rw [fenced_fenceL ht.fences]; simp
  have hno : ∀ r ∈ (fenceM t 7 fe).routes, r.dot.node ≠ 7 := fun r hr => n3 r ((fenceM_facts t 7 fe).2.2.2.subset hr)
  have hcome : ge > fe → (routeAddM (fenceM t 7 fe) 7 ge f).routes.length = (fenceM t 7 fe).routes.length + 1 := fun hg => by
    have := (without_add (t := fenceM t 7 fe) h1 (hp ge hge.1) (by rw [hfd]; exact decide_eq_false (by omega))).2
    rw [this, without_none hno]
  have htop : topM (fenceM t 7 fe).seen 7 ge = 0 := by rw [e]; exact (st_no ht hr (n := 7) (by decide) ge).2.1
  refine ⟨hF, hlF.mono (by decide), hF.add 7 ge f, (add_lite hlF _ _ hlen).mono (by decide), by rw [htop]; decide, fun hg => ⟨hcome hg, decide_eq_false fun hq => ?_⟩, fun hg => ?_, ?_, by rw [hfd]; exact decide_eq_true (Int.le_refl _), by rw [hfd]; exact decide_eq_false (by omega)⟩
  · have := hcome hg
    rw [hq] at this; omega
  · unfold routeAddM
    rw [if_neg]
    rintro ⟨_, _, h3⟩
    rw [hfd] at h3
    exact of_decide_eq_false h3 (by omega)
  · unfold fenceM
    rw [if_neg]
    rintro ⟨_, h3⟩
    have h4 : fencedL (fenceM t 7 fe).fences 7 (fe - 1) = false := h3
    rw [hfd] at h4
    exact of_decide_eq_false h4 (by omega)
end Go.Proofs.YtfamfamgopchnaaGreatDoor
