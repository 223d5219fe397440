/- What the program does to a table of a story is what the document does. -/
import Derived.Test.YtfamfamgopchnaaGreatDoorPtnx
import Derived.Test.YtfamfamgopchnaaGreatDoorTc2x
import Derived.KernelRfl
namespace Go.Proofs.YtfamfamgopchnaaGreatDoor
open Go.RowKit
set_option linter.unusedSimpArgs false
set_option linter.unusedVariables false
set_option linter.unusedSectionVars false
set_option maxHeartbeats 4000000
set_option maxRecDepth 100000


theorem sorted_ext {α : Type} {R : α → α → Prop} (irr : ∀ a, ¬ R a a) (tr : ∀ a b c, R a b → R b c → R a c) : ∀ {l m : List α}, l.Pairwise R → m.Pairwise R → (∀ x, x ∈ l ↔ x ∈ m) → l = m
  | [], [], _, _, _ => rfl
  | [], b :: m, _, _, h => absurd ((h b).2 (List.mem_cons_self ..)) List.not_mem_nil
  | a :: l, [], _, _, h => absurd ((h a).1 (List.mem_cons_self ..)) List.not_mem_nil
  | a :: l, b :: m, h1, h2, h => by
    have h1' := List.pairwise_cons.1 h1
    have h2' := List.pairwise_cons.1 h2
    have hab : a = b := by
      rcases List.mem_cons.1 ((h a).1 (List.mem_cons_self ..)) with e | ha
      · exact e
      · rcases List.mem_cons.1 ((h b).2 (List.mem_cons_self ..)) with e | hb
        · exact e.symm
        · exact absurd (tr _ _ _ (h1'.1 b hb) (h2'.1 a ha)) (irr a)
    subst hab
    rw [sorted_ext irr tr h1'.2 h2'.2 fun x => ⟨fun hx => ?_, fun hx => ?_⟩]
    · rcases List.mem_cons.1 ((h x).1 (List.mem_cons_of_mem _ hx)) with rfl | e
      · exact absurd (h1'.1 x hx) (irr x)
      · exact e
    · rcases List.mem_cons.1 ((h x).2 (List.mem_cons_of_mem _ hx)) with rfl | e
      · exact absurd (h2'.1 x hx) (irr x)
      · exact e
theorem foundF_yes {l : List TFence} {n : Int} (hf : foundF l n = true) : (l.getD (placeF l n) default).node = n := by
  simp only [foundF, Bool.and_eq_true, beq_iff_eq] at hf; exact (cmpI_z _ _).1 hf.2
theorem foundF_no {l : List TFence} (h : FR l) {n : Int} (hf : foundF l n = false) : (∀ x ∈ l.take (placeF l n), x.node < n) ∧ (∀ x ∈ l.drop (placeF l n), n < x.node) := by
  obtain ⟨_, f2, f3, f4⟩ := firstK_le (fun i => !decide ((l.getD i default).node < n)) l.length 0
  obtain ⟨p, hp⟩ : ∃ p, p = placeF l n := ⟨_, rfl⟩
  have hp' : firstK (fun i => !decide ((l.getD i default).node < n)) l.length 0 = p := hp.symm
  rw [hp'] at f2 f3 f4
  rw [← hp]
  constructor
  · intro x hx
    obtain ⟨i, hi, rfl⟩ := (mem_take_iff (by omega)).1 hx
    have := f3 i (Nat.zero_le _) hi
    simpa using this
  · intro x hx
    obtain ⟨i, hi, hl, rfl⟩ := mem_drop_iff.1 hx
    have h5 := f4 (by omega)
    have h6 : ¬ (l.getD p default).node < n := by simpa using h5
    have h7 : (l.getD p default).node ≠ n := fun e => by
      have : foundF l n = true := by
        unfold foundF; rw [← hp]; simp only [Bool.and_eq_true, decide_eq_true_eq, beq_iff_eq]; exact ⟨by omega, (cmpI_z _ _).2 e⟩
      rw [hf] at this; cases this
    rcases Nat.eq_or_lt_of_le hi with rfl | hlt
    · omega
    · have := pw_at h.1 hlt hl
      omega
theorem foundF_of {l : List TFence} (h : FR l) {x : TFence} (hx : x ∈ l) : foundF l x.node = true ∧ l.getD (placeF l x.node) default = x := by
  have key : foundF l x.node = true := by
    cases hf : foundF l x.node with
    | true => rfl
    | false =>
      obtain ⟨h1, h2⟩ := foundF_no h hf
      rw [← List.take_append_drop (placeF l x.node) l] at hx
      rcases List.mem_append.1 hx with hx | hx
      · exact absurd (h1 x hx) (Int.lt_irrefl _)
      · exact absurd (h2 x hx) (Int.lt_irrefl _)
  refine ⟨key, ?_⟩
  have h1 := foundF_yes key
  have h2 := foundF_lt key
  obtain ⟨i, hi, rfl⟩ := mem_getD hx
  rcases Nat.lt_trichotomy (placeF l (l.getD i default).node) i with h3 | h3 | h3
  · have := pw_at h.1 h3 hi; omega
  · rw [h3]
  · have := pw_at h.1 h3 h2; omega
theorem fence_new {fe : List TFence} (h : FR fe) {n e : Int} (hp : pairB n e = true) (hf : fencedL fe n e = false) : fenceP fe n e = fenceL fe n e := by
  have hno : ∀ x ∈ fe, x.node = n → x.epoch < e := fun x hx hn => by
    rcases Int.lt_or_le x.epoch e with h1 | h1
    · exact h1
    · have := fenced_iff.2 ⟨x, hx, hn, h1⟩
      rw [hf] at this; cases this
  refine sorted_ext (R := fun a b => a.node < b.node) (fun a => Int.lt_irrefl _) (fun _ _ _ => Int.lt_trans) ?_ (fence_right h hp).1 fun x => ?_
  · cases hff : foundF fe n with
    | true =>
      have h1 := foundF_yes hff
      have h2 := foundF_lt hff
      rw [fenceP_1 hff, List.set_eq_take_append_cons_drop, if_pos h2]
      have h3 := h.1
      rw [splitAt_ fe h2, List.pairwise_append, List.pairwise_cons] at h3
      obtain ⟨a1, ⟨a2, a3⟩, a4⟩ := h3
      rw [List.pairwise_append, List.pairwise_cons]
      refine ⟨a1, ⟨a2, a3⟩, fun a ha b hb => ?_⟩
      rcases List.mem_cons.1 hb with rfl | hb
      · exact a4 a ha (fe.getD (placeF fe n) default) (List.mem_cons_self ..)
      · exact a4 a ha b (List.mem_cons_of_mem _ hb)
    | false =>
      obtain ⟨h1, h2⟩ := foundF_no h hff
      rw [fenceP_2 hff]
      exact pw_ins (by rw [List.take_append_drop]; exact h.1) h1 h2
  · rw [mem_fenceL h]
    cases hff : foundF fe n with
    | true =>
      have h1 := foundF_yes hff
      have h2 := foundF_lt hff
      have h4 := hno _ (getD_mem h2) h1
      have hm : max (fe.getD (placeF fe n) default).epoch e = e := by omega
      rw [fenceP_1 hff, List.set_eq_take_append_cons_drop, if_pos h2, hm, h1, List.mem_append, List.mem_cons]
      have h3 := h.1
      have hs := splitAt_ fe h2
      have hm2 : ∀ y, y ∈ fe ↔ y ∈ fe.take (placeF fe n) ∨ y = fe.getD (placeF fe n) default ∨ y ∈ fe.drop (placeF fe n + 1) := fun y => by
        conv => lhs; rw [hs]
        rw [List.mem_append, List.mem_cons]
      rw [hs, List.pairwise_append, List.pairwise_cons] at h3
      obtain ⟨a1, ⟨a2, a3⟩, a4⟩ := h3
      rw [hm2 x]
      constructor
      · rintro (hx | rfl | hx)
        · exact .inr ⟨.inl hx, by have := a4 x hx _ (List.mem_cons_self ..); omega⟩
        · exact .inl rfl
        · exact .inr ⟨.inr (.inr hx), by have := a2 x hx; omega⟩
      · rintro (rfl | ⟨hx | rfl | hx, hn⟩)
        · exact .inr (.inl rfl)
        · exact .inl hx
        · exact absurd h1 hn
        · exact .inr (.inr hx)
    | false =>
      obtain ⟨h1, h2⟩ := foundF_no h hff
      rw [fenceP_2 hff, List.mem_append, List.mem_cons]
      have hm2 : x ∈ fe ↔ x ∈ fe.take (placeF fe n) ∨ x ∈ fe.drop (placeF fe n) := by
        conv => lhs; rw [← List.take_append_drop (placeF fe n) fe]
        rw [List.mem_append]
      rw [hm2]
      constructor
      · rintro (hx | rfl | hx)
        · exact .inr ⟨.inl hx, by have := h1 x hx; omega⟩
        · exact .inl rfl
        · exact .inr ⟨.inr hx, by have := h2 x hx; omega⟩
      · rintro (rfl | ⟨hx | hx, hn⟩)
        · exact .inr (.inl rfl)
        · exact .inl hx
        · exact .inr (.inr hx)
theorem fence_old {fe : List TFence} (h : FR fe) {n e : Int} (hf : fencedL fe n e = true) : fenceP fe n e = fe := by
  obtain ⟨x, hx, rfl, he⟩ := fenced_iff.1 hf
  obtain ⟨h1, h2⟩ := foundF_of h hx
  rw [fenceP_1 h1, h2, Int.max_eq_left he]
  have := foundF_lt h1
  conv => rhs; rw [← set_same this, h2]
theorem unf_none {fe : List TFence} {ro : List TRoute} (h : ∀ r ∈ ro, fencedL fe r.dot.node r.dot.epoch = false) : unfR fe ro = ro := List.filter_eq_self.2 fun r hr => by rw [h r hr]; rfl
theorem any_short (ro : List TRoute) (n e : Int) (f : Str) : (ro.any fun r => ownB r n e f) = decide ((withoutR ro n e f).length < ro.length) := by
  rw [Bool.eq_iff_iff, decide_eq_true_iff, List.any_eq_true, withoutR, List.length_filter_lt_length_iff_exists]
  simp
theorem fl_okL : ∀ f ∈ filterL, okF (levs f) = true ∧ filterB f = true ∧ goodT f = true ∧ f ≠ [] ∧ f.length ≤ 65535 ∧ (levs f).length ≤ 1000000000 ∧ ∀ v ∈ levs f, goodT v = true ∧ v.length ≤ 1000000000 := by decide +kernel
theorem fl_T {f : Str} (h : f ∈ filterL) : topicT f ∧ lvOK f := by
  obtain ⟨_, _, h3, h4, h5, h6, h7⟩ := fl_okL f h
  exact ⟨⟨h3, h4, h5⟩, h6, h7⟩
theorem addC_fl {fe : List TFence} {n e : Int} {f : Str} (h : f ∈ filterL) : addC fe n e f = (pairB n e && !fencedL fe n e) := by
  unfold addC; rw [(fl_okL f h).1]; rfl
theorem add_not {t : TTable} {n e : Int} {f : Str} (hf : f ∈ filterL) (h : addC t.fences n e f = false) : routeAddM t n e f = t := by
  rw [addC_fl hf] at h
  unfold routeAddM
  rw [if_neg]
  rintro ⟨_, h2, h3⟩
  rw [h2, h3] at h; cases h
theorem add_is {t : TTable} (ht : TR t) {n e : Int} {f : Str} (hf : f ∈ filterL) (h : addC t.fences n e f = true) {l2 : List TRoute} (hp : l2.Perm (withoutR t.routes n e f ++ [⟨⟨n, e, topM t.seen n e + 1⟩, f⟩])) (hs : l2.Pairwise (fun x y => ¬ orderI y x < 0)) :
    routeAddM t n e f = ⟨addM t.seen ⟨n, e, topM t.seen n e + 1⟩, t.fences, l2, t.cells⟩ := by
  rw [addC_fl hf, Bool.and_eq_true, Bool.not_eq_true'] at h
  have hc : filterB f = true ∧ pairB n e = true ∧ fencedL t.fences n e = false := ⟨(fl_okL f hf).2.1, h⟩
  have hr := (ht.add n e f).rsort
  unfold routeAddM at hr ⊢
  rw [if_pos hc] at hr ⊢
  simp only at hr
  have : insR (withoutR t.routes n e f) ⟨nextDot t.seen n e, f⟩ = l2 := by
    refine (sort_uniq ?_ hs hr).symm
    refine hp.trans (List.Perm.trans ?_ (insR_perm _ _).symm)
    exact List.perm_append_singleton _ _
  rw [this]; rfl
theorem Lite.p4 {m : Nat} {t : TTable} (h : Lite m t) (hm : m ≤ 1000000000) : t.seen.length ≤ 1000000000 ∧ t.fences.length ≤ 1000000000 ∧ t.routes.length ≤ 1000000000 ∧ t.cells.length ≤ 1000000000 ∧ ∀ k, k < t.cells.length → (t.cells.getD k default).payload.length ≤ 1000000000 :=
  ⟨Nat.le_trans h.s hm, Nat.le_trans h.f hm, Nat.le_trans h.r hm, Nat.le_trans h.c hm, fun k hk => h.cp _ (getD_mem hk)⟩
theorem paddT_dc (t : TTable) (n e : Int) (f : Str) (m : Int) (F : Own) : (TR t ∧ Lite 100000 t ∧ f ∈ filterL ∧ -1000000000000 ≤ topM t.seen n e ∧ topM t.seen n e ≤ 1000000000000) → DC Tryz.prog 23 [.agg [.sl (t.seen.map encDot), .sl (t.fences.map encFence), .sl (t.routes.map encRoute), .sl (t.cells.map encCell)], .int .i64 n, .int .i64 e, .str f] ([knF, knA, knM m] ++ F) fun d G => d = .agg [.sl ((routeAddM t n e f).seen.map encDot), .sl ((routeAddM t n e f).fences.map encFence), .sl ((routeAddM t n e f).routes.map encRoute), .sl ((routeAddM t n e f).cells.map encCell)] ∧ G = [knF, knA, knM m] ++ F := fun ⟨ht, hL, hf, h1, h2⟩ =>
  (padds_dc t.seen t.fences t.routes t.cells n e f m F ⟨hL.p4 (by decide), fl_T hf, Nat.le_trans hL.r (by decide), h1, h2⟩).mono fun d G ⟨h, hG⟩ => ⟨by
    rcases h with ⟨ha, rfl⟩ | ⟨ha, l2, ⟨hp, hs⟩, rfl⟩
    · rw [add_not hf ha]
    · rw [add_is ht hf ha hp hs], hG⟩
theorem pdropT_dc (t : TTable) (n e : Int) (f : Str) (F : Own) : (Lite 100000 t ∧ -1000000000000 ≤ topM t.seen n e ∧ topM t.seen n e ≤ 1000000000000) → DC Tryz.prog 24 [.agg [.sl (t.seen.map encDot), .sl (t.fences.map encFence), .sl (t.routes.map encRoute), .sl (t.cells.map encCell)], .int .i64 n, .int .i64 e, .str f] (([] : Own) ++ F) fun d G => d = .agg [.sl ((routeDropM t n e f).seen.map encDot), .sl ((routeDropM t n e f).fences.map encFence), .sl ((routeDropM t n e f).routes.map encRoute), .sl ((routeDropM t n e f).cells.map encCell)] ∧ G = [] ++ F := fun ⟨hL, h1, h2⟩ =>
  (pdrop_dc t.seen t.fences t.routes t.cells n e f F ⟨hL.p4 (by decide), h1, h2⟩).mono fun d G ⟨h, hG⟩ => ⟨by
    unfold routeDropM
    rw [any_short] at h
    rcases h with ⟨ha, rfl⟩ | ⟨ha, rfl⟩
    · rw [if_neg (of_decide_eq_false ha)]
    · rw [if_pos (of_decide_eq_true ha)]; rfl, hG⟩
theorem pfenceT_dc (t : TTable) (n e : Int) (F : Own) : (TR t ∧ Lite 100000 t) → DC Tryz.prog 25 [.agg [.sl (t.seen.map encDot), .sl (t.fences.map encFence), .sl (t.routes.map encRoute), .sl (t.cells.map encCell)], .int .i64 n, .int .i64 e] (([] : Own) ++ F) fun d G => d = .agg [.sl ((fenceM t n e).seen.map encDot), .sl ((fenceM t n e).fences.map encFence), .sl ((fenceM t n e).routes.map encRoute), .sl ((fenceM t n e).cells.map encCell)] ∧ G = [] ++ F := fun ⟨ht, hL⟩ =>
  (pfence_dc t.seen t.fences t.routes t.cells n e F ⟨hL.p4 (by decide), ht.fences, Nat.le_trans hL.f (by decide)⟩).mono fun d G ⟨h, hG⟩ => ⟨by
    unfold fenceM
    rcases h with ⟨ha, rfl⟩ | ⟨ha, rfl⟩
    · rw [if_neg (by rw [ha]; simp)]
    · cases hf : fencedL t.fences n e with
      | true => rw [if_neg (by simp), fence_old ht.fences hf, unf_none fun r hr => (ht.rok r hr).2.2]
      | false => rw [if_pos ⟨ha, rfl⟩, fence_new ht.fences ha hf], hG⟩
theorem pfencedT_dc (t : TTable) (n e : Int) (F : Own) : (Lite 100000 t) → DC Tryz.prog 30 [.agg [.sl (t.seen.map encDot), .sl (t.fences.map encFence), .sl (t.routes.map encRoute), .sl (t.cells.map encCell)], .int .i64 n, .int .i64 e] (([] : Own) ++ F) fun d G => d = .bool (fencedL t.fences n e) ∧ G = [] ++ F := fun hL =>
  pfenced_dc t.seen t.fences t.routes t.cells n e F (Nat.le_trans hL.f (by decide))
end Go.Proofs.YtfamfamgopchnaaGreatDoor
