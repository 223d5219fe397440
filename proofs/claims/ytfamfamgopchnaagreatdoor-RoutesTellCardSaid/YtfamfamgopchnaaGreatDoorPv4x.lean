/- Which topics a filter matches: any bytes, just as the document says. -/
import Derived.Test.YtfamfamgopchnaaGreatDoorPtjx
import Derived.Test.YtfamfamgopchnaaGreatDoorPu5x
import Derived.KernelRfl
import Derived.Test.YtfamfamgopchnaaGreatDoorPu1x
import Derived.Test.YtfamfamgopchnaaGreatDoorPtnx
namespace Go.Proofs.YtfamfamgopchnaaGreatDoor
open Go.RowKit
set_option linter.unusedSimpArgs false
set_option linter.unusedVariables false
set_option linter.unusedSectionVars false
set_option maxHeartbeats 4000000
set_option maxRecDepth 100000


theorem spl_first (c : UInt8) (l : Str) : (spl (c :: l)).getD 0 default = if c = 47 then [] else c :: (spl l).headD [] := by
  rw [show spl (c :: l) = (if c = 47 then [] :: spl l else (c :: (spl l).headD []) :: (spl l).tail) from rfl]
  split <;> rfl
theorem hid_first (b : Str) : hidT ((levs b).getD 0 default) = (((b.getD 0 0).toNat : Int) == 36) := by
  rw [levs_spl _ b (Nat.le_refl _)]
  cases b with
  | nil => decide
  | cons c l =>
    rw [spl_first]
    unfold hidT
    have q : (((((c :: l).getD 0 0).toNat : Nat) : Int) == 36) = (c == 36) := by
      rw [Bool.eq_iff_iff]; simp only [beq_iff_eq, List.getD_cons_zero]
      constructor
      · intro e; exact UInt8.toNat_inj.1 (by have : (36 : UInt8).toNat = 36 := rfl; omega)
      · rintro rfl; rfl
    rw [q]
    split
    · rename_i h; subst h; rfl
    · rw [Bool.eq_iff_iff]; simp
theorem wild_first {a : Str} (h : okF (levs a) = true) (w : UInt8) (hw : w = 43 ∨ w = 35) : ((levs a).getD 0 default == [w]) = (((a.getD 0 0).toNat : Int) == (w.toNat : Int)) := by
  have h0 : okAt (levs a) 0 = true := by
    unfold okF at h
    exact List.all_eq_true.1 h 0 (List.mem_range.2 (by rw [levs_len]; omega))
  rw [levs_spl _ a (Nat.le_refl _)] at h0 ⊢
  cases a with
  | nil => rcases hw with rfl | rfl <;> decide
  | cons c l =>
    have q : (((((c :: l).getD 0 0).toNat : Nat) : Int) == (w.toNat : Int)) = (c == w) := by
      rw [Bool.eq_iff_iff]; simp only [beq_iff_eq, List.getD_cons_zero]
      constructor
      · intro e; exact UInt8.toNat_inj.1 (by omega)
      · rintro rfl; rfl
    rw [q]
    unfold okAt at h0
    rw [spl_first] at h0 ⊢
    split
    · rename_i h1; subst h1
      rcases hw with rfl | rfl <;> decide
    · rename_i h1
      rw [if_neg h1] at h0
      by_cases hc : c = w
      · subst hc
        have hwild : wildT (c :: (spl l).headD []) = true := by unfold wildT; rw [List.any_cons]; rcases hw with rfl | rfl <;> rfl
        rw [hwild] at h0
        simp only [Bool.not_true, Bool.or_false, Bool.or_eq_true, Bool.and_eq_true, beq_iff_eq] at h0
        have : (spl l).headD [] = [] := by
          rcases h0 with h0 | ⟨h0, _⟩
          · injection h0
          · injection h0
        rw [this]; simp
      · have e1 : (c == w) = false := beq_eq_false_iff_ne.2 hc
        rw [e1, beq_eq_false_iff_ne]
        intro e; injection e with e; exact hc e
theorem match_eq (a b : Str) : (filterB a && (nameB b && matchM (levs a) (levs b))) = matchB a b := by
  unfold matchB
  cases hf : filterB a with
  | false => rfl
  | true =>
    rw [filter_eq, Bool.and_eq_true] at hf
    rw [lev_levs, lev_levs]
    unfold matchM
    rw [hid_first, wild_first hf.2 43 (.inl rfl), wild_first hf.2 35 (.inr rfl)]
    cases nameB b <;> simp
attribute [local irreducible] DW SeqD DV DOp DC DVX DVJ filterB nameB
theorem sv_matchA_dc {p : Prop} (h : p := by first | exact sv | exact hb2 | fail) : p := h
theorem matchA_dc (m : Int) (a b : List UInt8) (F : Own) : (a.length ≤ 100000 ∧ b.length ≤ 100000) → DC Tryz.prog 93 [.str a, .str b] ([knF, knA, knM m] ++ F) fun d G => d = .bool (matchB a b) ∧ G = [knF, knA, knM m] ++ F := by
  intro hA
  obtain ⟨hla, hlb⟩ := hA
  refine DC.bodyS (n_ := 41) (show Tryz.prog.funcs[93]? = some Tryz.f93 by kernel_rfl) rfl rfl (by rfl) ?_
  simp only [env0, List.cons_append, List.nil_append]
  have kw := ksIs [0, 1, 4, 5, 6, 14]
  have ow := ownIs []
  have ha1 := (levs_bound a).1
  have hb1 := (levs_bound b).1
  have ha0 : 0 < (levs a).length := by rw [levs_len]; omega
  have hb0 : 0 < (levs b).length := by rw [levs_len]; omega
  have hb2 : ((levs b).getD 0 default).length ≤ 1000000000 := Nat.le_trans ((levs_bound b).2 0) (by omega)
  
  repeat' (first
    | refine g_ ?_
    | ((with_reducible refine And.intro ?_ ?_); (exact sv_matchA_dc))
    | (refine DW.cond (by rfl) ?_ ?_ <;> (first | exact i0_ | (refine ic_ ?_; intro hb)))
    | ((with_reducible refine FVg_cases ?_ ?_) <;> (intro hb; rw [hb]; revert hb; (first | exact i0_ | (refine i_ ?_; intro hb))))
    | refine r_ ?_
    | refine k_ ?_
    | (refine q_ (filterA_dc _ _ _) ?_ (ha := by exact sv_matchA_dc))
    | (refine q_ (nameA_dc _ _) ?_ (ha := by exact sv_matchA_dc))
    | ((first | refine q_ (levelsg_dc _ _ _) ?_ (ha := by exact sv_matchA_dc) | refine q_ (hidden_dc _ _) ?_ (ha := by exact sv_matchA_dc) | refine q_ (goes_dc _ _ _) ?_ (ha := by exact sv_matchA_dc)))
    | refine o_ ?_
    | refine f_ ?_
    | with_reducible intro b)
  all_goals first
  | ((refine ⟨_, _, le.of_eq ?_, ⟨rfl, rfl⟩, ?_⟩); (rw [← match_eq]; congr 1; unfold matchM; simp_all); (exact sub_))
end Go.Proofs.YtfamfamgopchnaaGreatDoor
/- A route of any filter comes. -/
namespace Go.Proofs.YtfamfamgopchnaaGreatDoor
open Go.RowKit
set_option linter.unusedSimpArgs false
set_option linter.unusedVariables false
set_option linter.unusedSectionVars false
set_option maxHeartbeats 4000000
set_option maxRecDepth 100000
attribute [local irreducible] DW SeqD DV DOp DC DVX


/-- May the route come? -/
def addG (fe : List TFence) (node epoch : Int) (f : Str) : Bool := filterB f && (pairB node epoch && !fencedL fe node epoch)
theorem add_notG {t : TTable} {n e : Int} {f : Str} (h : addG t.fences n e f = false) : routeAddM t n e f = t := by
  unfold routeAddM
  rw [if_neg]
  rintro ⟨h1, h2, h3⟩
  unfold addG at h
  rw [h1, h2, h3] at h; cases h
theorem add_isG {t : TTable} (ht : TR t) {n e : Int} {f : Str} (h : addG t.fences n e f = true) {l2 : List TRoute} (hp : l2.Perm (withoutR t.routes n e f ++ [⟨⟨n, e, topM t.seen n e + 1⟩, f⟩])) (hs : l2.Pairwise (fun x y => ¬ orderI y x < 0)) :
    routeAddM t n e f = ⟨addM t.seen ⟨n, e, topM t.seen n e + 1⟩, t.fences, l2, t.cells⟩ := by
  unfold addG at h
  rw [Bool.and_eq_true, Bool.and_eq_true, Bool.not_eq_true'] at h
  have hc : filterB f = true ∧ pairB n e = true ∧ fencedL t.fences n e = false := h
  have hr := (ht.add n e f).rsort
  unfold routeAddM at hr ⊢
  rw [if_pos hc] at hr ⊢
  simp only at hr
  have : insR (withoutR t.routes n e f) ⟨nextDot t.seen n e, f⟩ = l2 := by
    refine (sort_uniq ?_ hs hr).symm
    refine hp.trans (List.Perm.trans ?_ (insR_perm _ _).symm)
    exact List.perm_append_singleton _ _
  rw [this]; rfl
attribute [local irreducible] filterB fencedL pairB
theorem sv_paddG_dc {p : Prop} (h : p := by first | exact sv | exact hL | exact ⟨hL, ht1, ht2⟩ | exact hT | exact len_snoc hw | fail) : p := h
section
attribute [local push_cast 2000] cells_snoc
theorem paddG_dc (se : List TDot) (fe : List TFence) (ro : List TRoute) (ce : List TCell) (node epoch : Int) (f : Str) (m : Int) (F : Own) : ((se.length ≤ 1000000000 ∧ fe.length ≤ 1000000000 ∧ ro.length ≤ 1000000000 ∧ ce.length ≤ 1000000000 ∧ ∀ k, k < ce.length → (ce.getD k default).payload.length ≤ 1000000000) ∧ f.length ≤ 100000 ∧ ro.length ≤ 1000000 ∧ -1000000000000 ≤ topM se node epoch ∧ topM se node epoch ≤ 1000000000000) → DC Tryz.prog 23 [.agg [.sl (se.map encDot), .sl (fe.map encFence), .sl (ro.map encRoute), .sl (ce.map encCell)], .int .i64 node, .int .i64 epoch, .str f] ([knF, knA, knM m] ++ F) fun d G => (addG fe node epoch f = false ∧ d = .agg [.sl ((se).map encDot), .sl ((fe).map encFence), .sl ((ro).map encRoute), .sl ((ce).map encCell)] ∨ addG fe node epoch f = true ∧ ∃ l2 : List TRoute, (l2.Perm (withoutR ro node epoch f ++ [⟨⟨node, epoch, topM se node epoch + 1⟩, f⟩]) ∧ l2.Pairwise (fun x y => ¬ orderI y x < 0)) ∧ d = .agg [.sl ((addM se ⟨node, epoch, topM se node epoch + 1⟩).map encDot), .sl ((fe).map encFence), .sl ((l2).map encRoute), .sl ((ce).map encCell)]) ∧ G = [knF, knA, knM m] ++ F := by
  intro hA
  obtain ⟨hL, hT, hro, ht1, ht2⟩ := hA
  refine DC.bodyS (n_ := 51) (show Tryz.prog.funcs[23]? = some Tryz.f23 by kernel_rfl) rfl rfl (by rfl) ?_
  simp only [env0, List.cons_append, List.nil_append]
  have kw := ksIs [0, 1, 2, 3, 4, 5, 6, 7, 8, 9, 24]
  have ow := ownIs [4]
  have rw_ := rsIs [.cell 8 35]
  have hr := hL.2.2.1
  have hfe := hL.2.1
  have hw : (withoutR ro node epoch f).length ≤ 1000000 := Nat.le_trans (List.length_filter_le _ _) hro
  repeat' (first
    | ((with_reducible apply DW.frzRO); (repeat (with_reducible first | apply OnA.here | apply OnA.next)); refine ⟨rfl, by decide, (by intro y hy; obtain ⟨x, _, rfl⟩ := List.mem_map.1 hy; rfl), ?_, ?_, ?_⟩; (focus (repeat (first | exact CvE.nil | apply CvE.cons (Cv.hit _) | apply CvE.cons (Cv.rfl _)))); (focus ((repeat (first | apply CvO.blk _ (by repeat (first | exact CvL.nil | apply CvL.cons (Cv.hit _) | apply CvL.cons (Cv.rfl _))) | apply CvO.keep | exact CvO.rfl_ _ _ _)))))
    | refine g_ ?_
    | ((with_reducible refine And.intro ?_ ?_); (exact sv_paddG_dc))
    | (refine DW.cond (by rfl) ?_ ?_ <;> (first | exact i0_ | (refine ic_ ?_; intro hb)))
    | ((with_reducible refine FVg_cases ?_ ?_) <;> (intro hb; rw [hb]; revert hb; (first | exact i0_ | (refine i_ ?_; intro hb))))
    | refine r_ ?_
    | refine k_ ?_
    | (refine q_ (filterA_dc _ _ _) ?_ (ha := by exact sv_paddG_dc))
    | ((first | refine q_ (ppair_dc _ _ _) ?_ (ha := by exact sv_paddG_dc) | refine q_ (pfenced_dc _ _ _ _ _ _ _) ?_ (ha := by exact sv_paddG_dc)))
    | (refine p_ (copy_dc _ _ _ _ _) ?_ (ha := by exact sv_paddG_dc); rintro d H1 ⟨v1, v2, v3, v4, rfl, rfl⟩ <;> refine s_ ?_)
    | (refine p_ (next_dc _ _ _ _ _ _ _) ?_ (ha := by exact sv_paddG_dc); rintro d H1 ⟨v2, v3, v4, rfl, rfl⟩ <;> refine s_ ?_)
    | (refine p_ (delA_dc _ _ _ _ _ _ _) ?_ (ha := by exact sv_paddG_dc); rintro d H1 ⟨v5, rfl, rfl⟩ <;> refine s_ ?_)
    | (refine p_ (sortR_dc _ _ _ _) ?_ (ha := by exact sv_paddG_dc); rintro d H1 ⟨rfl, l2, hl2, rfl⟩ <;> refine s_ ?_)
    | refine o_ ?_
    | refine f_ ?_
    | ((fail_if_success (have zz := b1)); with_reducible intro b1)
    | ((fail_if_success (have zz := b2)); with_reducible intro b2)
    | ((fail_if_success (have zz := b3)); with_reducible intro b3)
    | with_reducible intro b)
  all_goals first
  | ((refine ⟨_, _, ?_, ⟨.inl ⟨by unfold addG; simp [*], rfl⟩, rfl⟩, ?_⟩; rotate_left; (exact sub_); refine le.agg ?_; (repeat (first | exact Les.nil | refine Les.cons le.rfl_ ?_ | refine Les.cons (le.gs rfl) ?_ | refine Les.cons (le.gs List.map_nil.symm) ?_ | refine Les.cons (le.agg ?_) ?_)); done))
  | ((refine ⟨_, _, ?_, ⟨.inr ⟨by unfold addG; simp [*], l2, hl2, rfl⟩, rfl⟩, ?_⟩; rotate_left; (exact sub_); refine le.agg ?_; (repeat (first | exact Les.nil | refine Les.cons le.rfl_ ?_ | refine Les.cons (le.gs rfl) ?_ | refine Les.cons (le.gs List.map_nil.symm) ?_ | refine Les.cons (le.agg ?_) ?_)); done))
end
theorem paddS_dc (t : TTable) (n e : Int) (f : Str) (m : Int) (F : Own) : (TR t ∧ Lite 100000 t ∧ f.length ≤ 100000 ∧ -1000000000000 ≤ topM t.seen n e ∧ topM t.seen n e ≤ 1000000000000) → DC Tryz.prog 23 [.agg [.sl (t.seen.map encDot), .sl (t.fences.map encFence), .sl (t.routes.map encRoute), .sl (t.cells.map encCell)], .int .i64 n, .int .i64 e, .str f] ([knF, knA, knM m] ++ F) fun d G => d = .agg [.sl ((routeAddM t n e f).seen.map encDot), .sl ((routeAddM t n e f).fences.map encFence), .sl ((routeAddM t n e f).routes.map encRoute), .sl ((routeAddM t n e f).cells.map encCell)] ∧ G = [knF, knA, knM m] ++ F := fun ⟨ht, hL, hf, h1, h2⟩ =>
  (paddG_dc t.seen t.fences t.routes t.cells n e f m F ⟨hL.p4 (by decide), hf, Nat.le_trans hL.r (by decide), h1, h2⟩).mono fun d G ⟨h, hG⟩ => ⟨by
    rcases h with ⟨ha, rfl⟩ | ⟨ha, l2, ⟨hp, hs⟩, rfl⟩
    · rw [add_notG ha]
    · rw [add_isG ht ha hp hs], hG⟩
end Go.Proofs.YtfamfamgopchnaaGreatDoor
/- Who owns a topic of any bytes. -/
namespace Go.Proofs.YtfamfamgopchnaaGreatDoor
open Go.RowKit
set_option linter.unusedSimpArgs false
set_option linter.unusedVariables false
set_option linter.unusedSectionVars false
set_option maxHeartbeats 4000000
set_option maxRecDepth 100000


def ownsG (ro : List TRoute) (tp : Str) : List Int := (ro.filter fun r => matchB r.filter tp).map fun r => r.dot.node
theorem ownsG_nil (tp : Str) : ownsG [] tp = [] := rfl
theorem ownsG_s (ro : List TRoute) (tp : Str) {k : Nat} (h : k < ro.length) : ownsG (ro.take (k + 1)) tp = ownsG (ro.take k) tp ++ (if matchB (ro.getD k default).filter tp then [(ro.getD k default).dot.node] else []) := by
  unfold ownsG
  rw [List.take_add_one, List.getElem?_eq_getElem h, List.filter_append, List.map_append]
  have e : ro.getD k default = ro[k] := by rw [List.getD_eq_getElem?_getD, List.getElem?_eq_getElem h]; rfl
  rw [e]
  simp only [Option.toList_some, List.filter_cons, List.filter_nil]
  split <;> simp
theorem ownsG_le (ro : List TRoute) (tp : Str) (k : Nat) : (ownsG (ro.take k) tp).length ≤ ro.length := by
  unfold ownsG
  rw [List.length_map]
  exact Nat.le_trans (List.length_filter_le _ _) (by rw [List.length_take]; omega)
attribute [local irreducible] DW SeqD DV DOp DC DVX DVJ matchB
theorem sv_pownersG_dc {p : Prop} (h : p := by first | exact sv | exact ⟨hfl k (by omega), hT⟩ | exact ⟨rfl, hol⟩ | exact ⟨(sortedI_len _).symm, by rw [sortedI_len]; exact hol⟩ | fail) : p := h
section
attribute [local push_cast 2000] encRoute encRoute_eta List.take_length ownsG_nil List.take_zero
theorem pownersG_dc (se : List TDot) (fe : List TFence) (ro : List TRoute) (ce : List TCell) (tp : Str) (m : Int) (F : Own) : ((se.length ≤ 1000000000 ∧ fe.length ≤ 1000000000 ∧ ro.length ≤ 1000000000 ∧ ce.length ≤ 1000000000 ∧ ∀ k, k < ce.length → (ce.getD k default).payload.length ≤ 1000000000) ∧ (∀ k, k < ro.length → (ro.getD k default).filter.length ≤ 100000) ∧ tp.length ≤ 100000) → DC Tryz.prog 37 [.agg [.sl (se.map encDot), .sl (fe.map encFence), .sl (ro.map encRoute), .sl (ce.map encCell)], .str tp] ([knF, knA, knM m] ++ F) fun d G => ∃ v, d = .ar v (Go.Lib.compact (sortedI (ownsG ro tp))).length ∧ G = .arr 1 v ((Go.Lib.compact (sortedI (ownsG ro tp))).map (V.int .i64)) :: ([knF, knA, knM m] ++ F) := by
  intro hA
  obtain ⟨hL, hfl, hT⟩ := hA
  refine DC.bodyS (n_ := 30) (show Tryz.prog.funcs[37]? = some Tryz.f37 by kernel_rfl) rfl rfl (by rfl) ?_
  simp only [env0, List.take_zero, ownsG_nil, List.map_nil, List.length_nil, List.cons_append, List.nil_append]
  have kw := ksIs [0, 1, 2, 4, 5, 7, 9, 10, 11, 12, 18]
  have ow := ownIs []
  have hr := hL.2.2.1
  have hol : (ownsG ro tp).length ≤ 1000000000 := Nat.le_trans (by simpa using ownsG_le ro tp ro.length) hr
  repeat' (first
    | ((refine DW.own0 1 5 (by rfl) ?_); (simp only [put_cons, put_nil, Nat.reduceEqDiff, ↓reduceIte, if_true, if_false, reduceCtorEq]); ((with_reducible refine DW.loopB 0 (X := Nat × Value) (fun x => x.1 ≤ ro.length) (fun x => [(1, .str tp), (5, .ar x.2 (ownsG (ro.take x.1) tp).length), (9, .sl (ro.map encRoute)), (10, .int .i64 ro.length), (11, .int .i64 x.1)]) (fun x => [.arr 1 x.2 ((ownsG (ro.take x.1) tp).map (V.int .i64)), knF, knA, knM m]) (fun x => ro.length - x.1) ((0, .slice none 0 0)) ?_ ?_ ?_); exact (Nat.zero_le _); (simp [Sub, get, keepL, ownsG_nil] <;> fail); (try simp only [List.take_zero, ownsG_nil, List.map_nil, List.length_nil, List.cons_append, List.nil_append]); refine pl_ ?_; intro ⟨k, v⟩ hk; (try simp only [List.take_zero, ownsG_nil, List.map_nil, List.length_nil, List.cons_append, List.nil_append]); have hwk := Nat.le_trans (ownsG_le ro tp k) hr; rcases (show ro.length ≤ k ∨ k < ro.length by omega) with hge | hlt; (try rw [List.take_of_length_le hge])))
    | refine g_ ?_
    | ((with_reducible refine And.intro ?_ ?_); (exact sv_pownersG_dc))
    | (refine DW.cond (by rfl) ?_ ?_ <;> (first | exact i0_ | (refine ic_ ?_; intro hb)))
    | ((with_reducible refine FVg_cases ?_ ?_) <;> (intro hb; rw [hb]; revert hb; (first | exact i0_ | (refine i_ ?_; intro hb))))
    | refine r_ ?_
    | refine k_ ?_
    | (refine q_ (matchA_dc _ _ _ _) ?_ (ha := by exact sv_pownersG_dc))
    | (refine p_ (sorti_dc _ _ _ _) ?_ (ha := by exact sv_pownersG_dc); rintro d H1 ⟨rfl, rfl⟩ <;> refine s_ ?_)
    | (refine p_ (compi_dc _ _ _ _) ?_ (ha := by exact sv_pownersG_dc); rintro d H1 ⟨v5, rfl, rfl⟩ <;> refine s_ ?_)
    | refine o_ ?_
    | refine f_ ?_
    | with_reducible intro b)
  all_goals first
  | ((have e := ownsG_s ro tp hlt); (rw [show matchB (ro.getD k default).filter tp = true from hb, if_pos rfl] at e); (refine ⟨(k + 1, b), ?_, ?_, ?_, ?_⟩; (try simp only); omega; (try simp only); omega; rotate_left; (simp only [e, List.map_append, List.map_cons, List.map_nil]; (exact sub_)); (simp [Sub, get, e])); done)
  | ((have e := ownsG_s ro tp hlt); (rw [show matchB (ro.getD k default).filter tp = false from hb, if_neg (by simp), List.append_nil] at e); (refine ⟨(k + 1, v), ?_, ?_, ?_, ?_⟩; (try simp only); omega; (try simp only); omega; rotate_left; (simp only [e]; (exact sub_)); (simp [Sub, get, e])); done)
  | ((refine ⟨_, _, le.rfl_, ⟨_, rfl, rfl⟩, ?_⟩); (exact sub_); done)
end

theorem pownersH_dc (se : List TDot) (fe : List TFence) (ro : List TRoute) (ce : List TCell) (tp : Str) (m : Int) (F : Own) : ((se.length ≤ 1000000000 ∧ fe.length ≤ 1000000000 ∧ ro.length ≤ 1000000000 ∧ ce.length ≤ 1000000000 ∧ ∀ k, k < ce.length → (ce.getD k default).payload.length ≤ 1000000000) ∧ (∀ k, k < ro.length → (ro.getD k default).filter.length ≤ 100000) ∧ tp.length ≤ 100000) → DC Tryz.prog 37 [.agg [.sl (se.map encDot), .sl (fe.map encFence), .sl (ro.map encRoute), .sl (ce.map encCell)], .str tp] ([knF, knA, knM m] ++ F) fun d G => d = .sl ((Go.Lib.compact (sortedI (ownsG ro tp))).map (V.int .i64)) ∧ G = [knF, knA, knM m] ++ F := fun h =>
  DC.le_ (fun v => .gs v ((Go.Lib.compact (sortedI (ownsG ro tp))).map (V.int .i64))) (fun v => le.gs rfl) ((DC.frz (F := F) (K := fun _ => True) (D := fun v => .ar v (Go.Lib.compact (sortedI (ownsG ro tp))).length) (D' := fun v => .gs v ((Go.Lib.compact (sortedI (ownsG ro tp))).map (V.int .i64))) (sz := 1) (l := (Go.Lib.compact (sortedI (ownsG ro tp))).map (V.int .i64)) (L := fun _ => [knF, knA, knM m] ++ F) (by decide) (fun y hy => by obtain ⟨x, _, rfl⟩ := List.mem_map.1 hy; rfl) (fun v => .hit _)
    ((pownersG_dc se fe ro ce tp m F h).mono fun d G ⟨v, h1, h2⟩ => ⟨v, h1, by rw [cells_ints]; exact h2, trivial⟩)).mono fun d G ⟨v, h1, h2, _⟩ => ⟨v, h1, h2⟩)
end Go.Proofs.YtfamfamgopchnaaGreatDoor
