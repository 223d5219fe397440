/- Who owns a name. -/
import Derived.Test.YtfamfamgopchnaaGreatDoorPu4x
import Derived.Test.YtfamfamgopchnaaGreatDoorPu5x
import Derived.KernelRfl
namespace Go.Proofs.YtfamfamgopchnaaGreatDoor
open Go.RowKit
set_option linter.unusedSimpArgs false
set_option linter.unusedVariables false
set_option linter.unusedSectionVars false
set_option maxHeartbeats 4000000
set_option maxRecDepth 100000


theorem match_tab : ∀ a ∈ filterL, ∀ b ∈ topicL, matchR a b = matchB a b := by decide +kernel
theorem topic_T : ∀ b ∈ topicL, goodT b = true ∧ b ≠ [] ∧ b.length ≤ 65535 ∧ (levs b).length ≤ 1000000000 ∧ ∀ v ∈ levs b, goodT v = true ∧ v.length ≤ 1000000000 := by decide +kernel
theorem tp_T {b : Str} (h : b ∈ topicL) : topicT b ∧ lvOK b := by
  obtain ⟨h3, h4, h5, h6, h7⟩ := topic_T b h
  exact ⟨⟨h3, h4, h5⟩, h6, h7⟩
theorem rng_ok {t : TTable} (h : Rng 20 t) : filtOK t.routes := fun r hr => fl_T (h.r r hr)
/-! Who has a route that matches. -/
def hasN (ro : List TRoute) (tp : Str) (n : Nat) : Bool := ro.any fun r => matchB r.filter tp && r.dot.node == (n : Int)
def hasV (ro : List TRoute) (tp : Str) (j : Nat) : List V := (List.range 16).map fun n => .bool (hasN (ro.take j) tp n)
theorem hasV_0 (ro : List TRoute) (tp : Str) : hasV ro tp 0 = [.bool false, .bool false, .bool false, .bool false, .bool false, .bool false, .bool false, .bool false, .bool false, .bool false, .bool false, .bool false, .bool false, .bool false, .bool false, .bool false] := rfl
theorem hasV_len (ro : List TRoute) (tp : Str) (j : Nat) : (hasV ro tp j).length = 16 := by simp [hasV]
theorem hasV_at (ro : List TRoute) (tp : Str) (j : Nat) {n : Nat} (h : n < 16) : (List.drop n (hasV ro tp j)).getD 0 .any = .bool (hasN (ro.take j) tp n) := by
  simp [hasV, List.getD_eq_getElem?_getD, List.getElem?_drop, h]
theorem hasN_s (ro : List TRoute) (tp : Str) {j : Nat} (h : j < ro.length) (n : Nat) : hasN (ro.take (j + 1)) tp n = (hasN (ro.take j) tp n || (matchB (ro.getD j default).filter tp && (ro.getD j default).dot.node == (n : Int))) := by
  unfold hasN
  rw [List.take_add_one, List.getElem?_eq_getElem h, List.any_append, getD_get ro j h]; simp
theorem hasV_n (ro : List TRoute) (tp : Str) {j : Nat} (h : j < ro.length) (hm : matchB (ro.getD j default).filter tp = false) : hasV ro tp (j + 1) = hasV ro tp j := by
  unfold hasV
  congr 1; funext n
  rw [hasN_s ro tp h, hm]; simp
theorem hasV_y (ro : List TRoute) (tp : Str) {j : Nat} (h : j < ro.length) (hm : matchB (ro.getD j default).filter tp = true) (h0 : 0 ≤ (ro.getD j default).dot.node) (h1 : (ro.getD j default).dot.node < 16) : layV (hasV ro tp j) (ro.getD j default).dot.node.toNat [.bool true] = hasV ro tp (j + 1) := by
  have hl := hasV_len ro tp j
  generalize hq : (ro.getD j default).dot.node.toNat = q
  have hq16 : q < 16 := by omega
  unfold layV
  apply List.ext_getElem
  · rw [hasV_len]; simp only [List.length_append, List.length_take, List.length_drop, List.length_singleton, hl]; omega
  · intro i h2 h3
    have h3' := h3
    rw [hasV_len] at h3'
    have e : ∀ h, (hasV ro tp (j + 1))[i]'h = .bool (hasN (ro.take (j + 1)) tp i) := fun h => by simp [hasV]
    have e0 : ∀ (i : Nat) h, (hasV ro tp j)[i]'h = .bool (hasN (ro.take j) tp i) := fun i h => by simp [hasV]
    rw [e, hasN_s ro tp h, hm, Bool.true_and]
    have hqi : ((ro.getD j default).dot.node == (i : Int)) = decide (q = i) := by
      rw [Bool.eq_iff_iff]; simp only [beq_iff_eq, decide_eq_true_eq]; omega
    rw [hqi]
    rcases Nat.lt_trichotomy i q with hi | hi | hi
    · rw [List.getElem_append_left (by simp [hl]; omega), List.getElem_append_left (by simp [hl]; omega), List.getElem_take, e0, decide_eq_false (by omega), Bool.or_false]
    · subst hi
      rw [List.getElem_append_left (by simp [hl]; omega), List.getElem_append_right (by simp [hl]; omega)]
      simp
    · rw [List.getElem_append_right (by simp [hl]; omega), List.getElem_drop, e0, decide_eq_false (by omega), Bool.or_false]
      congr 2
      simp [hl]; omega
/-- Whom the law wants, of the first k. -/
def wantL (ro : List TRoute) (tp : Str) (k : Nat) : List Int := ((List.range k).filter fun n => hasN (ro.take ro.length) tp n).map fun (n : Nat) => (n : Int)
theorem want_0 (ro : List TRoute) (tp : Str) : wantL ro tp 0 = [] := rfl
theorem want_s (ro : List TRoute) (tp : Str) (k : Nat) : wantL ro tp (k + 1) = wantL ro tp k ++ (if hasN (ro.take ro.length) tp k = true then [(k : Int)] else []) := by
  unfold wantL
  rw [List.range_succ, List.filter_append, List.map_append, List.filter_cons]
  congr 1
  split <;> simp
theorem want_le (ro : List TRoute) (tp : Str) (k : Nat) : (wantL ro tp k).length ≤ k := by
  unfold wantL; rw [List.length_map]; exact Nat.le_trans (List.length_filter_le _ _) (by simp)
theorem mem_want {ro : List TRoute} {tp : Str} {k : Nat} {x : Int} : x ∈ wantL ro tp k ↔ (0 ≤ x ∧ x < k) ∧ hasN ro tp x.toNat = true := by
  unfold wantL
  rw [List.take_length, List.mem_map]
  constructor
  · rintro ⟨n, hn, rfl⟩
    rw [List.mem_filter, List.mem_range] at hn
    exact ⟨⟨by omega, by omega⟩, by simpa using hn.2⟩
  · rintro ⟨⟨h1, h2⟩, h3⟩
    exact ⟨x.toNat, by rw [List.mem_filter, List.mem_range]; exact ⟨by omega, h3⟩, by omega⟩
theorem want_sort (ro : List TRoute) (tp : Str) (k : Nat) : (wantL ro tp k).Pairwise (fun a b => a < b) := by
  unfold wantL
  rw [List.pairwise_map]
  exact (List.pairwise_lt_range.filter _).imp fun h => by omega
theorem compact_up {d : Array Int} (hs : ∀ i j, i ≤ j → j < d.size → d[i]! ≤ d[j]!) : ∀ m, m ≤ d.size → (Go.Lib.compactUpTo d m).Pairwise (fun a b => a < b) ∧ (∀ x, x ∈ Go.Lib.compactUpTo d m ↔ ∃ j, j < m ∧ d[j]! = x) := by
  intro m
  induction m with
  | zero => intro _; exact ⟨List.Pairwise.nil, fun x => ⟨fun h => by simp [Go.Lib.compactUpTo] at h, fun ⟨j, hj, _⟩ => absurd hj (Nat.not_lt_zero _)⟩⟩
  | succ m ih =>
    intro hm
    obtain ⟨h1, h2⟩ := ih (by omega)
    rw [Go.Lib.compactUpTo_succ]
    by_cases hk : Go.Lib.keeps d m = true
    · rw [if_pos hk]
      refine ⟨List.pairwise_append.2 ⟨h1, List.pairwise_singleton _ _, fun a ha b hb => ?_⟩, fun x => ?_⟩
      · rw [List.mem_singleton] at hb
        subst hb
        obtain ⟨j, hj, rfl⟩ := (h2 a).1 ha
        have h3 := hs j (m - 1) (by omega) (by omega)
        have h4 := hs (m - 1) m (by omega) (by omega)
        simp only [Go.Lib.keeps, decide_eq_true_eq] at hk
        omega
      · rw [List.mem_append, h2, List.mem_singleton]
        constructor
        · rintro (⟨j, hj, e⟩ | e)
          · exact ⟨j, by omega, e⟩
          · exact ⟨m, by omega, e.symm⟩
        · rintro ⟨j, hj, e⟩
          rcases Nat.lt_or_eq_of_le (Nat.le_of_lt_succ hj) with h | rfl
          · exact .inl ⟨j, h, e⟩
          · exact .inr e.symm
    · rw [if_neg hk, List.append_nil]
      refine ⟨h1, fun x => ?_⟩
      rw [h2]
      simp only [Go.Lib.keeps, decide_eq_true_eq, not_or, Decidable.not_not] at hk
      constructor
      · rintro ⟨j, hj, e⟩; exact ⟨j, by omega, e⟩
      · rintro ⟨j, hj, e⟩
        rcases Nat.lt_or_eq_of_le (Nat.le_of_lt_succ hj) with h | rfl
        · exact ⟨j, h, e⟩
        · exact ⟨j - 1, by omega, hk.2.symm.trans e⟩
theorem compact_sorted {l : List Int} (h : l.Pairwise (fun a b => a ≤ b)) : (Go.Lib.compact l).Pairwise (fun a b => a < b) ∧ ∀ x, x ∈ Go.Lib.compact l ↔ x ∈ l := by
  have hg : ∀ i, (hi : i < l.length) → l.toArray[i]! = l[i] := fun i hi => by simp [hi]
  have hs : ∀ i j, i ≤ j → j < l.toArray.size → l.toArray[i]! ≤ l.toArray[j]! := fun i j hij hj => by
    have hj' : j < l.length := by simpa using hj
    rw [hg i (by omega), hg j hj']
    rcases Nat.eq_or_lt_of_le hij with rfl | hlt
    · exact Int.le_refl _
    · exact List.pairwise_iff_getElem.1 h i j (by omega) hj' hlt
  obtain ⟨h1, h2⟩ := compact_up hs l.length (by simp)
  refine ⟨h1, fun x => (h2 x).trans ⟨?_, fun hx => ?_⟩⟩
  · rintro ⟨j, hj, rfl⟩
    rw [hg j hj]; exact List.getElem_mem hj
  · obtain ⟨j, hj, rfl⟩ := List.getElem_of_mem hx
    exact ⟨j, hj, hg j hj⟩
theorem owners_want {ro : List TRoute} {tp : Str} (h : ∀ r ∈ ro, matchR r.filter tp = matchB r.filter tp) (hn : ∀ r ∈ ro, 0 ≤ r.dot.node ∧ r.dot.node < 16) : Go.Lib.compact (sortedI (ownsT ro tp)) = wantL ro tp 16 := by
  have hsrt : (sortedI (ownsT ro tp)).Pairwise (fun a b => a ≤ b) := by
    unfold sortedI
    refine (List.pairwise_mergeSort (fun a b c h1 h2 => ?_) (fun a b => ?_) _).imp fun h => by simpa using h
    · simp only [decide_eq_true_eq] at *; omega
    · simp only [Bool.or_eq_true, decide_eq_true_eq]; omega
  obtain ⟨h1, h2⟩ := compact_sorted hsrt
  refine sorted_ext (fun a => Int.lt_irrefl a) (fun _ _ _ => Int.lt_trans) h1 (want_sort ro tp 16) fun x => ?_
  rw [h2, mem_want]
  unfold sortedI
  rw [List.mem_mergeSort]
  unfold ownsT hasN
  rw [List.mem_map, List.any_eq_true]
  constructor
  · rintro ⟨r, hr, rfl⟩
    rw [List.mem_filter] at hr
    obtain ⟨a1, a2⟩ := hn r hr.1
    refine ⟨⟨a1, by omega⟩, r, hr.1, ?_⟩
    rw [← h r hr.1, hr.2]
    simp; omega
  · rintro ⟨⟨a1, a2⟩, r, hr, hx⟩
    simp only [Bool.and_eq_true, beq_iff_eq] at hx
    exact ⟨r, by rw [List.mem_filter, h r hr]; exact ⟨hr, hx.1⟩, by omega⟩
theorem own_nodes {t : TTable} (ht : TR t) : ∀ r ∈ t.routes, 0 ≤ r.dot.node ∧ r.dot.node < 16 := fun r hr => by
  have := (ht.rok r hr).2.1
  rw [has_iff] at this
  rcases top_cases ht.seen r.dot.node r.dot.epoch with ⟨d, hd, h1, _⟩ | ⟨_, h⟩
  · have := (right_iff.1 ht.seen).2 d hd
    rw [one_iff] at this; omega
  · omega
theorem owners3_dc (t : TTable) (tp : Str) (m : Int) (F : Own) : (TR t ∧ Rng 20 t ∧ Lite 3072 t ∧ tp ∈ topicL) → DC Tryz.prog 37 [.agg [.sl (t.seen.map encDot), .sl (t.fences.map encFence), .sl (t.routes.map encRoute), .sl (t.cells.map encCell)], .str tp] ([knF, knA, knM m] ++ F) fun d G => d = .sl ((wantL t.routes tp 16).map (V.int .i64)) ∧ G = [knF, knA, knM m] ++ F := fun ⟨ht, hr, hL, hp⟩ => by
  have := powners2_dc t.seen t.fences t.routes t.cells tp m F ⟨hL.p4 (by decide), rng_ok hr, tp_T hp⟩
  rwa [owners_want (fun r h => match_tab _ (hr.r r h) _ hp) (own_nodes ht)] at this
attribute [local irreducible] DW SeqD DV DOp DC DVX DVJ matchB topicM hasV wantL
theorem sv_routesOwn_dc {p : Prop} (h : p := by first | exact sv | exact ⟨hn20, deeds_ok hl hx30⟩ | exact ⟨htr, hrg, hlt, htp⟩ | exact ⟨Nat.le_trans (want_le _ _ 16) (by decide), Nat.le_trans (want_le _ _ 16) (by decide)⟩ | exact ⟨hfa j (by omega), htl⟩ | exact hno _ (getD_mem (by omega)) | exact hno2 j (by omega) | (have h9 := hno2 j (by omega); omega) | fail) : p := h
section
attribute [local push_cast 2000] encTable encRoute encRoute_eta hasV_len hasV_at hasV_0 want_0
theorem routesOwn_dc (l : List TDeed) (x1 m : Int) (F : Own) : ((∀ d ∈ l, deedR d) ∧ (0 ≤ x1 ∧ x1 ≤ 255)) → DC Tryz.prog 8 [.sl (l.map encDeed), .int .u8 x1] ([knF, knA, knM m] ++ F) fun d G => d = .bool true ∧ G = [knF, knA, knM m] ++ F := by
  intro hA
  obtain ⟨hl, hx⟩ := hA
  refine DC.bodyS (n_ := 71) (show Tryz.prog.funcs[8]? = some Tryz.f8 by kernel_rfl) rfl rfl (by rfl) ?_
  simp only [env0, hasV_0, want_0, List.map_nil, List.length_nil, List.cons_append, List.nil_append]
  have kw := ksIs [0, 1, 4, 5, 6, 7, 8, 9, 10, 11, 13, 16, 22, 33, 44, 54, 59, 70]
  have ow := ownIs []
  have dw14 := drIs 14 [] [1, 5, 7, 8]
  have dw22 := drIs 22 [] [0, 2, 3, 5]
  have htp := topicM_mem hx.1; have htl : (topicM x1).length ≤ 65535 := (tp_T htp).1.2.2
  repeat' (first
    | ((with_reducible apply DW.frzB 10 7); (focus (exact rfl)); (repeat (with_reducible first | refine Out.here ?_ | refine Out.next ?_)); simp only [put_cons, put_nil, Nat.reduceEqDiff, ↓reduceIte, if_true, if_false, reduceCtorEq])
    | ((have hk16 : k = 16 := by omega); (subst hk16); ((with_reducible apply DW.frzR 22); (repeat (with_reducible first | refine OnA.here ?_ | refine OnA.next ?_)); refine ⟨(cells_ints _).symm, by decide, (by intro y hy; obtain ⟨x, _, rfl⟩ := List.mem_map.1 hy; rfl), ?_, ?_⟩; (repeat (first | exact CvE.nil | apply CvE.cons (Cv.hit _) | apply CvE.cons (Cv.rfl _)))))
    | ((with_reducible refine DW.loopB 0 (X := Nat) (fun x => x ≤ 3) (fun x => [(1, .int .u8 x1), (5, .sl ((tablesM l).map encTable)), (6, .int .i64 x)]) (fun x => [knF, knA, knM m]) (fun x => 3 - x) (0) ?_ ?_ ?_); exact (Nat.zero_le _); (simp [Sub, get, keepL] <;> fail); (try simp only [hasV_0, want_0, List.map_nil, List.length_nil, List.cons_append, List.nil_append]); refine pl_ ?_; intro i hi; (try simp only [hasV_0, want_0, List.map_nil, List.length_nil, List.cons_append, List.nil_append]); have htn := (st_at hn20 (deeds_ok hl hx30) (k := 0) (by decide)).1; by_cases hi3 : i < 3; (have hst := st_at hn20 (deeds_ok hl hx30) (k := i) hi3; have htr := hst.2.1; have hrg := hst.2.2.1; have hlt := hst.2.2.2; have hrl := hlt.r; have hno := own_nodes htr; have hfa : ∀ j, j < ((tablesM l).getD i default).routes.length → (((tablesM l).getD i default).routes.getD j default).filter.length ≤ 65535 := fun j hj => (fl_T (hrg.r _ (getD_mem hj))).1.2.2; have hno2 : ∀ j, j < ((tablesM l).getD i default).routes.length → 0 ≤ (((tablesM l).getD i default).routes.getD j default).dot.node ∧ (((tablesM l).getD i default).routes.getD j default).dot.node < 16 := fun j hj => hno _ (getD_mem hj)))
    | ((with_reducible refine DW.loopB 2 (X := Nat) (fun x => x ≤ ((tablesM l).getD i default).routes.length) (fun x => [(1, .int .u8 x1), (5, .sl ((tablesM l).map encTable)), (6, .int .i64 i), (7, .sp [.sl (((tablesM l).getD i default).seen.map encDot), .sl (((tablesM l).getD i default).fences.map encFence), .sl (((tablesM l).getD i default).routes.map encRoute), .sl (((tablesM l).getD i default).cells.map encCell)]), (8, .raw (.pointer (some ⟨b2, 0, none⟩))), (9, .int .i64 x)]) (fun x => [.blk b2 (hasV ((tablesM l).getD i default).routes (topicM x1) x), knF, knA, knM m]) (fun x => ((tablesM l).getD i default).routes.length - x) (0) ?_ ?_ ?_); exact (Nat.zero_le _); (simp [Sub, get, keepL] <;> fail); (try simp only [hasV_0, want_0, List.map_nil, List.length_nil, List.cons_append, List.nil_append]); refine pl_ ?_; intro j hj; (try simp only [hasV_0, want_0, List.map_nil, List.length_nil, List.cons_append, List.nil_append]))
    | ((have hjl : j = ((tablesM l).getD i default).routes.length := by omega); (subst hjl); (refine DW.own0 1 10 (by rfl) ?_); (simp only [put_cons, put_nil, Nat.reduceEqDiff, ↓reduceIte, if_true, if_false, reduceCtorEq]); ((with_reducible refine DW.loopB 4 (X := Nat × Value) (fun x => x.1 ≤ 16) (fun x => [(1, .int .u8 x1), (5, .sl ((tablesM l).map encTable)), (6, .int .i64 i), (7, .sp [.sl (((tablesM l).getD i default).seen.map encDot), .sl (((tablesM l).getD i default).fences.map encFence), .sl (((tablesM l).getD i default).routes.map encRoute), .sl (((tablesM l).getD i default).cells.map encCell)]), (8, .raw (.pointer (some ⟨b2, 0, none⟩))), (10, .ar x.2 (wantL ((tablesM l).getD i default).routes (topicM x1) x.1).length), (11, .int .i64 x.1)]) (fun x => [.arr 1 x.2 ((wantL ((tablesM l).getD i default).routes (topicM x1) x.1).map (V.int .i64)), .blk b2 (hasV ((tablesM l).getD i default).routes (topicM x1) ((tablesM l).getD i default).routes.length), knF, knA, knM m]) (fun x => 16 - x.1) ((0, .slice none 0 0)) ?_ ?_ ?_); exact (Nat.zero_le _); (simp [Sub, get, keepL, want_0] <;> fail); (try simp only [hasV_0, want_0, List.map_nil, List.length_nil, List.cons_append, List.nil_append]); refine pl_ ?_; intro ⟨k, v⟩ hk; (try simp only [hasV_0, want_0, List.map_nil, List.length_nil, List.cons_append, List.nil_append]); have hwk := want_le ((tablesM l).getD i default).routes (topicM x1) k))
    | refine g_ ?_
    | ((with_reducible refine And.intro ?_ ?_); (exact sv_routesOwn_dc))
    | (refine DW.cond (by rfl) ?_ ?_ <;> (first | exact i0_ | (refine ic_ ?_; intro hb)))
    | ((with_reducible first | refine FVg_cases ?_ ?_ | refine FDg_cases ?_ ?_) <;> (intro hb; rw [hb]; revert hb; (first | exact i0_ | (refine i_ ?_; intro hb))))
    | refine r_ ?_
    | refine d_ ?_
    | refine k_ ?_
    | ((refine dm_ ?_); (first | ((first | refine v_ (known10_dc _ _) ?_ (ha := by exact sv_routesOwn_dc) | refine v_ (filter_dc _ _) ?_ (ha := by exact sv_routesOwn_dc) | refine v_ (paddT_dc _ _ _ _ _ _) ?_ (ha := by exact sv_routesOwn_dc) | refine v_ (pdropT_dc _ _ _ _ _) ?_ (ha := by exact sv_routesOwn_dc) | refine v_ (pfenceT_dc _ _ _ _) ?_ (ha := by exact sv_routesOwn_dc) | refine v_ (pfencedT_dc _ _ _ _) ?_ (ha := by exact sv_routesOwn_dc) | refine v_ (rtop_dc _ _ _ _) ?_ (ha := by exact sv_routesOwn_dc) | refine v_ (topic_dc _ _) ?_ (ha := by exact sv_routesOwn_dc))) | (refine v_ (story10_dc _ _) ?_ (ha := by exact sv_routesOwn_dc)) | (refine v_ (same_dc _ _ _) ?_ (ha := by exact sv_routesOwn_dc)) | (refine v_ (rmatch_dc _ _ _) ?_ (ha := by exact sv_routesOwn_dc)) | (refine v_ (ints_dc _ _ _) ?_ (ha := by exact sv_routesOwn_dc)) | (refine v_ (owners3_dc _ _ _ _) ?_ (ha := by exact sv_routesOwn_dc))))
    | refine vo_ ?_
    | ((first | refine q_ (known10_dc _ _) ?_ (ha := by exact sv_routesOwn_dc) | refine q_ (filter_dc _ _) ?_ (ha := by exact sv_routesOwn_dc) | refine q_ (paddT_dc _ _ _ _ _ _) ?_ (ha := by exact sv_routesOwn_dc) | refine q_ (pdropT_dc _ _ _ _ _) ?_ (ha := by exact sv_routesOwn_dc) | refine q_ (pfenceT_dc _ _ _ _) ?_ (ha := by exact sv_routesOwn_dc) | refine q_ (pfencedT_dc _ _ _ _) ?_ (ha := by exact sv_routesOwn_dc) | refine q_ (rtop_dc _ _ _ _) ?_ (ha := by exact sv_routesOwn_dc) | refine q_ (topic_dc _ _) ?_ (ha := by exact sv_routesOwn_dc)))
    | (refine p_ (few10_dc _ _) ?_ (ha := by exact sv_routesOwn_dc); rintro d H1 (⟨rfl, ⟨hn20, hx30⟩, rfl⟩ | ⟨rfl, rfl⟩) <;> refine s_ ?_)
    | (refine q_ (story10_dc _ _) ?_ (ha := by exact sv_routesOwn_dc))
    | (refine q_ (same_dc _ _ _) ?_ (ha := by exact sv_routesOwn_dc))
    | (refine q_ (rmatch_dc _ _ _) ?_ (ha := by exact sv_routesOwn_dc))
    | (refine q_ (ints_dc _ _ _) ?_ (ha := by exact sv_routesOwn_dc))
    | (refine q_ (owners3_dc _ _ _ _) ?_ (ha := by exact sv_routesOwn_dc))
    | refine o_ ?_
    | refine f_ ?_
    | refine vm_ ?_
    | ((fail_if_success (have zz := b1)); with_reducible intro b1)
    | ((fail_if_success (have zz := b2)); with_reducible intro b2)
    | with_reducible intro b)
  all_goals first
  | ((first | exact fin_ | refine finq_ ?_); done)
  | (exfalso; omega)
  | (rw [hasV_y _ _ (by omega) hb (hno2 j (by omega)).1 (hno2 j (by omega)).2]; refine ⟨j + 1, ?_, ?_, ?_, ?_⟩; (((try simp only); omega)); (((try simp only); omega)); (simp [Sub, get] <;> (fail)); (try dsimp only); (exact sub_); done)
  | (refine ⟨j + 1, ?_, ?_, ?_, ?_⟩; (focus omega); (focus omega); (focus (simp [Sub, get] <;> fail)); (rw [hasV_n _ _ (by omega) hb]); exact sub_; done)
  | (exact absurd trivial hb)
  | (have ew := want_s ((tablesM l).getD i default).routes (topicM x1) k
     rw [if_pos hb] at ew
     refine ⟨(k + 1, b), ?_, ?_, ?_, ?_⟩; (focus (simp only; omega)); (focus (simp only; omega)); (focus (simp only [ew, List.length_append, List.length_singleton]; simp [Sub, get] <;> fail)); (simp only [ew, List.map_append, List.map_cons, List.map_nil]); exact sub_; done)
  | (have ew := want_s ((tablesM l).getD i default).routes (topicM x1) k
     rw [if_neg (by rw [hb]; decide), List.append_nil] at ew
     refine ⟨(k + 1, v), ?_, ?_, ?_, ?_⟩; (focus (simp only; omega)); (focus (simp only; omega)); (focus (simp only [ew, List.length_append, List.length_singleton]; simp [Sub, get] <;> fail)); (simp only [ew]); exact sub_; done)
  | (refine ⟨i + 1, ?_, ?_, ?_, ?_⟩; (focus omega); (focus omega); (focus (simp [Sub, get] <;> fail)); exact sub_; done)
end
end Go.Proofs.YtfamfamgopchnaaGreatDoor
