/- Who owns a topic, as the document says; texts held against one another. -/
import Derived.Test.YtfamfamgopchnaaGreatDoorPv4x
import Derived.Test.YtfamfamgopchnaaGreatDoorPu6x
import Derived.KernelRfl
namespace Go.Proofs.YtfamfamgopchnaaGreatDoor
open Go.RowKit
set_option linter.unusedSimpArgs false
set_option linter.unusedVariables false
set_option linter.unusedSectionVars false
set_option maxHeartbeats 4000000
set_option maxRecDepth 100000


theorem owners_wantG {ro : List TRoute} {tp : Str} (hn : ∀ r ∈ ro, 0 ≤ r.dot.node ∧ r.dot.node < 16) : Go.Lib.compact (sortedI (ownsG ro tp)) = wantL ro tp 16 := by
  have hsrt : (sortedI (ownsG ro tp)).Pairwise (fun a b => a ≤ b) := by
    unfold sortedI
    refine (List.pairwise_mergeSort (fun a b c h1 h2 => ?_) (fun a b => ?_) _).imp fun h => by simpa using h
    · simp only [decide_eq_true_eq] at *; omega
    · simp only [Bool.or_eq_true, decide_eq_true_eq]; omega
  obtain ⟨h1, h2⟩ := compact_sorted hsrt
  refine sorted_ext (fun a => Int.lt_irrefl a) (fun _ _ _ => Int.lt_trans) h1 (want_sort ro tp 16) fun x => ?_
  rw [h2, mem_want]
  unfold sortedI
  rw [List.mem_mergeSort]
  unfold ownsG hasN
  rw [List.mem_map, List.any_eq_true]
  constructor
  · rintro ⟨r, hr, rfl⟩
    rw [List.mem_filter] at hr
    obtain ⟨a1, a2⟩ := hn r hr.1
    refine ⟨⟨a1, by omega⟩, r, hr.1, ?_⟩
    rw [hr.2]
    simp; omega
  · rintro ⟨⟨a1, a2⟩, r, hr, hx⟩
    simp only [Bool.and_eq_true, beq_iff_eq] at hx
    exact ⟨r, by rw [List.mem_filter]; exact ⟨hr, hx.1⟩, by omega⟩
theorem hasN_0 (ro : List TRoute) (tp : Str) (n : Nat) : hasN (ro.take 0) tp n = false := rfl
theorem hasN_00 (tp : Str) (n : Nat) : hasN [] tp n = false := rfl
attribute [local irreducible] DW SeqD DV DOp DC DVX DVJ matchB hasN wantL
theorem strsH_dc (l q : List Str) (F : Own) : (l.length ≤ 1000000000 ∧ q.length ≤ 1000000000) → DC Tryz.prog 32 [.sl (l.map V.str), .sl (q.map V.str)] (([] : Own) ++ F) fun d G => d = .bool (decide (l = q)) ∧ G = [] ++ F := by
  intro hA
  obtain ⟨hl, hq⟩ := hA
  refine DC.bodyS (n_ := 26) (show Tryz.prog.funcs[32]? = some Tryz.f32 by kernel_rfl) rfl rfl (by rfl) ?_
  simp only [env0, List.cons_append, List.nil_append]
  have kw := ksIs [0, 1, 4, 5, 10, 14, 25]
  have ow := ownIs []
  have dw6 := drIs 6 [] [3, 7]
  repeat' (first
    | ((with_reducible refine DW.loopB 0 (X := Nat) (fun x => x ≤ l.length ∧ eqK l q x) (fun x => [(0, .sl (l.map V.str)), (1, .sl (q.map V.str)), (5, .int .i64 x)]) (fun x => ([] : Own)) (fun x => l.length - x) (0) ?_ ?_ ?_); exact (⟨Nat.zero_le _, eqK_0 _ _⟩); (simp [Sub, get, keepL] <;> fail); (try simp only [List.cons_append, List.nil_append]); refine pl_ ?_; intro k ⟨hk, ek⟩; (try simp only [List.cons_append, List.nil_append]))
    | refine g_ ?_
    | ((with_reducible refine And.intro ?_ ?_); (exact sv))
    | (refine DW.cond (by rfl) ?_ ?_ <;> (first | exact i0_ | (refine ic_ ?_; intro hb)))
    | ((with_reducible first | refine FVg_cases ?_ ?_ | refine FDg_cases ?_ ?_) <;> (intro hb; rw [hb]; revert hb; (first | exact i0_ | (refine i_ ?_; intro hb))))
    | refine r_ ?_
    | refine d_ ?_
    | refine k_ ?_
    | refine vo_ ?_
    | refine o_ ?_
    | refine f_ ?_
    | refine vm_ ?_
    | with_reducible intro b)
  all_goals first
  | ((rw [show decide (l = q) = true from decide_eq_true (eqK_all ek (by omega) (by omega))]; (first | exact fin_ | refine finq_ ?_); done))
  | (refine ⟨k + 1, ⟨by omega, eqK_s ek hb⟩, by omega, by simp [Sub, get], ?_⟩; (exact sub_); done)
  | ((rw [show decide (l = q) = false from decide_eq_false (fun e => by subst e; first | (exact absurd rfl hb) | (simp at hb; done) | omega)]; (first | exact fin_ | refine finq_ ?_); done))
theorem sv_rowners_dc {p : Prop} (h : p := by first | exact sv | exact ⟨hfl j (by omega), hT⟩ | fail) : p := h
section
attribute [local push_cast 2000] encRoute encRoute_eta want_0
theorem rowners_dc (se : List TDot) (fe : List TFence) (ro : List TRoute) (ce : List TCell) (tp : Str) (F : Own) : (ro.length ≤ 1000000 ∧ (∀ k, k < ro.length → (ro.getD k default).filter.length ≤ 65535) ∧ tp.length ≤ 65535) → DC Tryz.prog 38 [.agg [.sl (se.map encDot), .sl (fe.map encFence), .sl (ro.map encRoute), .sl (ce.map encCell)], .str tp] (([] : Own) ++ F) fun d G => d = .sl ((wantL ro tp 16).map (V.int .i64)) ∧ G = [] ++ F := by
  intro hA
  obtain ⟨hr, hfl, hT⟩ := hA
  refine DC.bodyS (n_ := 48) (show Tryz.prog.funcs[38]? = some Tryz.f38 by kernel_rfl) rfl rfl (by rfl) ?_
  simp only [env0, want_0, List.map_nil, List.cons_append, List.nil_append]
  have kw := ksIs [0, 1, 2, 4, 5, 6, 7, 8, 10, 17, 42]
  have ow := ownIs []
  refine DW.tail0 1 ?_
  repeat' (first
    | ((with_reducible apply DW.frzB 1 2); (focus (exact rfl)); (repeat (with_reducible first | refine Out.here ?_ | refine Out.next ?_)); simp only [put_cons, put_nil, Nat.reduceEqDiff, ↓reduceIte, if_true, if_false, reduceCtorEq])
    | ((with_reducible refine DW.loopB 0 (X := Nat × Value) (fun x => x.1 ≤ 16) (fun x => [(1, .str tp), (2, .sp [.sl (se.map encDot), .sl (fe.map encFence), .sl (ro.map encRoute), .sl (ce.map encCell)]), (5, .gs x.2 ((wantL ro tp x.1).map (V.int .i64))), (6, .int .i64 x.1)]) (fun x => .tail 1 x.2 :: ([] : Own)) (fun x => 16 - x.1) ((0, .slice none 0 0)) ?_ ?_ ?_); exact (Nat.zero_le _); (simp [Sub, get, keepL, want_0] <;> fail); (try simp only [want_0, List.map_nil, List.cons_append, List.nil_append]); refine pl_ ?_; intro ⟨n, v⟩ hn; (try simp only [want_0, List.map_nil, List.cons_append, List.nil_append]); have hwn := want_le ro tp n)
    | ((with_reducible refine DW.loopB 2 (X := Nat) (fun x => x ≤ ro.length) (fun x => [(1, .str tp), (2, .sp [.sl (se.map encDot), .sl (fe.map encFence), .sl (ro.map encRoute), .sl (ce.map encCell)]), (5, .gs v ((wantL ro tp n).map (V.int .i64))), (6, .int .i64 n), (7, .bool (hasN (ro.take x) tp n)), (8, .int .i64 x)]) (fun x => .tail 1 v :: ([] : Own)) (fun x => ro.length - x) (0) ?_ ?_ ?_); exact (Nat.zero_le _); (simp [Sub, get, keepL, hasN_0, hasN_00] <;> fail); (try simp only [want_0, List.map_nil, List.cons_append, List.nil_append]); refine pl_ ?_; intro j hj; (try simp only [want_0, List.map_nil, List.cons_append, List.nil_append]))
    | refine g_ ?_
    | ((with_reducible refine And.intro ?_ ?_); (exact sv_rowners_dc))
    | (refine DW.cond (by rfl) ?_ ?_ <;> (first | exact i0_ | (refine ic_ ?_; intro hb)))
    | ((with_reducible refine FVg_cases ?_ ?_) <;> (intro hb; rw [hb]; revert hb; (first | exact i0_ | (refine i_ ?_; intro hb))))
    | refine r_ ?_
    | refine k_ ?_
    | (refine q_ (rmatch_dc _ _ _) ?_ (ha := by exact sv_rowners_dc))
    | refine o_ ?_
    | refine f_ ?_
    | with_reducible intro b)
  all_goals first
  | (have e := hasN_s ro tp (show j < ro.length by omega) n
     rw [hb, Bool.true_or] at e
     refine ⟨j + 1, ?_, ?_, ?_, ?_⟩; (focus omega); (focus omega); (focus (simp only [e]; simp [Sub, get] <;> fail)); exact sub_; done)
  | (have e := hasN_s ro tp (show j < ro.length by omega) n
     rw [(by assumption : hasN (ro.take j) tp n = false), Bool.false_or, beq_iff_eq.2 hb, Bool.and_true] at e
     refine ⟨j + 1, ?_, ?_, ?_, ?_⟩; (focus omega); (focus omega); (focus (simp only [e]; simp [Sub, get] <;> fail)); exact sub_; done)
  | (have e := hasN_s ro tp (show j < ro.length by omega) n
     rw [(by assumption : hasN (ro.take j) tp n = false), Bool.false_or, beq_eq_false_iff_ne.2 hb, Bool.and_false] at e
     refine ⟨j + 1, ?_, ?_, ?_, ?_⟩; (focus omega); (focus omega); (focus (simp only [e]; simp [Sub, get] <;> fail)); exact sub_; done)
  | (have hjl : j = ro.length := by omega
     subst hjl
     have ew := want_s ro tp n
     rw [if_pos hb] at ew
     refine ⟨(n + 1, b), ?_, ?_, ?_, ?_⟩; (focus (simp only; omega)); (focus (simp only; omega)); (focus (simp only [ew, List.map_append, List.map_cons, List.map_nil]; simp [Sub, get] <;> fail)); exact sub_; done)
  | (have hjl : j = ro.length := by omega
     subst hjl
     have ew := want_s ro tp n
     rw [if_neg (by rw [hb]; decide), List.append_nil] at ew
     refine ⟨(n + 1, v), ?_, ?_, ?_, ?_⟩; (focus (simp only; omega)); (focus (simp only; omega)); (focus (simp only [ew]; simp [Sub, get] <;> fail)); exact sub_; done)
  | (obtain rfl : n = 16 := by omega
     refine ⟨_, _, le.gs rfl, ⟨rfl, rfl⟩, ?_⟩; exact sub_; done)
end
end Go.Proofs.YtfamfamgopchnaaGreatDoor
/- Filters of an owner, as the document says. -/
namespace Go.Proofs.YtfamfamgopchnaaGreatDoor
open Go.RowKit
set_option linter.unusedSimpArgs false
set_option linter.unusedVariables false
set_option linter.unusedSectionVars false
set_option maxHeartbeats 4000000
set_option maxRecDepth 100000


attribute [local irreducible] DW SeqD DV DOp DC DVX DVJ
theorem sv_into_dc {p : Prop} (h : p := by first | exact sv | (simp [encDot, encRoute, encFence, V.one]; omega) | (simp [encRoute, encDot, encFence, V.one, List.length_take, List.length_drop] <;> omega) | (refine ⟨by omega, by omega, ?_⟩; intro y hy; rcases List.mem_append.1 hy with hy | hy; (obtain ⟨x, _, rfl⟩ := List.mem_map.1 hy; rfl); (simp only [List.mem_singleton] at hy; subst hy; rfl)) | (refine ⟨by omega, by omega, ?_⟩; intro y hy; obtain ⟨x, _, rfl⟩ := List.mem_map.1 hy; first | rfl | exact ⟨rfl, rfl⟩) | (refine ⟨?_, ?_, ?_, ?_⟩ <;> first | omega | (simp only [List.length_append, List.length_singleton]; omega)) | fail) : p := h
section
attribute [local push_cast 2000] takeM dropM List.length_take List.length_drop
theorem into_dc (l : List Str) (t : Str) (F : Own) : (l.length ≤ 1000000 ∧ ∀ k, k < l.length → Op.bytesLess (l.getD k default) t = true) → DC Tryz.prog 92 [.sl (l.map V.str), .str t] (([] : Own) ++ F) fun d G => d = .sl ((l ++ [t]).map V.str) ∧ G = [] ++ F := by
  intro hA
  obtain ⟨hl, hlt0⟩ := hA
  refine DC.bodyS (n_ := 44) (show Tryz.prog.funcs[92]? = some Tryz.f92 by kernel_rfl) rfl rfl (by rfl) ?_
  simp only [env0, List.cons_append, List.nil_append]
  have kw := ksIs [0, 1, 4, 5, 17, 31]
  have ow := ownIs []
  have dw6 := drIs 6 [3, 6, 10] []
  repeat' (first
    | ((with_reducible refine DW.loopB 0 (X := Nat) (fun x => x ≤ l.length) (fun x => [(0, .sl (l.map V.str)), (1, .str t), (5, .int .i64 x)]) (fun x => ([] : Own)) (fun x => l.length - x) (0) ?_ ?_ ?_); exact (Nat.zero_le _); (simp [Sub, get, keepL] <;> fail); (try simp only [List.cons_append, List.nil_append]); refine pl_ ?_; intro k hk; (try simp only [List.cons_append, List.nil_append]); rcases (show l.length ≤ k ∨ k < l.length by omega) with hge | hlt; (skip))
    | refine g_ ?_
    | ((with_reducible refine And.intro ?_ ?_); (exact sv_into_dc))
    | (refine DW.cond (by rfl) ?_ ?_ <;> (first | exact i0_ | (refine ic_ ?_; intro hb)))
    | ((with_reducible first | refine FVg_cases ?_ ?_ | refine FDg_cases ?_ ?_) <;> (intro hb; rw [hb]; revert hb; (first | exact i0_ | (refine i_ ?_; intro hb))))
    | refine r_ ?_
    | refine d_ ?_
    | refine k_ ?_
    | refine vo_ ?_
    | refine o_ ?_
    | refine f_ ?_
    | refine vm_ ?_
    | with_reducible intro b)
  all_goals first
  | (refine ⟨k + 1, ?_, ?_, ?_, ?_⟩; (focus omega); (focus omega); (focus (simp [Sub, get] <;> fail)); exact sub_; done)
  | (exfalso; have h9 := hlt0 k (by omega); simp_all; done)
  | (have hkl : k = l.length := by omega
     subst hkl
     refine ⟨_, _, le.gs ?_, ⟨rfl, rfl⟩, ?_⟩; (focus (simp <;> fail)); exact sub_; done)
  | (exfalso; omega)
end
end Go.Proofs.YtfamfamgopchnaaGreatDoor
/- The filters of an owner are what the document says. -/
namespace Go.Proofs.YtfamfamgopchnaaGreatDoor
open Go.RowKit
set_option linter.unusedSimpArgs false
set_option linter.unusedVariables false
set_option linter.unusedSectionVars false
set_option maxHeartbeats 4000000
set_option maxRecDepth 100000


/-- Of each owner the filters rise. -/
def ofUp (ro : List TRoute) (node epoch : Int) : Prop := ∀ k, k < ro.length → ofB (ro.getD k default) node epoch = true → ∀ j, j < (ofT (ro.take k) node epoch).length → Op.bytesLess ((ofT (ro.take k) node epoch).getD j default) (ro.getD k default).filter = true
theorem of_yes {ro : List TRoute} {node epoch : Int} {k : Nat} (h : k < ro.length) (hb : ofB (ro.getD k default) node epoch = true) : ofT (ro.take (k + 1)) node epoch = ofT (ro.take k) node epoch ++ [(ro.getD k default).filter] := by
  rw [of_s ro node epoch h, if_pos hb]
theorem of_no {ro : List TRoute} {node epoch : Int} {k : Nat} (h : k < ro.length) (hb : ofB (ro.getD k default) node epoch = false) : ofT (ro.take (k + 1)) node epoch = ofT (ro.take k) node epoch := by
  rw [of_s ro node epoch h, if_neg (by rw [hb]; decide), List.append_nil]
theorem tr_up {t : TTable} (ht : TR t) (n e : Int) : ofUp t.routes n e := by
  intro k hk hb j hj
  have hm : (ofT (t.routes.take k) n e).getD j default ∈ ofT (t.routes.take k) n e := by
    rw [List.getD_eq_getElem?_getD, List.getElem?_eq_getElem hj]; exact List.getElem_mem hj
  obtain ⟨r, hr, hre⟩ := List.mem_map.1 hm
  rw [List.mem_filter] at hr
  obtain ⟨i, hi, rfl⟩ := (mem_take_iff (by omega)).1 hr.1
  rw [← hre]
  have h1 := pw_at ht.rsort hi hk
  have h2 := pw_at ht.rone hi hk
  rcases rbefore_iff.1 h1 with h3 | ⟨h3, _⟩
  · exact h3
  · exfalso
    have h4 := hr.2
    unfold ofB at h4 hb
    simp only [Bool.and_eq_true, beq_iff_eq] at h4 hb
    unfold lineNe at h2
    exact h2 ⟨by omega, by omega, h3⟩
attribute [local irreducible] DW SeqD DV DOp DC DVX DVJ
theorem sv_rof_dc {p : Prop} (h : p := by first | exact sv | exact ⟨by omega, hup k (by omega) (by unfold ofB; simp_all)⟩ | fail) : p := h
section
attribute [local push_cast 2000] encRoute encRoute_eta
theorem rof_dc (se : List TDot) (fe : List TFence) (ro : List TRoute) (ce : List TCell) (node epoch : Int) (F : Own) : (ro.length ≤ 1000000 ∧ ofUp ro node epoch) → DC Tryz.prog 34 [.agg [.sl (se.map encDot), .sl (fe.map encFence), .sl (ro.map encRoute), .sl (ce.map encCell)], .int .i64 node, .int .i64 epoch] (([] : Own) ++ F) fun d G => d = .sl ((ofT ro node epoch).map V.str) ∧ G = [] ++ F := by
  intro hA
  obtain ⟨hr, hup⟩ := hA
  refine DC.bodyS (n_ := 42) (show Tryz.prog.funcs[34]? = some Tryz.f34 by kernel_rfl) rfl rfl (by rfl) ?_
  simp only [env0, List.cons_append, List.nil_append]
  have kw := ksIs [0, 1, 2, 3, 6, 7, 8, 9, 14, 32]
  have ow := ownIs []
  repeat' (first
    | ((with_reducible apply DW.frzB 1 3); (focus (exact rfl)); (repeat (with_reducible first | refine Out.here ?_ | refine Out.next ?_)); simp only [put_cons, put_nil, Nat.reduceEqDiff, ↓reduceIte, if_true, if_false, reduceCtorEq])
    | ((with_reducible apply DW.lesB 0 7); (focus (exact rfl)); simp only [put_cons, put_nil, Nat.reduceEqDiff, ↓reduceIte, if_true, if_false, reduceCtorEq])
    | ((with_reducible refine DW.loopB 0 (X := Nat) (fun x => x ≤ ro.length) (fun x => [(1, .int .i64 node), (2, .int .i64 epoch), (3, .sp [.sl (se.map encDot), .sl (fe.map encFence), .sl (ro.map encRoute), .sl (ce.map encCell)]), (7, .sl ((ofT (ro.take x) node epoch).map V.str)), (8, .int .i64 x)]) (fun x => ([] : Own)) (fun x => ro.length - x) (0) ?_ ?_ ?_); exact (Nat.zero_le _); (simp [Sub, get, keepL, of_nil, List.take_zero, List.map_nil] <;> fail); (try simp only [List.cons_append, List.nil_append]); refine pl_ ?_; intro k hk; (try simp only [List.cons_append, List.nil_append]); have hwk := of_le ro node epoch k)
    | refine g_ ?_
    | ((with_reducible refine And.intro ?_ ?_); (exact sv_rof_dc))
    | (refine DW.cond (by rfl) ?_ ?_ <;> (first | exact i0_ | (refine ic_ ?_; intro hb)))
    | ((with_reducible refine FVg_cases ?_ ?_) <;> (intro hb; rw [hb]; revert hb; (first | exact i0_ | (refine i_ ?_; intro hb))))
    | refine r_ ?_
    | refine k_ ?_
    | (refine q_ (into_dc _ _ _) ?_ (ha := by exact sv_rof_dc))
    | refine o_ ?_
    | refine f_ ?_
    | with_reducible intro b)
  all_goals first
  | (have hkl : k = ro.length := by omega
     subst hkl
     rw [List.take_length]
     (first | exact fin_ | refine finq_ ?_); done)
  | (have e := of_yes (ro := ro) (k := k) (node := node) (epoch := epoch) (by omega) (by unfold ofB; simp_all)
     refine ⟨k + 1, ?_, ?_, ?_, ?_⟩; (focus omega); (focus omega); (focus (simp only [e]; simp [Sub, get] <;> fail)); exact sub_; done)
  | (have e := of_no (ro := ro) (k := k) (node := node) (epoch := epoch) (by omega) (by unfold ofB; simp_all)
     refine ⟨k + 1, ?_, ?_, ?_, ?_⟩; (focus omega); (focus omega); (focus (simp only [e]; simp [Sub, get] <;> fail)); exact sub_; done)
end
end Go.Proofs.YtfamfamgopchnaaGreatDoor
/- What comes of any table: the walk. -/
namespace Go.Proofs.YtfamfamgopchnaaGreatDoor
open Go.RowKit
set_option linter.unusedSimpArgs false
set_option linter.unusedVariables false
set_option linter.unusedSectionVars false
set_option maxHeartbeats 4000000
set_option maxRecDepth 100000


theorem owners4_dc (t : TTable) (tp : Str) (m : Int) (F : Own) : (TR t ∧ Lite 3072 t ∧ tp.length ≤ 65535) → DC Tryz.prog 37 [.agg [.sl (t.seen.map encDot), .sl (t.fences.map encFence), .sl (t.routes.map encRoute), .sl (t.cells.map encCell)], .str tp] ([knF, knA, knM m] ++ F) fun d G => d = .sl ((wantL t.routes tp 16).map (V.int .i64)) ∧ G = [knF, knA, knM m] ++ F := fun ⟨ht, hL, hp⟩ => by
  have := pownersH_dc t.seen t.fences t.routes t.cells tp m F ⟨hL.p4 (by decide), fun k hk => by have := hL.rf _ (getD_mem hk); omega, by omega⟩
  rwa [owners_wantG (own_nodes ht)] at this
theorem same_self (t : TTable) : decide (t = t) = true := decide_eq_true rfl
theorem strs_self (l : List Str) : decide (l = l) = true := decide_eq_true rfl
theorem ints_self (l : List Int) : decide (l = l) = true := decide_eq_true rfl
def encP (p : Int × Int) : V := .agg [.int .i64 p.1, .int .i64 p.2]
/-- The nodes and epochs that the law asks. -/
def pairsL (n e k j : Int) (i : Nat) : List (Int × Int) := [(n, e), (j.tmod 4, k.tmod 4 + 1), ((i : Int), 1), ((i : Int), 2)]
theorem pairs_len (n e k j : Int) (i : Nat) : (pairsL n e k j i).length = 4 := rfl
theorem pairs_map (n e k j : Int) (i : Nat) : (pairsL n e k j i).map encP = [.agg [.int .i64 n, .int .i64 e], .agg [.int .i64 (j.tmod 4), .int .i64 (k.tmod 4 + 1)], .agg [.int .i64 (i : Int), .int .i64 1], .agg [.int .i64 (i : Int), .int .i64 2]] := rfl
def twoL (a b : Str) : List Str := [a, b]
theorem two_len (a b : Str) : (twoL a b).length = 2 := rfl
theorem two_map (a b : Str) : (twoL a b).map V.str = [.str a, .str b] := rfl
theorem two_le {a b : Str} (ha : a.length ≤ 65535) (hb : b.length ≤ 65535) (u : Nat) : ((twoL a b).getD u default).length ≤ 65535 := by
  unfold twoL
  match u with
  | 0 => exact ha
  | 1 => exact hb
  | u + 2 => exact Nat.zero_le _
theorem of_le2 (ro : List TRoute) (n e : Int) : (ofT ro n e).length ≤ ro.length := by
  have := of_le ro n e ro.length; rw [List.take_length] at this; exact this
theorem top5 {t : TTable} (ht : TR t) (hr : Rng 20 t) (n e : Int) : -1000000000000 ≤ topM t.seen n e ∧ topM t.seen n e ≤ 1000000000000 := by
  have := st_top ht hr n e; omega
attribute [local irreducible] DW SeqD DV DOp DC DVX DVJ routeAddM routeDropM fenceM filterM topicM topM fencedL wantL ofT pairsL twoL
theorem sv_routesTell_dc {p : Prop} (h : p := by first | exact sv | exact ⟨hn20, deeds_ok hl hx30⟩ | exact ⟨htr, hlt1, hfu5, hq5⟩ | exact ⟨hlt9, hfu9, hq5⟩ | exact ⟨hlt1, hq5⟩ | exact ⟨hlt9, hq5⟩ | exact ⟨had, had⟩ | exact ⟨hdr, hdr⟩ | exact ⟨hfe, hfe⟩ | exact ⟨htr, hlt1⟩ | exact hlt8 | exact hlt1 | exact ⟨hrl6, tr_up htr _ _⟩ | exact ⟨hof, hof⟩ | exact ⟨htr, hlt, hnv⟩ | exact ⟨hrl6, fun k hk => hlt.rf _ (getD_mem hk), hnv⟩ | exact ⟨hwn, hwn⟩ | fail) : p := h
section
attribute [local push_cast 2000] encTable encP same_self strs_self ints_self bne_self_eq_false
theorem routesTell_dc (l : List TDeed) (x1 x2 : Int) (f nm : Str) (x5 x6 m : Int) (F : Own) : ((∀ d ∈ l, deedR d) ∧ (0 ≤ x5 ∧ x5 ≤ 255) ∧ (0 ≤ x6 ∧ x6 ≤ 255)) → DC Tryz.prog 6 [.sl (l.map encDeed), .int .i64 x1, .int .i64 x2, .str f, .str nm, .int .u8 x5, .int .u8 x6] ([knF, knA, knM m] ++ F) fun d G => d = .bool true ∧ G = [knF, knA, knM m] ++ F := by
  intro hA
  obtain ⟨hl, hx, hy⟩ := hA
  refine DC.bodyS (n_ := 180) (show Tryz.prog.funcs[6]? = some Tryz.f6 by kernel_rfl) rfl rfl (by rfl) ?_
  simp only [env0, List.cons_append, List.nil_append]
  have kw := ksIs [0, 1, 2, 3, 4, 5, 6, 14, 15, 16, 17, 19, 21, 23, 25, 38, 44, 66, 67, 68, 69, 75, 76, 77, 78, 114, 160, 165, 166, 167, 168, 178]
  have ow := ownIs []
  have dw16 := drIs 16 [] [0, 2, 4, 6, 7, 9, 11, 13, 14, 17, 19, 21, 23, 24, 26, 28, 30, 31]
  have dw19 := drIs 19 [] [0, 2, 4, 5, 6, 8, 10, 11, 12, 15, 17, 19, 20, 21, 23, 25, 26, 30, 32, 34, 35, 36, 38, 40, 41, 42]
  have dw25 := drIs 25 [] [0, 2, 3, 5, 6]
  have hk2 := filterM_mem (k := x5) hx.1; have hfk : (filterM x5).length ≤ 65535 := (fl_okL _ hk2).2.2.2.2.1; have htp := topicM_mem hy.1; have htk : (topicM x6).length ≤ 65535 := (tp_T htp).1.2.2; have q0 := Int.tmod_nonneg 4 hx.1; have q1 := Int.tmod_lt_of_pos x5 (show (0 : Int) < 4 by decide); have q2 := Int.tmod_nonneg 4 hy.1; have q3 := Int.tmod_lt_of_pos x6 (show (0 : Int) < 4 by decide)
  repeat' (first
    | ((with_reducible apply DW.frzB 10 17); (focus (exact rfl)); (repeat (with_reducible first | refine Out.here ?_ | refine Out.next ?_)); simp only [put_cons, put_nil, Nat.reduceEqDiff, ↓reduceIte, if_true, if_false, reduceCtorEq])
    | ((with_reducible apply DW.frzB 13 19); (focus (exact rfl)); (repeat (with_reducible first | refine Out.here ?_ | refine Out.next ?_)); simp only [put_cons, put_nil, Nat.reduceEqDiff, ↓reduceIte, if_true, if_false, reduceCtorEq])
    | ((with_reducible refine DW.loopB 0 (X := Nat) (fun x => x ≤ 3) (fun x => [(1, .int .i64 x1), (2, .int .i64 x2), (3, .str f), (4, .str nm), (5, .int .u8 x5), (6, .int .u8 x6), (15, .sl ((tablesM l).map encTable)), (16, .int .i64 x)]) (fun x => [knF, knA, knM m]) (fun x => 3 - x) (0) ?_ ?_ ?_); exact (Nat.zero_le _); (simp [Sub, get, keepL] <;> fail); (try simp only [List.cons_append, List.nil_append]); refine pl_ ?_; intro i hi; (try simp only [List.cons_append, List.nil_append]); have htn := (st_at hn20 (deeds_ok hl hx30) (k := 0) (by decide)).1; by_cases hi3 : i < 3; (have hst := st_at hn20 (deeds_ok hl hx30) (k := i) hi3; have htr := hst.2.1; have hrg := hst.2.2.1; have hlt := hst.2.2.2; have hlt1 := hlt.mono (show 3072 ≤ 100000 by decide); have hlt8 := hlt.mono (show 3072 ≤ 100000000 by decide); have hlt9 := hlt.mono (show 3072 ≤ 1000000000 by decide); have hrl := hlt.r; have hfl := hlt.f; have hrl6 := Nat.le_trans hrl (show 3072 ≤ 1000000 by decide); have hwn := Nat.le_trans (want_le ((tablesM l).getD i default).routes nm 16) (show 16 ≤ 1000000000 by decide); skip))
    | ((with_reducible refine DW.loopB 2 (X := Nat) (fun x => x ≤ 4) (fun x => [(1, .int .i64 x1), (2, .int .i64 x2), (3, .str f), (4, .str nm), (5, .int .u8 x5), (6, .int .u8 x6), (15, .sl ((tablesM l).map encTable)), (16, .int .i64 i), (17, .sp [.sl (((tablesM l).getD i default).seen.map encDot), .sl (((tablesM l).getD i default).fences.map encFence), .sl (((tablesM l).getD i default).routes.map encRoute), .sl (((tablesM l).getD i default).cells.map encCell)]), (66, .sl ((pairsL x1 x2 x5 x6 i).map encP)), (67, .int .i64 4), (68, .int .i64 x)]) (fun x => [knF, knA, knM m]) (fun x => 4 - x) (0) ?_ ?_ ?_); exact (Nat.zero_le _); (simp [Sub, get, keepL, pairs_map] <;> fail); (try simp only [List.cons_append, List.nil_append]); refine pl_ ?_; intro q hq; (try simp only [List.cons_append, List.nil_append]); have hpl := pairs_len x1 x2 x5 x6 i; have hq5 := top5 htr hrg ((pairsL x1 x2 x5 x6 i).getD q default).1 ((pairsL x1 x2 x5 x6 i).getD q default).2; have hof := Nat.le_trans (of_le2 ((tablesM l).getD i default).routes ((pairsL x1 x2 x5 x6 i).getD q default).1 ((pairsL x1 x2 x5 x6 i).getD q default).2) (Nat.le_trans hrl (show 3072 ≤ 1000000000 by decide)); have hfe := (fence_lite hlt ((pairsL x1 x2 x5 x6 i).getD q default).1 ((pairsL x1 x2 x5 x6 i).getD q default).2).mono (show 3073 ≤ 1000000000 by decide))
    | ((with_reducible refine DW.loopB 4 (X := Nat) (fun x => x ≤ 2) (fun x => [(1, .int .i64 x1), (2, .int .i64 x2), (3, .str f), (4, .str nm), (5, .int .u8 x5), (6, .int .u8 x6), (15, .sl ((tablesM l).map encTable)), (16, .int .i64 i), (17, .sp [.sl (((tablesM l).getD i default).seen.map encDot), .sl (((tablesM l).getD i default).fences.map encFence), .sl (((tablesM l).getD i default).routes.map encRoute), .sl (((tablesM l).getD i default).cells.map encCell)]), (19, .sp [.int .i64 ((pairsL x1 x2 x5 x6 i).getD q default).1, .int .i64 ((pairsL x1 x2 x5 x6 i).getD q default).2]), (66, .sl ((pairsL x1 x2 x5 x6 i).map encP)), (67, .int .i64 4), (68, .int .i64 q), (75, .sl ((twoL f (filterM x5)).map V.str)), (76, .int .i64 2), (77, .int .i64 x)]) (fun x => [knF, knA, knM m]) (fun x => 2 - x) (0) ?_ ?_ ?_); exact (Nat.zero_le _); (simp [Sub, get, keepL, two_map] <;> fail); (try simp only [List.cons_append, List.nil_append]); refine pl_ ?_; intro u hu; (try simp only [List.cons_append, List.nil_append]); have hfl2 := two_len f (filterM x5); have hfu := two_le (a := f) (b := filterM x5) (by omega) hfk u; have hfu5 := Nat.le_trans hfu (show 65535 ≤ 100000 by decide); have hfu9 := Nat.le_trans hfu (show 65535 ≤ 1000000000 by decide); have had := (add_lite hlt ((pairsL x1 x2 x5 x6 i).getD q default).1 ((pairsL x1 x2 x5 x6 i).getD q default).2 hfu).mono (show 3073 ≤ 1000000000 by decide); have hdr := (drop_lite hlt ((pairsL x1 x2 x5 x6 i).getD q default).1 ((pairsL x1 x2 x5 x6 i).getD q default).2 ((twoL f (filterM x5)).getD u default)).mono (show 3073 ≤ 1000000000 by decide))
    | ((with_reducible refine DW.loopB 6 (X := Nat) (fun x => x ≤ 2) (fun x => [(1, .int .i64 x1), (2, .int .i64 x2), (3, .str f), (4, .str nm), (5, .int .u8 x5), (6, .int .u8 x6), (15, .sl ((tablesM l).map encTable)), (16, .int .i64 i), (17, .sp [.sl (((tablesM l).getD i default).seen.map encDot), .sl (((tablesM l).getD i default).fences.map encFence), .sl (((tablesM l).getD i default).routes.map encRoute), .sl (((tablesM l).getD i default).cells.map encCell)]), (165, .sl ((twoL nm (topicM x6)).map V.str)), (166, .int .i64 2), (167, .int .i64 x)]) (fun x => [knF, knA, knM m]) (fun x => 2 - x) (0) ?_ ?_ ?_); exact (Nat.zero_le _); (simp [Sub, get, keepL, two_map] <;> fail); (try simp only [List.cons_append, List.nil_append]); refine pl_ ?_; intro v hv; (try simp only [List.cons_append, List.nil_append]); have hnl2 := two_len nm (topicM x6); have hnv := two_le (a := nm) (b := topicM x6) (by omega) htk v; have hwn := Nat.le_trans (want_le ((tablesM l).getD i default).routes ((twoL nm (topicM x6)).getD v default) 16) (show 16 ≤ 1000000000 by decide))
    | refine g_ ?_
    | ((with_reducible refine And.intro ?_ ?_); (exact sv_routesTell_dc))
    | (refine DW.cond (by rfl) ?_ ?_ <;> (first | exact i0_ | (refine ic_ ?_; intro hb)))
    | ((with_reducible first | refine FVg_cases ?_ ?_ | refine FDg_cases ?_ ?_) <;> (intro hb; rw [hb]; revert hb; (first | exact i0_ | (refine i_ ?_; intro hb))))
    | refine r_ ?_
    | refine d_ ?_
    | refine k_ ?_
    | ((refine dm_ ?_); (first | ((first | refine v_ (known10_dc _ _) ?_ (ha := by exact sv_routesTell_dc) | refine v_ (story10_dc _ _) ?_ (ha := by exact sv_routesTell_dc) | refine v_ (filter_dc _ _) ?_ (ha := by exact sv_routesTell_dc) | refine v_ (topic_dc _ _) ?_ (ha := by exact sv_routesTell_dc) | refine v_ (paddS_dc _ _ _ _ _ _) ?_ (ha := by exact sv_routesTell_dc) | refine v_ (addT_dc _ _ _ _ _) ?_ (ha := by exact sv_routesTell_dc) | refine v_ (same_dc _ _ _) ?_ (ha := by exact sv_routesTell_dc) | refine v_ (pdropT_dc _ _ _ _ _) ?_ (ha := by exact sv_routesTell_dc) | refine v_ (dropT_dc _ _ _ _ _) ?_ (ha := by exact sv_routesTell_dc) | refine v_ (pfenceT_dc _ _ _ _) ?_ (ha := by exact sv_routesTell_dc) | refine v_ (fenceT_dc _ _ _ _) ?_ (ha := by exact sv_routesTell_dc) | refine v_ (pfencedT_dc _ _ _ _) ?_ (ha := by exact sv_routesTell_dc) | refine v_ (rfenced9_dc _ _ _ _ _ _ _) ?_ (ha := by exact sv_routesTell_dc) | refine v_ (pof2_dc _ _ _ _ _ _ _) ?_ (ha := by exact sv_routesTell_dc) | refine v_ (rof_dc _ _ _ _ _ _ _) ?_ (ha := by exact sv_routesTell_dc) | refine v_ (strsH_dc _ _ _) ?_ (ha := by exact sv_routesTell_dc) | refine v_ (owners4_dc _ _ _ _) ?_ (ha := by exact sv_routesTell_dc) | refine v_ (rowners_dc _ _ _ _ _ _) ?_ (ha := by exact sv_routesTell_dc) | refine v_ (ints_dc _ _ _) ?_ (ha := by exact sv_routesTell_dc)))))
    | refine vo_ ?_
    | ((first | refine q_ (known10_dc _ _) ?_ (ha := by exact sv_routesTell_dc) | refine q_ (story10_dc _ _) ?_ (ha := by exact sv_routesTell_dc) | refine q_ (filter_dc _ _) ?_ (ha := by exact sv_routesTell_dc) | refine q_ (topic_dc _ _) ?_ (ha := by exact sv_routesTell_dc) | refine q_ (paddS_dc _ _ _ _ _ _) ?_ (ha := by exact sv_routesTell_dc) | refine q_ (addT_dc _ _ _ _ _) ?_ (ha := by exact sv_routesTell_dc) | refine q_ (same_dc _ _ _) ?_ (ha := by exact sv_routesTell_dc) | refine q_ (pdropT_dc _ _ _ _ _) ?_ (ha := by exact sv_routesTell_dc) | refine q_ (dropT_dc _ _ _ _ _) ?_ (ha := by exact sv_routesTell_dc) | refine q_ (pfenceT_dc _ _ _ _) ?_ (ha := by exact sv_routesTell_dc) | refine q_ (fenceT_dc _ _ _ _) ?_ (ha := by exact sv_routesTell_dc) | refine q_ (pfencedT_dc _ _ _ _) ?_ (ha := by exact sv_routesTell_dc) | refine q_ (rfenced9_dc _ _ _ _ _ _ _) ?_ (ha := by exact sv_routesTell_dc) | refine q_ (pof2_dc _ _ _ _ _ _ _) ?_ (ha := by exact sv_routesTell_dc) | refine q_ (rof_dc _ _ _ _ _ _ _) ?_ (ha := by exact sv_routesTell_dc) | refine q_ (strsH_dc _ _ _) ?_ (ha := by exact sv_routesTell_dc) | refine q_ (owners4_dc _ _ _ _) ?_ (ha := by exact sv_routesTell_dc) | refine q_ (rowners_dc _ _ _ _ _ _) ?_ (ha := by exact sv_routesTell_dc) | refine q_ (ints_dc _ _ _) ?_ (ha := by exact sv_routesTell_dc)))
    | (refine p_ (few10_dc _ _) ?_ (ha := by exact sv_routesTell_dc); rintro d H1 (⟨rfl, ⟨hn20, hx30⟩, rfl⟩ | ⟨rfl, rfl⟩) <;> refine s_ ?_)
    | refine o_ ?_
    | refine f_ ?_
    | refine vm_ ?_
    | ((fail_if_success (have zz := b1)); with_reducible intro b1)
    | ((fail_if_success (have zz := b2)); with_reducible intro b2)
    | with_reducible intro b)
  all_goals first
  | ((first | exact fin_ | refine finq_ ?_); done)
  | (exfalso; omega)
  | (refine ⟨u + 1, ?_, ?_, ?_, ?_⟩; (focus omega); (focus omega); (focus (simp [Sub, get] <;> fail)); exact sub_; done)
  | (refine ⟨v + 1, ?_, ?_, ?_, ?_⟩; (focus omega); (focus omega); (focus (simp [Sub, get] <;> fail)); exact sub_; done)
  | (refine ⟨q + 1, ?_, ?_, ?_, ?_⟩; (focus omega); (focus omega); (focus (simp [Sub, get] <;> fail)); exact sub_; done)
  | (refine ⟨i + 1, ?_, ?_, ?_, ?_⟩; (focus omega); (focus omega); (focus (simp [Sub, get] <;> fail)); exact sub_; done)
  | (exact absurd trivial hb)
  | (exfalso; simp_all; done)
end
end Go.Proofs.YtfamfamgopchnaaGreatDoor
