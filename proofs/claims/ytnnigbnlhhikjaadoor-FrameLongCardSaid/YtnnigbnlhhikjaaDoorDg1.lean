/- Sums of texts, buckets, where two lists differ. -/
import Derived.Test.YtnnigbnlhhikjaaDoorEn
import Derived.KernelRfl
namespace Go.Proofs.YtnnigbnlhhikjaaDoor
open Go.RowKit
set_option linter.unusedSimpArgs false
set_option linter.unusedVariables false
set_option linter.unusedSectionVars false
set_option maxHeartbeats 4000000
set_option maxRecDepth 100000
attribute [local irreducible] DW SeqD DV DOp DC


/-- One round of the sum. -/
def fnvN (h : Int) (c : UInt8) : Int := IntKind.u64.wrap (IntKind.u64.wrap (BitVec.ofInt IntKind.u64.bits h ^^^ BitVec.ofInt IntKind.u64.bits (c.toNat : Int)).toNat * 1099511628211)
def fnvV (s : List UInt8) : Int := s.foldl fnvN 14695981039346656037
def bucketV (s : List UInt8) : Int := (fnvV s).tmod 8
theorem wrap_b (n : Int) : 0 ≤ IntKind.u64.wrap n ∧ IntKind.u64.wrap n ≤ 18446744073709551615 := by simp [IntKind.wrap, IntKind.bits, IntKind.signed]; omega
theorem fnvN_b (h : Int) (c : UInt8) : 0 ≤ fnvN h c ∧ fnvN h c ≤ 18446744073709551615 := wrap_b _
theorem fold_b : ∀ (s : List UInt8) (h : Int), 0 ≤ h ∧ h ≤ 18446744073709551615 → 0 ≤ s.foldl fnvN h ∧ s.foldl fnvN h ≤ 18446744073709551615
  | [], _, hh => hh
  | c :: s, h, _ => fold_b s _ (fnvN_b h c)
theorem fnv_b (s : List UInt8) : 0 ≤ fnvV s ∧ fnvV s ≤ 18446744073709551615 := fold_b s _ (by decide)
theorem fnv_snoc (s : List UInt8) (c : UInt8) : fnvV (s ++ [c]) = fnvN (fnvV s) c := by simp [fnvV]
theorem take_snoc (s : List UInt8) (k : Nat) (h : k < s.length) : s.take (k + 1) = s.take k ++ [s.getD k 0] := by
  rw [List.take_add_one]; simp [List.getD_eq_getElem?_getD, h]
theorem fnv_next (s : List UInt8) (k : Nat) (h : k < s.length) : fnvV (s.take (k + 1)) = fnvN (fnvV (s.take k)) (s.getD k 0) := by rw [take_snoc s k h, fnv_snoc]
theorem wrapU8 (b : UInt8) : IntKind.u64.wrap (b.toNat : Int) = (b.toNat : Int) := wrap_u64 _ (by omega) (by have := b.toNat_lt; omega)
theorem bucket_b (s : List UInt8) : 0 ≤ bucketV s ∧ bucketV s < 8 := ⟨Int.tmod_nonneg 8 (fnv_b s).1, Int.tmod_lt_of_pos _ (by decide)⟩
theorem byte_back (c : UInt8) : byteOf (.int .u8 (c.toNat : Int)) = c := byteOf_u8 c
theorem fnvUn (h : Int) (c : UInt8) : IntKind.u64.wrap (IntKind.u64.wrap (BitVec.ofInt IntKind.u64.bits h ^^^ BitVec.ofInt IntKind.u64.bits (c.toNat : Int)).toNat * 1099511628211) = fnvN h c := rfl
theorem fnv0 : fnvV [] = 14695981039346656037 := rfl
/-- Where two lists differ, as far as the k-th. -/
def differK (a b : List Int) (k : Nat) : List Int := ((List.range k).filter fun i => decide (a.length ≠ b.length) || a.getD i default != b.getD i default).map fun (i : Nat) => (i : Int)
theorem differ_more (a b : List Int) (k : Nat) : differK a b (k + 1) = differK a b k ++ if (decide (a.length ≠ b.length) || a.getD k default != b.getD k default) = true then [(k : Int)] else [] := by
  unfold differK
  rw [List.range_succ, List.filter_append, List.map_append]
  congr 1
  cases h : (decide (a.length ≠ b.length) || a.getD k default != b.getD k default) with
  | true => simp only [List.filter_cons, h, if_true, List.filter_nil, List.map_cons, List.map_nil]
  | false => simp only [List.filter_cons, h, List.filter_nil, Bool.false_eq_true, if_false, List.map_nil]
theorem differ_yes (a b : List Int) (k : Nat) (h : a.length ≠ b.length ∨ a.getD k default ≠ b.getD k default) : differK a b (k + 1) = differK a b k ++ [(k : Int)] := by
  rw [differ_more, if_pos]
  rw [Bool.or_eq_true]
  rcases h with h | h
  · exact .inl (decide_eq_true h)
  · exact .inr (bne_iff_ne.2 h)
theorem differ_no (a b : List Int) (k : Nat) (h : a.length = b.length) (h' : a.getD k default = b.getD k default) : differK a b (k + 1) = differK a b k := by
  rw [differ_more, if_neg, List.append_nil]
  rw [Bool.or_eq_true]
  rintro (h1 | h1)
  · exact of_decide_eq_true h1 h
  · exact bne_iff_ne.1 h1 h'
theorem differ_len (a b : List Int) (k : Nat) : (differK a b k).length ≤ k := by
  unfold differK; rw [List.length_map]; exact Nat.le_trans (List.length_filter_le _ _) (by simp)
def encI (x : Int) : V := .int .i64 x
def encU (x : Int) : V := .int .u64 x
/-- What ten empty builders hold. -/
abbrev z20 : List V := [.raw (.pointer none), .gs (.slice none 0 0) [], .raw (.pointer none), .gs (.slice none 0 0) [], .raw (.pointer none), .gs (.slice none 0 0) [], .raw (.pointer none), .gs (.slice none 0 0) [], .raw (.pointer none), .gs (.slice none 0 0) [], .raw (.pointer none), .gs (.slice none 0 0) [], .raw (.pointer none), .gs (.slice none 0 0) [], .raw (.pointer none), .gs (.slice none 0 0) [], .raw (.pointer none), .gs (.slice none 0 0) [], .raw (.pointer none), .gs (.slice none 0 0) []]
theorem z20_at (k : Nat) (h : k < 10) : z20.getD (k * 2 + 1) .any = .gs (.slice none 0 0) [] := by
  match k, h with
  | 0, _ => rfl
  | 1, _ => rfl
  | 2, _ => rfl
  | 3, _ => rfl
  | 4, _ => rfl
  | 5, _ => rfl
  | 6, _ => rfl
  | 7, _ => rfl
  | 8, _ => rfl
  | 9, _ => rfl
theorem z20_len : z20.length = 20 := rfl
theorem getD_drop' (l : List V) (n i : Nat) (d : V) : (l.drop n).getD i d = l.getD (n + i) d := by simp [List.getD_eq_getElem?_getD, List.getElem?_drop]
theorem fnv_dc (s : List UInt8) (F : Own) : (s.length ≤ 1000000000000) → DC Tryd.prog 11 [.str s] (([] : Own) ++ F) fun d G => d = .int .u64 (fnvV s) ∧ G = [] ++ F := by
  intro hA
  have hs := hA
  refine DC.bodyS (n_ := 19) (show Tryd.prog.funcs[11]? = some Tryd.f11 by kernel_rfl) rfl rfl (by rfl) ?_
  simp only [env0, List.cons_append, List.nil_append]
  repeat' (first
    | ((with_reducible refine DW.loopB 0 (X := Nat) (fun x => x ≤ s.length) (fun x => [(0, .str s), (3, .int .u64 (fnvV (s.take x))), (6, .int .i64 s.length), (7, .int .i64 x)]) (fun x => ([] : Own)) (fun x => s.length - x) (0) ?_ ?_ ?_); exact (Nat.zero_le _); (simp [Sub, get, keepL, fnv0] <;> fail); (try simp only [List.cons_append, List.nil_append]); (repeat (first | (with_reducible refine Pull.nil ?_) | (with_reducible refine Pull.cons ?_) | (with_reducible refine Out.here ?_) | (with_reducible refine Out.next ?_))); intro k hk; (try simp only [List.cons_append, List.nil_append]))
    | with_reducible refine DW.sq ?_
    | with_reducible refine DW.block ?_
    | with_reducible refine DW.skip ?_
    | with_reducible refine DW.exit ?_
    | ((with_reducible refine DW.ret ?_))
    | with_reducible refine then_n ?_
    | with_reducible refine then_x ?_
    | with_reducible refine then_r ?_
    | with_reducible refine blk_n ?_
    | with_reducible refine blk_r ?_
    | with_reducible refine blk_x ?_
    | with_reducible refine blk_y (by decide) ?_
    | with_reducible refine Next.go ?_
    | with_reducible refine SeqD.nil ?_
    | with_reducible refine DV.nil ?_
    | ((with_reducible refine And.intro ?_ ?_); (first | exact True.intro | omega | assumption | (simp <;> fail) | (simp; omega) | (refine ⟨?_, ?_⟩ <;> first | omega | assumption | (simp <;> fail) | (simp; omega)) | (refine ⟨?_, ?_, ?_⟩ <;> first | omega | assumption | (simp <;> fail) | (simp; omega))))
    | ((with_reducible refine DW.ct ?_ ?_); (simp only [opd_tmp, opd_const, ofConst, ofConst1, get_cons, Nat.reduceEqDiff, ↓reduceIte, if_true, if_false] <;> fail))
    | ((with_reducible refine DW.cf ?_ ?_); (simp only [opd_tmp, opd_const, ofConst, ofConst1, get_cons, Nat.reduceEqDiff, ↓reduceIte, if_true, if_false] <;> fail))
    | (refine DW.cond (by rfl) (fun hb => ?_) (fun hb => ?_) <;> (try simp only [decide_eq_true_eq, decide_eq_false_iff_not, beq_iff_eq, bne_iff_ne, ne_eq, beq_eq_false_iff_ne, bne_eq_false_iff_eq, Bool.and_eq_true, Bool.and_true, Bool.not_eq_true', Bool.not_eq_false', Int.not_lt, Int.not_le, not_and, Bool.not_eq_eq_eq_not, Bool.not_true, Bool.not_false, tEq, fEq, Bool.not_eq_true, Bool.not_eq_false, Int.reduceBEq, Int.reduceBNe, Int.reduceEq] at hb; try (exfalso; omega)))
    | ((first | ((with_reducible refine DW.regK [0, 2, 3, 4, 6, 7, 8] (by kernel_rfl) ?_); refine SeqD.go (own := []) _ _ ?_) | (with_reducible refine ret_r rfl ?_) | (with_reducible refine ret_n rfl ?_) | ((with_reducible refine FVg_cases (fun hb => ?_) (fun hb => ?_)) <;> (rw [hb]; try simp only [decide_eq_true_eq, decide_eq_false_iff_not, beq_iff_eq, bne_iff_ne, ne_eq, beq_eq_false_iff_ne, bne_eq_false_iff_eq, Bool.and_eq_true, Bool.and_true, Bool.not_eq_true', Bool.not_eq_false', Int.not_lt, Int.not_le, not_and, Bool.not_eq_eq_eq_not, Bool.not_true, Bool.not_false, tEq, fEq, Bool.not_eq_true, Bool.not_eq_false, Int.reduceBEq, Int.reduceBNe, Int.reduceEq] at hb; try (exfalso; omega))) | ((with_reducible first | refine SeqD.opF [] rfl ?_ | refine SeqD.opgF [] rfl rfl ?_); (first | (refine DOp.alloc_ rfl ?_) | (refine DOp.box_ rfl ?_) | (refine DOp.list_ rfl ?_) | (refine DOp.store_ rfl rfl ?_; (repeat (first | (with_reducible refine OnB.here ?_) | (with_reducible refine OnB.mid ?_) | (with_reducible refine OnB.next ?_)))) | (refine DOp.load_ rfl rfl ?_; (repeat (first | (with_reducible refine OnB.here ?_) | (with_reducible refine OnB.mid ?_) | (with_reducible refine OnB.next ?_)))) | (refine DOp.loada_ rfl rfl ?_; (repeat (first | (with_reducible refine OnA.here ?_) | (with_reducible refine OnA.next ?_)))) | (refine DOp.storea_ rfl rfl ?_; (repeat (first | (with_reducible refine OnA.here ?_) | (with_reducible refine OnA.next ?_)))) | (refine DOp.appa_ rfl rfl rfl ?_; (repeat (first | (with_reducible refine OnA.here ?_) | (with_reducible refine OnA.next ?_)))) | (refine DOp.appz_ rfl rfl rfl ?_; (repeat (first | (with_reducible refine OnT.here ?_) | (with_reducible refine OnT.next ?_)))) | (refine DOp.append0_ rfl rfl rfl ?_) | (refine DOp.make_ rfl rfl rfl ?_) | (refine DOp.make0_ rfl rfl rfl ?_) | (refine DOp.mkmap_ rfl ?_) | (refine DOp.convb_ rfl rfl ?_) | (refine DOp.usd0_ rfl rfl ?_) | (refine DOp.ustr0_ rfl rfl rfl ?_)))) <;> (simp (maxSteps := 1000000) (disch := omega) only [push_cast, ↓reduceIte, reduceCtorEq, Nat.reduceAdd, Nat.reduceMul, Nat.reduceLT, Nat.reduceLeDiff, Nat.reduceEqDiff, Nat.reduceSub, Int.reduceToNat, Int.reduceLT, Int.reduceLE, Int.reduceAdd, Int.reduceSub, Int.reduceMul, Int.reduceNeg, Nat.reduceBEq, Int.reduceBEq, Int.reduceBNe, Nat.reduceBNe, Int.reduceEq, u8, wrapU8]))
    | with_reducible intro b)
  all_goals first
  | (refine ⟨k + 1, ?_, ?_, ?_, ?_⟩; (((try simp only); omega)); (((try simp only); omega)); (simp [Sub, get, fnv_next s k (by omega), fnvN] <;> (fail)); (try dsimp only); (repeat (first | (with_reducible exact SubP.refl) | (with_reducible exact SubP.nil) | (with_reducible refine SubP.pick ?_) | (with_reducible refine Out.here ?_) | (with_reducible refine Out.next ?_) | (with_reducible refine SubP.drop ?_))))
  | ((refine ⟨_, _, ?_, ⟨rfl, rfl⟩, ?_⟩; (first | exact le.rfl_ | exact le.gs rfl | refine le.of_eq ?_ | refine le.gs ?_); rotate_left; (repeat (first | (with_reducible exact SubP.refl) | (with_reducible exact SubP.nil) | (with_reducible refine SubP.pick ?_) | (with_reducible refine Out.here ?_) | (with_reducible refine Out.next ?_) | (with_reducible refine SubP.drop ?_)))); rw [List.take_of_length_le (by omega)])
theorem bucket_dc (s : List UInt8) (F : Own) : (s.length ≤ 1000000000000) → DC Tryd.prog 10 [.str s] (([] : Own) ++ F) fun d G => d = .int .i64 (bucketV s) ∧ G = [] ++ F := by
  intro hA
  have hs := hA
  refine DC.bodyS (n_ := 7) (show Tryd.prog.funcs[10]? = some Tryd.f10 by kernel_rfl) rfl rfl (by rfl) ?_
  simp only [env0, List.cons_append, List.nil_append]
  have hb := bucket_b s; have hf := fnv_b s; unfold bucketV at hb
  repeat' (first
    | with_reducible refine DW.sq ?_
    | with_reducible refine DW.block ?_
    | with_reducible refine DW.skip ?_
    | with_reducible refine DW.exit ?_
    | ((with_reducible refine DW.ret ?_))
    | with_reducible refine then_n ?_
    | with_reducible refine then_x ?_
    | with_reducible refine then_r ?_
    | with_reducible refine blk_n ?_
    | with_reducible refine blk_r ?_
    | with_reducible refine blk_x ?_
    | with_reducible refine blk_y (by decide) ?_
    | with_reducible refine Next.go ?_
    | with_reducible refine SeqD.nil ?_
    | with_reducible refine DV.nil ?_
    | ((with_reducible refine And.intro ?_ ?_); (first | exact True.intro | omega | assumption | (simp <;> fail) | (simp; omega) | (refine ⟨?_, ?_⟩ <;> first | omega | assumption | (simp <;> fail) | (simp; omega)) | (refine ⟨?_, ?_, ?_⟩ <;> first | omega | assumption | (simp <;> fail) | (simp; omega))))
    | ((with_reducible refine DW.ct ?_ ?_); (simp only [opd_tmp, opd_const, ofConst, ofConst1, get_cons, Nat.reduceEqDiff, ↓reduceIte, if_true, if_false] <;> fail))
    | ((with_reducible refine DW.cf ?_ ?_); (simp only [opd_tmp, opd_const, ofConst, ofConst1, get_cons, Nat.reduceEqDiff, ↓reduceIte, if_true, if_false] <;> fail))
    | (refine DW.cond (by rfl) (fun hb => ?_) (fun hb => ?_) <;> (try simp only [decide_eq_true_eq, decide_eq_false_iff_not, beq_iff_eq, bne_iff_ne, ne_eq, beq_eq_false_iff_ne, bne_eq_false_iff_eq, Bool.and_eq_true, Bool.and_true, Bool.not_eq_true', Bool.not_eq_false', Int.not_lt, Int.not_le, not_and, Bool.not_eq_eq_eq_not, Bool.not_true, Bool.not_false, tEq, fEq, Bool.not_eq_true, Bool.not_eq_false, Int.reduceBEq, Int.reduceBNe, Int.reduceEq] at hb; try (exfalso; omega)))
    | ((first | ((with_reducible refine DW.regK [0, 2] (by kernel_rfl) ?_); refine SeqD.go (own := []) _ _ ?_) | (with_reducible refine ret_r rfl ?_) | (with_reducible refine ret_n rfl ?_) | ((with_reducible refine FVg_cases (fun hb => ?_) (fun hb => ?_)) <;> (rw [hb]; try simp only [decide_eq_true_eq, decide_eq_false_iff_not, beq_iff_eq, bne_iff_ne, ne_eq, beq_eq_false_iff_ne, bne_eq_false_iff_eq, Bool.and_eq_true, Bool.and_true, Bool.not_eq_true', Bool.not_eq_false', Int.not_lt, Int.not_le, not_and, Bool.not_eq_eq_eq_not, Bool.not_true, Bool.not_false, tEq, fEq, Bool.not_eq_true, Bool.not_eq_false, Int.reduceBEq, Int.reduceBNe, Int.reduceEq] at hb; try (exfalso; omega))) | ((with_reducible first | refine SeqD.opF [] rfl ?_ | refine SeqD.opgF [] rfl rfl ?_); (first | (apply DOp.callq_ rfl rfl (h := fnv_dc _ _); (repeat (first | exact Les.nil | refine Les.cons le.rfl_ ?_ | refine Les.cons (le.gs rfl) ?_ | refine Les.cons (le.gs List.map_nil.symm) ?_)); (repeat (first | (with_reducible exact Pulled.nil) | (with_reducible apply Pulled.cons) | (with_reducible exact Took.here) | (with_reducible apply Took.next))); refine And.intro ?_ ?_; (first | exact True.intro | omega | assumption | (simp <;> fail) | (simp; omega) | (refine ⟨?_, ?_⟩ <;> first | omega | assumption | (simp <;> fail) | (simp; omega)) | (refine ⟨?_, ?_, ?_⟩ <;> first | omega | assumption | (simp <;> fail) | (simp; omega))); rintro d rfl) | (refine DOp.alloc_ rfl ?_) | (refine DOp.box_ rfl ?_) | (refine DOp.list_ rfl ?_) | (refine DOp.store_ rfl rfl ?_; (repeat (first | (with_reducible refine OnB.here ?_) | (with_reducible refine OnB.mid ?_) | (with_reducible refine OnB.next ?_)))) | (refine DOp.load_ rfl rfl ?_; (repeat (first | (with_reducible refine OnB.here ?_) | (with_reducible refine OnB.mid ?_) | (with_reducible refine OnB.next ?_)))) | (refine DOp.loada_ rfl rfl ?_; (repeat (first | (with_reducible refine OnA.here ?_) | (with_reducible refine OnA.next ?_)))) | (refine DOp.storea_ rfl rfl ?_; (repeat (first | (with_reducible refine OnA.here ?_) | (with_reducible refine OnA.next ?_)))) | (refine DOp.appa_ rfl rfl rfl ?_; (repeat (first | (with_reducible refine OnA.here ?_) | (with_reducible refine OnA.next ?_)))) | (refine DOp.appz_ rfl rfl rfl ?_; (repeat (first | (with_reducible refine OnT.here ?_) | (with_reducible refine OnT.next ?_)))) | (refine DOp.append0_ rfl rfl rfl ?_) | (refine DOp.make_ rfl rfl rfl ?_) | (refine DOp.make0_ rfl rfl rfl ?_) | (refine DOp.mkmap_ rfl ?_) | (refine DOp.convb_ rfl rfl ?_) | (refine DOp.usd0_ rfl rfl ?_) | (refine DOp.ustr0_ rfl rfl rfl ?_)))) <;> (simp (maxSteps := 1000000) (disch := omega) only [push_cast, ↓reduceIte, reduceCtorEq, Nat.reduceAdd, Nat.reduceMul, Nat.reduceLT, Nat.reduceLeDiff, Nat.reduceEqDiff, Nat.reduceSub, Int.reduceToNat, Int.reduceLT, Int.reduceLE, Int.reduceAdd, Int.reduceSub, Int.reduceMul, Int.reduceNeg, Nat.reduceBEq, Int.reduceBEq, Int.reduceBNe, Nat.reduceBNe, Int.reduceEq]))
    | with_reducible intro b)
  (refine ⟨_, _, ?_, ⟨rfl, rfl⟩, ?_⟩; (first | exact le.rfl_ | exact le.gs rfl | refine le.of_eq ?_ | refine le.gs ?_); rotate_left; (repeat (first | (with_reducible exact SubP.refl) | (with_reducible exact SubP.nil) | (with_reducible refine SubP.pick ?_) | (with_reducible refine Out.here ?_) | (with_reducible refine Out.next ?_) | (with_reducible refine SubP.drop ?_))))
  all_goals rfl
theorem differ_dc (la lb : List Int) (F : Own) : (la.length ≤ 1000000000000 ∧ lb.length ≤ 1000000000000) → DC Tryd.prog 26 [.sl (la.map encU), .sl (lb.map encU)] (([] : Own) ++ F) fun d G => d = .sl ((differK la lb (max la.length lb.length)).map encI) ∧ G = [] ++ F := by
  intro hA
  obtain ⟨ha, hb⟩ := hA
  refine DC.bodyS (n_ := 37) (show Tryd.prog.funcs[26]? = some Tryd.f26 by kernel_rfl) rfl rfl (by rfl) ?_
  simp only [env0, List.cons_append, List.nil_append]
  refine DW.tail0 1 ?_
  repeat' (first
    | ((with_reducible refine DW.loopB 0 (X := Nat × Value) (fun x => x.1 ≤ max la.length lb.length) (fun x => [(0, .sl (la.map encU)), (1, .sl (lb.map encU)), (5, .gs x.2 ((differK la lb x.1).map encI)), (11, .int .i64 (max (la.length : Int) (lb.length : Int))), (12, .int .i64 x.1)]) (fun x => .tail 1 x.2 :: ([] : Own)) (fun x => max la.length lb.length - x.1) ((0, .slice none 0 0)) ?_ ?_ ?_); exact (Nat.zero_le _); (simp [Sub, get, keepL, differK, List.range_zero] <;> fail); (try simp only [List.cons_append, List.nil_append]); (repeat (first | (with_reducible refine Pull.nil ?_) | (with_reducible refine Pull.cons ?_) | (with_reducible refine Out.here ?_) | (with_reducible refine Out.next ?_))); intro ⟨k, v⟩ hx; (try simp only [List.cons_append, List.nil_append]); have hlk := differ_len la lb k; simp only at hx)
    | with_reducible refine DW.sq ?_
    | with_reducible refine DW.block ?_
    | with_reducible refine DW.skip ?_
    | with_reducible refine DW.exit ?_
    | ((with_reducible refine DW.ret ?_))
    | with_reducible refine then_n ?_
    | with_reducible refine then_x ?_
    | with_reducible refine then_r ?_
    | with_reducible refine blk_n ?_
    | with_reducible refine blk_r ?_
    | with_reducible refine blk_x ?_
    | with_reducible refine blk_y (by decide) ?_
    | with_reducible refine Next.go ?_
    | with_reducible refine SeqD.nil ?_
    | with_reducible refine DV.nil ?_
    | ((with_reducible refine And.intro ?_ ?_); (first | exact True.intro | omega | assumption | (simp <;> fail) | (simp; omega) | (refine ⟨?_, ?_⟩ <;> first | omega | assumption | (simp <;> fail) | (simp; omega)) | (refine ⟨?_, ?_, ?_⟩ <;> first | omega | assumption | (simp <;> fail) | (simp; omega))))
    | ((with_reducible refine DW.ct ?_ ?_); (simp only [opd_tmp, opd_const, ofConst, ofConst1, get_cons, Nat.reduceEqDiff, ↓reduceIte, if_true, if_false] <;> fail))
    | ((with_reducible refine DW.cf ?_ ?_); (simp only [opd_tmp, opd_const, ofConst, ofConst1, get_cons, Nat.reduceEqDiff, ↓reduceIte, if_true, if_false] <;> fail))
    | (refine DW.cond (by rfl) (fun hb => ?_) (fun hb => ?_) <;> (try simp only [decide_eq_true_eq, decide_eq_false_iff_not, beq_iff_eq, bne_iff_ne, ne_eq, beq_eq_false_iff_ne, bne_eq_false_iff_eq, Bool.and_eq_true, Bool.and_true, Bool.not_eq_true', Bool.not_eq_false', Int.not_lt, Int.not_le, not_and, Bool.not_eq_eq_eq_not, Bool.not_true, Bool.not_false, tEq, fEq, Bool.not_eq_true, Bool.not_eq_false, Int.reduceBEq, Int.reduceBNe, Int.reduceEq] at hb; try (exfalso; omega)))
    | ((first | ((with_reducible refine DW.regK [0, 1, 4, 5, 6, 11, 12, 13, 30] (by kernel_rfl) ?_); refine SeqD.go (own := []) _ _ ?_) | ((with_reducible refine DW.drawK (id := 5) [0, 1, 4, 5, 6, 11, 12, 13, 30] [] [9, 13] (by kernel_rfl) (by kernel_rfl) (by kernel_rfl) ?_); refine DV.go [9, 13] [] _ _ _ ?_) | (with_reducible refine ret_r rfl ?_) | (with_reducible refine ret_n rfl ?_) | ((with_reducible refine FVg_cases (fun hb => ?_) (fun hb => ?_)) <;> (rw [hb]; try simp only [decide_eq_true_eq, decide_eq_false_iff_not, beq_iff_eq, bne_iff_ne, ne_eq, beq_eq_false_iff_ne, bne_eq_false_iff_eq, Bool.and_eq_true, Bool.and_true, Bool.not_eq_true', Bool.not_eq_false', Int.not_lt, Int.not_le, not_and, Bool.not_eq_eq_eq_not, Bool.not_true, Bool.not_false, tEq, fEq, Bool.not_eq_true, Bool.not_eq_false, Int.reduceBEq, Int.reduceBNe, Int.reduceEq] at hb; try (exfalso; omega))) | ((with_reducible refine FDg_cases (fun hb => ?_) (fun hb => ?_)) <;> (rw [hb]; try simp only [decide_eq_true_eq, decide_eq_false_iff_not, beq_iff_eq, bne_iff_ne, ne_eq, beq_eq_false_iff_ne, bne_eq_false_iff_eq, Bool.and_eq_true, Bool.and_true, Bool.not_eq_true', Bool.not_eq_false', Int.not_lt, Int.not_le, not_and, Bool.not_eq_eq_eq_not, Bool.not_true, Bool.not_false, tEq, fEq, Bool.not_eq_true, Bool.not_eq_false, Int.reduceBEq, Int.reduceBNe, Int.reduceEq] at hb; try (exfalso; omega))) | ((with_reducible first | refine SeqD.opF [] rfl ?_ | refine SeqD.opgF [] rfl rfl ?_); (first | (refine DOp.alloc_ rfl ?_) | (refine DOp.box_ rfl ?_) | (refine DOp.list_ rfl ?_) | (refine DOp.store_ rfl rfl ?_; (repeat (first | (with_reducible refine OnB.here ?_) | (with_reducible refine OnB.mid ?_) | (with_reducible refine OnB.next ?_)))) | (refine DOp.load_ rfl rfl ?_; (repeat (first | (with_reducible refine OnB.here ?_) | (with_reducible refine OnB.mid ?_) | (with_reducible refine OnB.next ?_)))) | (refine DOp.loada_ rfl rfl ?_; (repeat (first | (with_reducible refine OnA.here ?_) | (with_reducible refine OnA.next ?_)))) | (refine DOp.storea_ rfl rfl ?_; (repeat (first | (with_reducible refine OnA.here ?_) | (with_reducible refine OnA.next ?_)))) | (refine DOp.appa_ rfl rfl rfl ?_; (repeat (first | (with_reducible refine OnA.here ?_) | (with_reducible refine OnA.next ?_)))) | (refine DOp.appz_ rfl rfl rfl ?_; (repeat (first | (with_reducible refine OnT.here ?_) | (with_reducible refine OnT.next ?_)))) | (refine DOp.append0_ rfl rfl rfl ?_) | (refine DOp.make_ rfl rfl rfl ?_) | (refine DOp.make0_ rfl rfl rfl ?_) | (refine DOp.mkmap_ rfl ?_) | (refine DOp.convb_ rfl rfl ?_) | (refine DOp.usd0_ rfl rfl ?_) | (refine DOp.ustr0_ rfl rfl rfl ?_))) | ((with_reducible first | refine DV.mk rfl ?_ | refine DV.mkg rfl rfl ?_); (first | (refine DVop.usd0_ rfl rfl rfl rfl ?_) | (refine DVop.load_ rfl rfl rfl rfl ?_; (repeat (first | (with_reducible refine OnB.here ?_) | (with_reducible refine OnB.mid ?_) | (with_reducible refine OnB.next ?_)))) | (refine DVop.f_ rfl ?_) | ((refine DVop.mv_ rfl ?_); (first | (refine DOp.alloc_ rfl ?_) | (refine DOp.box_ rfl ?_) | (refine DOp.list_ rfl ?_) | (refine DOp.store_ rfl rfl ?_; (repeat (first | (with_reducible refine OnB.here ?_) | (with_reducible refine OnB.mid ?_) | (with_reducible refine OnB.next ?_)))) | (refine DOp.load_ rfl rfl ?_; (repeat (first | (with_reducible refine OnB.here ?_) | (with_reducible refine OnB.mid ?_) | (with_reducible refine OnB.next ?_)))) | (refine DOp.loada_ rfl rfl ?_; (repeat (first | (with_reducible refine OnA.here ?_) | (with_reducible refine OnA.next ?_)))) | (refine DOp.storea_ rfl rfl ?_; (repeat (first | (with_reducible refine OnA.here ?_) | (with_reducible refine OnA.next ?_)))) | (refine DOp.appa_ rfl rfl rfl ?_; (repeat (first | (with_reducible refine OnA.here ?_) | (with_reducible refine OnA.next ?_)))) | (refine DOp.appz_ rfl rfl rfl ?_; (repeat (first | (with_reducible refine OnT.here ?_) | (with_reducible refine OnT.next ?_)))) | (refine DOp.append0_ rfl rfl rfl ?_) | (refine DOp.make_ rfl rfl rfl ?_) | (refine DOp.make0_ rfl rfl rfl ?_) | (refine DOp.mkmap_ rfl ?_) | (refine DOp.convb_ rfl rfl ?_) | (refine DOp.usd0_ rfl rfl ?_) | (refine DOp.ustr0_ rfl rfl rfl ?_)))))) <;> (simp (maxSteps := 1000000) (disch := omega) only [push_cast, ↓reduceIte, reduceCtorEq, Nat.reduceAdd, Nat.reduceMul, Nat.reduceLT, Nat.reduceLeDiff, Nat.reduceEqDiff, Nat.reduceSub, Int.reduceToNat, Int.reduceLT, Int.reduceLE, Int.reduceAdd, Int.reduceSub, Int.reduceMul, Int.reduceNeg, Nat.reduceBEq, Int.reduceBEq, Int.reduceBNe, Nat.reduceBNe, Int.reduceEq, encU, encI]))
    | with_reducible intro b)
  all_goals first
  | (have hC := differ_yes la lb k (by first | (left; omega) | (right; assumption))
     refine ⟨(k + 1, b), ?_, ?_, ?_, ?_⟩; (((try simp only); omega)); (((try simp only); omega)); (simp [Sub, get, hC, encI] <;> (fail)); (try dsimp only); (repeat (first | (with_reducible exact SubP.refl) | (with_reducible exact SubP.nil) | (with_reducible refine SubP.pick ?_) | (with_reducible refine Out.here ?_) | (with_reducible refine Out.next ?_) | (with_reducible refine SubP.drop ?_))); done)
  | (have hC := differ_no la lb k (by omega) (by first | assumption | omega)
     refine ⟨(k + 1, v), ?_, ?_, ?_, ?_⟩; (((try simp only); omega)); (((try simp only); omega)); (simp [Sub, get, hC, encI] <;> (fail)); (try dsimp only); (repeat (first | (with_reducible exact SubP.refl) | (with_reducible exact SubP.nil) | (with_reducible refine SubP.pick ?_) | (with_reducible refine Out.here ?_) | (with_reducible refine Out.next ?_) | (with_reducible refine SubP.drop ?_))); done)
  | (have hk : k = max la.length lb.length := by omega
     subst hk
     (refine ⟨_, _, ?_, ⟨rfl, rfl⟩, ?_⟩; (first | exact le.rfl_ | exact le.gs rfl | refine le.of_eq ?_ | refine le.gs ?_); rotate_left; (repeat (first | (with_reducible exact SubP.refl) | (with_reducible exact SubP.nil) | (with_reducible refine SubP.pick ?_) | (with_reducible refine Out.here ?_) | (with_reducible refine Out.next ?_) | (with_reducible refine SubP.drop ?_)))))
end Go.Proofs.YtnnigbnlhhikjaaDoor
