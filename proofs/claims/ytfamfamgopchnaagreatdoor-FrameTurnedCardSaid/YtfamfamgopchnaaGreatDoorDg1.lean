/- Sums of texts, buckets, where two lists differ. -/
import Derived.Test.YtfamfamgopchnaaGreatDoorEn
import Derived.KernelRfl
namespace Go.Proofs.YtfamfamgopchnaaGreatDoor
open Go.RowKit
set_option linter.unusedSimpArgs false
set_option linter.unusedVariables false
set_option linter.unusedSectionVars false
set_option maxHeartbeats 4000000
set_option maxRecDepth 100000
attribute [local irreducible] DW SeqD DV DOp DC DVX


/-- One round of the sum. -/
def fnvN (h : Int) (c : UInt8) : Int := IntKind.u64.wrap (IntKind.u64.wrap (BitVec.ofInt IntKind.u64.bits h ^^^ BitVec.ofInt IntKind.u64.bits (c.toNat : Int)).toNat * 1099511628211)
def fnvV (s : List UInt8) : Int := s.foldl fnvN 14695981039346656037
def bucketV (s : List UInt8) : Int := (fnvV s).tmod 8
theorem wrap_b (n : Int) : 0 ≤ IntKind.u64.wrap n ∧ IntKind.u64.wrap n ≤ 18446744073709551615 := by simp [IntKind.wrap, IntKind.bits, IntKind.signed]; omega
theorem fnvN_b (h : Int) (c : UInt8) : 0 ≤ fnvN h c ∧ fnvN h c ≤ 18446744073709551615 := wrap_b _
theorem fold_b : ∀ (s : List UInt8) (h : Int), 0 ≤ h ∧ h ≤ 18446744073709551615 → 0 ≤ s.foldl fnvN h ∧ s.foldl fnvN h ≤ 18446744073709551615
  | [], _, hh => hh
  | c :: s, h, _ => fold_b s _ (fnvN_b h c)
theorem fnv_b (s : List UInt8) : 0 ≤ fnvV s ∧ fnvV s ≤ 18446744073709551615 := fold_b s _ (by decide)
theorem fnv_snoc (s : List UInt8) (c : UInt8) : fnvV (s ++ [c]) = fnvN (fnvV s) c := by simp [fnvV]
theorem take_snoc (s : List UInt8) (k : Nat) (h : k < s.length) : s.take (k + 1) = s.take k ++ [s.getD k 0] := by
  rw [List.take_add_one]; simp [List.getD_eq_getElem?_getD, h]
theorem fnv_next (s : List UInt8) (k : Nat) (h : k < s.length) : fnvV (s.take (k + 1)) = fnvN (fnvV (s.take k)) (s.getD k 0) := by rw [take_snoc s k h, fnv_snoc]
theorem wrapU8 (b : UInt8) : IntKind.u64.wrap (b.toNat : Int) = (b.toNat : Int) := wrap_u64 _ (by omega) (by have := b.toNat_lt; omega)
theorem bucket_b (s : List UInt8) : 0 ≤ bucketV s ∧ bucketV s < 8 := ⟨Int.tmod_nonneg 8 (fnv_b s).1, Int.tmod_lt_of_pos _ (by decide)⟩
theorem byte_back (c : UInt8) : byteOf (.int .u8 (c.toNat : Int)) = c := byteOf_u8 c
theorem fnvUn (h : Int) (c : UInt8) : IntKind.u64.wrap (IntKind.u64.wrap (BitVec.ofInt IntKind.u64.bits h ^^^ BitVec.ofInt IntKind.u64.bits (c.toNat : Int)).toNat * 1099511628211) = fnvN h c := rfl
theorem fnv0 : fnvV [] = 14695981039346656037 := rfl
/-- Where two lists differ, as far as the k-th. -/
def differK (a b : List Int) (k : Nat) : List Int := ((List.range k).filter fun i => decide (a.length ≠ b.length) || a.getD i default != b.getD i default).map fun (i : Nat) => (i : Int)
theorem differ_more (a b : List Int) (k : Nat) : differK a b (k + 1) = differK a b k ++ if (decide (a.length ≠ b.length) || a.getD k default != b.getD k default) = true then [(k : Int)] else [] := by
  unfold differK
  rw [List.range_succ, List.filter_append, List.map_append]
  congr 1
  cases h : (decide (a.length ≠ b.length) || a.getD k default != b.getD k default) with
  | true => simp only [List.filter_cons, h, if_true, List.filter_nil, List.map_cons, List.map_nil]
  | false => simp only [List.filter_cons, h, List.filter_nil, Bool.false_eq_true, if_false, List.map_nil]
theorem differ_yes (a b : List Int) (k : Nat) (h : a.length ≠ b.length ∨ a.getD k default ≠ b.getD k default) : differK a b (k + 1) = differK a b k ++ [(k : Int)] := by
  rw [differ_more, if_pos]
  rw [Bool.or_eq_true]
  rcases h with h | h
  · exact .inl (decide_eq_true h)
  · exact .inr (bne_iff_ne.2 h)
theorem differ_no (a b : List Int) (k : Nat) (h : a.length = b.length) (h' : a.getD k default = b.getD k default) : differK a b (k + 1) = differK a b k := by
  rw [differ_more, if_neg, List.append_nil]
  rw [Bool.or_eq_true]
  rintro (h1 | h1)
  · exact of_decide_eq_true h1 h
  · exact bne_iff_ne.1 h1 h'
theorem differ_len (a b : List Int) (k : Nat) : (differK a b k).length ≤ k := by
  unfold differK; rw [List.length_map]; exact Nat.le_trans (List.length_filter_le _ _) (by simp)
def encI (x : Int) : V := .int .i64 x
def encU (x : Int) : V := .int .u64 x
/-- What ten empty builders hold. -/
abbrev z20 : List V := [.raw (.pointer none), .gs (.slice none 0 0) [], .raw (.pointer none), .gs (.slice none 0 0) [], .raw (.pointer none), .gs (.slice none 0 0) [], .raw (.pointer none), .gs (.slice none 0 0) [], .raw (.pointer none), .gs (.slice none 0 0) [], .raw (.pointer none), .gs (.slice none 0 0) [], .raw (.pointer none), .gs (.slice none 0 0) [], .raw (.pointer none), .gs (.slice none 0 0) [], .raw (.pointer none), .gs (.slice none 0 0) [], .raw (.pointer none), .gs (.slice none 0 0) []]
theorem z20_at (k : Nat) (h : k < 10) : z20.getD (k * 2 + 1) .any = .gs (.slice none 0 0) [] := by
  match k, h with
  | 0, _ => rfl
  | 1, _ => rfl
  | 2, _ => rfl
  | 3, _ => rfl
  | 4, _ => rfl
  | 5, _ => rfl
  | 6, _ => rfl
  | 7, _ => rfl
  | 8, _ => rfl
  | 9, _ => rfl
theorem z20_len : z20.length = 20 := rfl
theorem getD_drop' (l : List V) (n i : Nat) (d : V) : (l.drop n).getD i d = l.getD (n + i) d := by simp [List.getD_eq_getElem?_getD, List.getElem?_drop]
theorem fnv_dc (s : List UInt8) (F : Own) : (s.length ≤ 1000000000000) → DC Tryz.prog 53 [.str s] (([] : Own) ++ F) fun d G => d = .int .u64 (fnvV s) ∧ G = [] ++ F := by
  intro hA
  have hs := hA
  refine DC.bodyS (n_ := 19) (show Tryz.prog.funcs[53]? = some Tryz.f53 by kernel_rfl) rfl rfl (by rfl) ?_
  simp only [env0, List.cons_append, List.nil_append]
  repeat' (first
    | ((with_reducible refine DW.loopB 0 (X := Nat) (fun x => x ≤ s.length) (fun x => [(0, .str s), (3, .int .u64 (fnvV (s.take x))), (6, .int .i64 s.length), (7, .int .i64 x)]) (fun x => ([] : Own)) (fun x => s.length - x) (0) ?_ ?_ ?_); exact (Nat.zero_le _); (simp [Sub, get, keepL, fnv0] <;> fail); (try simp only [List.cons_append, List.nil_append]); (repeat (with_reducible first | refine Pull.nil ?_ | refine Pull.cons ?_ | refine Out.here ?_ | refine Out.next ?_)); intro k hk; (try simp only [List.cons_append, List.nil_append]))
    | with_reducible first | refine DW.sq ?_ | refine DW.block ?_ | refine DW.skip ?_ | refine DW.exit ?_
    | ((with_reducible refine DW.ret ?_))
    | with_reducible first | refine then_n ?_ | refine then_x ?_ | refine then_r ?_ | refine blk_n ?_ | refine blk_r ?_ | refine blk_x ?_
    | with_reducible refine blk_y (by decide) ?_
    | with_reducible first | refine Next.go ?_ | refine SeqD.nil ?_ | refine DV.nil ?_
    | ((with_reducible refine And.intro ?_ ?_); (exact sv))
    | with_reducible first | refine DW.ct_ ?_ | refine DW.cf_ ?_
    | (refine DW.cond (by rfl) (fun hb => ?_) (fun hb => ?_) <;> (try simp only [hbs, Int.reduceBEq, Int.reduceBNe, Int.reduceEq] at hb; try (exfalso; omega)))
    | ((first | ((with_reducible refine DW.regK [0, 2, 3, 4, 6, 7, 8] (by kernel_rfl) ?_); refine SeqD.go (own := []) _ _ ?_) | ((first | refine Both.imp (fun hb => ?_) (fun hb => ?_) | (with_reducible first | refine FVg_cases (fun hb => ?_) (fun hb => ?_) | refine FDg_cases (fun hb => ?_) (fun hb => ?_)) <;> rw [hb]) <;> (try simp only [hbs, Int.reduceBEq, Int.reduceBNe, Int.reduceEq] at hb; try (exfalso; omega))) | (with_reducible refine ret_r rfl ?_) | ((refine ret_c [.tmp 2] (by rfl) ?_); (try (refine RetK_cell _ _ _ _ _ _ rfl ?_; (repeat (with_reducible first | refine OnB.here ?_ | refine OnB.mid ?_ | refine OnB.next ?_))))) | ((refine RetK_cell _ _ _ _ _ _ rfl ?_); (repeat (with_reducible first | refine OnB.here ?_ | refine OnB.mid ?_ | refine OnB.next ?_))) | (with_reducible refine ret_n rfl ?_) | (first | (fail))) <;> (simp (maxSteps := 1000000) (disch := omega) only [push_cast, ↓reduceIte, reduceCtorEq, Nat.reduceAdd, Nat.reduceMul, Nat.reduceLT, Nat.reduceLeDiff, Nat.reduceEqDiff, Nat.reduceSub, Int.reduceToNat, Int.reduceLT, Int.reduceLE, Int.reduceAdd, Int.reduceSub, Int.reduceMul, Int.reduceNeg, Nat.reduceBEq, Int.reduceBEq, Int.reduceBNe, Nat.reduceBNe, Int.reduceEq, u8, wrapU8]))
    | (with_reducible first | refine SeqD.opF [] rfl ?_ | refine SeqD.opgF [] rfl rfl ?_)
    | with_reducible intro b)
  all_goals first
  | (refine ⟨k + 1, ?_, ?_, ?_, ?_⟩; (((try simp only); omega)); (((try simp only); omega)); (simp [Sub, get, fnv_next s k (by omega), fnvN] <;> (fail)); (try dsimp only); (repeat (with_reducible first | exact SubP.refl | exact SubP.nil | refine SubP.pick ?_ | refine Out.here ?_ | refine Out.next ?_ | refine SubP.drop ?_)))
  | ((refine ⟨_, _, ?_, ⟨rfl, rfl⟩, ?_⟩; (first | exact le.rfl_ | exact le.gs rfl | refine le.of_eq ?_ | refine le.gs ?_); rotate_left; (repeat (with_reducible first | exact SubP.refl | exact SubP.nil | refine SubP.pick ?_ | refine Out.here ?_ | refine Out.next ?_ | refine SubP.drop ?_))); rw [List.take_of_length_le (by omega)])
end Go.Proofs.YtfamfamgopchnaaGreatDoor
