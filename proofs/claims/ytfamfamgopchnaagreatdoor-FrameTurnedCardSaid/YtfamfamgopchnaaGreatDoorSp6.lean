/- A turned byte is told. -/
import Derived.Test.YtfamfamgopchnaaGreatDoorSp5
import Derived.KernelRfl
namespace Go.Proofs.YtfamfamgopchnaaGreatDoor
open Go.RowKit
set_option linter.unusedSimpArgs false
set_option linter.unusedVariables false
set_option linter.unusedSectionVars false
set_option maxHeartbeats 4000000
set_option maxRecDepth 100000
attribute [local irreducible] DW SeqD DV DOp DC DVX

theorem msgZ_dc  (F : Own) : (True) → DC Tryz.prog 58 [.agg [.str [], .sl [], .int .i64 0, .bool false], .agg [.str [], .sl [], .int .i64 0, .bool false]] (([] : Own) ++ F) fun d G => d = .bool true ∧ G = [] ++ F := by
  intro hA
  refine DC.bodyS (n_ := 33) (show Tryz.prog.funcs[58]? = some Tryz.f58 by kernel_rfl) rfl rfl (by rfl) ?_
  simp only [env0, List.cons_append, List.nil_append]
  repeat' (first
    | with_reducible first | refine DW.sq ?_ | refine DW.block ?_ | refine DW.skip ?_ | refine DW.exit ?_
    | ((with_reducible refine DW.ret ?_))
    | with_reducible first | refine then_n ?_ | refine then_x ?_ | refine then_r ?_ | refine blk_n ?_ | refine blk_r ?_ | refine blk_x ?_
    | with_reducible refine blk_y (by decide) ?_
    | with_reducible first | refine Next.go ?_ | refine SeqD.nil ?_ | refine DV.nil ?_
    | ((with_reducible refine And.intro ?_ ?_); (exact sv))
    | with_reducible first | refine DW.ct_ ?_ | refine DW.cf_ ?_
    | (refine DW.cond (by rfl) (fun hb => ?_) (fun hb => ?_) <;> (try simp only [hbs, Int.reduceBEq, Int.reduceBNe, Int.reduceEq] at hb; try (exfalso; omega)))
    | ((first | ((with_reducible refine DW.regK [0, 1, 2, 3, 4] (by kernel_rfl) ?_); refine SeqD.go (own := []) _ _ ?_) | ((first | refine Both.imp (fun hb => ?_) (fun hb => ?_) | (with_reducible first | refine FVg_cases (fun hb => ?_) (fun hb => ?_) | refine FDg_cases (fun hb => ?_) (fun hb => ?_)) <;> rw [hb]) <;> (try simp only [hbs, Int.reduceBEq, Int.reduceBNe, Int.reduceEq] at hb; try (exfalso; omega))) | (with_reducible refine ret_r rfl ?_) | ((refine ret_c [.tmp 4] (by rfl) ?_); (try (refine RetK_cell _ _ _ _ _ _ rfl ?_; (repeat (with_reducible first | refine OnB.here ?_ | refine OnB.mid ?_ | refine OnB.next ?_))))) | ((refine RetK_cell _ _ _ _ _ _ rfl ?_); (repeat (with_reducible first | refine OnB.here ?_ | refine OnB.mid ?_ | refine OnB.next ?_))) | (with_reducible refine ret_n rfl ?_) | (first | (refine DOp.box_ rfl ?_) | (refine DOp.load_ rfl rfl ?_; (repeat (with_reducible first | refine OnB.here ?_ | refine OnB.mid ?_ | refine OnB.next ?_))) | (refine DOp.loada_ rfl rfl ?_; (repeat (with_reducible first | refine OnA.here ?_ | refine OnA.next ?_))))) <;> (simp (maxSteps := 1000000) (disch := omega) only [push_cast, ↓reduceIte, reduceCtorEq, Nat.reduceAdd, Nat.reduceMul, Nat.reduceLT, Nat.reduceLeDiff, Nat.reduceEqDiff, Nat.reduceSub, Int.reduceToNat, Int.reduceLT, Int.reduceLE, Int.reduceAdd, Int.reduceSub, Int.reduceMul, Int.reduceNeg, Nat.reduceBEq, Int.reduceBEq, Int.reduceBNe, Nat.reduceBNe, Int.reduceEq, byteOf_map, isU8_map, eqSelf, beqI]))
    | (with_reducible first | refine SeqD.opF [] rfl ?_ | refine SeqD.opgF [] rfl rfl ?_)
    | with_reducible intro b)
  (refine ⟨_, _, ?_, ⟨rfl, rfl⟩, ?_⟩; (first | exact le.rfl_ | exact le.gs rfl | refine le.of_eq ?_ | refine le.gs ?_); rotate_left; (repeat (with_reducible first | exact SubP.refl | exact SubP.nil | refine SubP.pick ?_ | refine Out.here ?_ | refine Out.next ?_ | refine SubP.drop ?_)))
  all_goals rfl
theorem helpZ_dc  (F : Own) : (True) → DC Tryz.prog 15 [.agg [.int .i64 0, .int .i64 0, .int .i64 0, .int .i64 0, .sl [], .sl [], .sl [], .sl [], .sl [], .sl [], .int .i64 0, .str [], .sl [], .int .i64 0, .bool false], .agg [.int .i64 0, .int .i64 0, .int .i64 0, .int .i64 0, .sl [], .sl [], .sl [], .sl [], .sl [], .sl [], .int .i64 0, .str [], .sl [], .int .i64 0, .bool false]] (([] : Own) ++ F) fun d G => d = .bool true ∧ G = [] ++ F := by
  intro hA
  refine DC.bodyS (n_ := 87) (show Tryz.prog.funcs[15]? = some Tryz.f15 by kernel_rfl) rfl rfl (by rfl) ?_
  simp only [env0, List.cons_append, List.nil_append]
  repeat' (first
    | ((with_reducible refine DW.loopB 0 (X := Nat) (fun x => x ≤ 0) (fun x => [(2, .sp [.int .i64 0, .int .i64 0, .int .i64 0, .int .i64 0, .sl [], .sl [], .sl [], .sl [], .sl [], .sl [], .int .i64 0, .str [], .sl [], .int .i64 0, .bool false]), (3, .sp [.int .i64 0, .int .i64 0, .int .i64 0, .int .i64 0, .sl [], .sl [], .sl [], .sl [], .sl [], .sl [], .int .i64 0, .str [], .sl [], .int .i64 0, .bool false]), (5, .int .i64 x)]) (fun x => ([] : Own)) (fun x => 0 - x) (0) ?_ ?_ ?_); exact (Nat.zero_le _); (simp [Sub, get, keepL] <;> fail); (try simp only [List.cons_append, List.nil_append]); (repeat (with_reducible first | refine Pull.nil ?_ | refine Pull.cons ?_ | refine Out.here ?_ | refine Out.next ?_)); intro k hk; (try simp only [List.cons_append, List.nil_append]))
    | with_reducible first | refine DW.sq ?_ | refine DW.block ?_ | refine DW.skip ?_ | refine DW.exit ?_
    | ((with_reducible refine DW.ret ?_))
    | with_reducible first | refine then_n ?_ | refine then_x ?_ | refine then_r ?_ | refine blk_n ?_ | refine blk_r ?_ | refine blk_x ?_
    | with_reducible refine blk_y (by decide) ?_
    | with_reducible first | refine Next.go ?_ | refine SeqD.nil ?_ | refine DV.nil ?_
    | ((with_reducible refine And.intro ?_ ?_); (exact sv))
    | with_reducible first | refine DW.ct_ ?_ | refine DW.cf_ ?_
    | (refine DW.cond (by rfl) (fun hb => ?_) (fun hb => ?_) <;> (try simp only [hbs, Int.reduceBEq, Int.reduceBNe, Int.reduceEq] at hb; try (exfalso; omega)))
    | ((first | ((with_reducible refine DW.regK [0, 1, 2, 3, 4, 5, 63, 68, 81] (by kernel_rfl) ?_); refine SeqD.go (own := []) _ _ ?_) | ((with_reducible refine DW.drawK (id := 6) [0, 1, 2, 3, 4, 5, 63, 68, 81] [] [1, 4, 6, 9] (by kernel_rfl) (by kernel_rfl) (by kernel_rfl) ?_); refine DV.go [1, 4, 6, 9] [] _ _ _ ?_) | ((first | refine Both.imp (fun hb => ?_) (fun hb => ?_) | (with_reducible first | refine FVg_cases (fun hb => ?_) (fun hb => ?_) | refine FDg_cases (fun hb => ?_) (fun hb => ?_)) <;> rw [hb]) <;> (try simp only [hbs, Int.reduceBEq, Int.reduceBNe, Int.reduceEq] at hb; try (exfalso; omega))) | (with_reducible refine ret_r rfl ?_) | ((refine ret_c [.tmp 4] (by rfl) ?_); (try (refine RetK_cell _ _ _ _ _ _ rfl ?_; (repeat (with_reducible first | refine OnB.here ?_ | refine OnB.mid ?_ | refine OnB.next ?_))))) | ((refine RetK_cell _ _ _ _ _ _ rfl ?_); (repeat (with_reducible first | refine OnB.here ?_ | refine OnB.mid ?_ | refine OnB.next ?_))) | (with_reducible refine ret_n rfl ?_) | ((with_reducible first | refine DV.mk rfl ?_ | refine DV.mkg rfl rfl ?_); (first | ((first | apply DVop.callq_ rfl rfl rfl rfl (h1 := dots0_dc _) | apply DVop.callq_ rfl rfl rfl rfl (h1 := msgZ_dc _) | apply DVop.callq_ rfl rfl rfl rfl (h1 := rsame0_dc _)); (repeat (first | exact Les.nil | refine Les.cons le.rfl_ ?_ | refine Les.cons (le.gs rfl) ?_ | refine Les.cons (le.gs List.map_nil.symm) ?_ | refine Les.cons (le.agg ?_) ?_)); (repeat (with_reducible first | exact Pulled.nil | apply Pulled.cons | exact Took.here | apply Took.next)); refine And.intro ?_ ?_; (exact sv)) | (refine DVop.loada_ rfl rfl rfl rfl ?_; (repeat (with_reducible first | refine OnA.here ?_ | refine OnA.next ?_))) | (refine DVop.load_ rfl rfl rfl rfl ?_; (repeat (with_reducible first | refine OnB.here ?_ | refine OnB.mid ?_ | refine OnB.next ?_))) | (refine DVop.f_ rfl ?_))) | (first | ((first | apply DOp.callq_ rfl rfl (h := dots0_dc _) | apply DOp.callq_ rfl rfl (h := msgZ_dc _) | apply DOp.callq_ rfl rfl (h := rsame0_dc _)); (repeat (first | exact Les.nil | refine Les.cons le.rfl_ ?_ | refine Les.cons (le.gs rfl) ?_ | refine Les.cons (le.gs List.map_nil.symm) ?_ | refine Les.cons (le.agg ?_) ?_)); (repeat (with_reducible first | exact Pulled.nil | apply Pulled.cons | exact Took.here | apply Took.next)); refine And.intro ?_ ?_; (exact sv); rintro d rfl) | (refine DOp.box_ rfl ?_) | (refine DOp.load_ rfl rfl ?_; (repeat (with_reducible first | refine OnB.here ?_ | refine OnB.mid ?_ | refine OnB.next ?_))) | (refine DOp.loada_ rfl rfl ?_; (repeat (with_reducible first | refine OnA.here ?_ | refine OnA.next ?_))))) <;> (simp (maxSteps := 1000000) (disch := omega) only [push_cast, ↓reduceIte, reduceCtorEq, Nat.reduceAdd, Nat.reduceMul, Nat.reduceLT, Nat.reduceLeDiff, Nat.reduceEqDiff, Nat.reduceSub, Int.reduceToNat, Int.reduceLT, Int.reduceLE, Int.reduceAdd, Int.reduceSub, Int.reduceMul, Int.reduceNeg, Nat.reduceBEq, Int.reduceBEq, Int.reduceBNe, Nat.reduceBNe, Int.reduceEq, bneI, beqI]))
    | (with_reducible first | refine SeqD.opF [] rfl ?_ | refine SeqD.opgF [] rfl rfl ?_)
    | ((with_reducible first | refine DV.mk rfl ?_ | refine DV.mkg rfl rfl ?_); (refine DVop.mv_ rfl ?_))
    | with_reducible intro b)
  all_goals first
  | (exfalso; omega)
  | ((refine ⟨_, _, ?_, ⟨rfl, rfl⟩, ?_⟩; (first | exact le.rfl_ | exact le.gs rfl | refine le.of_eq ?_ | refine le.gs ?_); rotate_left; (repeat (with_reducible first | exact SubP.refl | exact SubP.nil | refine SubP.pick ?_ | refine Out.here ?_ | refine Out.next ?_ | refine SubP.drop ?_))); done)
theorem rightE_dc (F : Own) : True → DC Tryz.prog 16 [.agg [.sl [], .sl [], .sl [], .sl []]] (([] : Own) ++ F) fun d G => d = .bool true ∧ G = [] ++ F := fun _ =>
  rightTy_dc emptyT F ⟨⟨Nat.zero_le _, Nat.zero_le _, Nat.zero_le _, Nat.zero_le _, (fun _ h => nomatch h), (fun _ h => nomatch h), (fun _ h => nomatch h)⟩, tr_iff.2 tr_empty⟩
def turnE (i : Nat) : Int := if i < 3 then 21 else 27
theorem turnE_1 {i : Nat} (h : i < 3) : turnE i = 21 := if_pos h
theorem turnE_2 {i : Nat} (h : 3 ≤ i) : turnE i = 27 := if_neg (by omega)
theorem readT_dc (f : TFrame) (i : Nat) (c : UInt8) (F : Own) : (i < (fullBy f).length ∧ c ≠ (fullBy f).getD i 0 ∧ (fullBy f).length ≤ 1048576) → DC Tryz.prog 14 [.sl (((fullBy f).set i c).map u8)] (([] : Own) ++ F) fun d G => d = .tup [.agg [.int .i64 0, .int .i64 0, .int .i64 0, .int .i64 0, .gs (.slice none 0 0) [], .gs (.slice none 0 0) [], .gs (.slice none 0 0) [], .gs (.slice none 0 0) [], .gs (.slice none 0 0) [], .gs (.slice none 0 0) [], .int .i64 0, .str [], .gs (.slice none 0 0) [], .int .i64 0, .bool false], .int .i64 (turnE i)] ∧ G = [] ++ F := fun ⟨hi, hc, hle⟩ => by
  obtain ⟨t1, t2, t3⟩ := full_turned f hi hc rfl
  have hf := fullBy_len f
  by_cases h3 : i < 3
  · rw [turnE_1 h3]
    exact read21_dc _ F ⟨⟨by omega, by omega⟩, t2 h3⟩
  · obtain ⟨m, x, hx, hd, hne⟩ := t3 (by omega)
    rw [turnE_2 (by omega)]
    exact read3_dc _ _ x F ⟨⟨by omega, by omega⟩, m, hd, rfl, hne, hx, by rw [List.length_take]; omega⟩
theorem fle1 {f : TFrame} (h : ((0 ≤ f.fr ∧ f.fr < 16) ∧ (1 ≤ f.ep ∧ f.ep ≤ 2147483647) ∧ (0 ≤ f.at_ ∧ f.at_ ≤ 1099511627776)) ∧ f.kind = 1 ∧ f.sums.length = 10 ∧ f.seen.length ≤ 4000 ∧ rightB f.seen = true) : (fullBy f).length ≤ 1048576 := by
  obtain ⟨_, hk, h1, h2, _⟩ := h
  rw [fullBy_len, rest_1 hk, List.length_append, List.length_append, numsL_len, dotsBy_len, flatBy_len (fun x _ => sumBy_len x)]
  simp only [List.length_cons, List.length_nil]; omega
theorem fle2 {f : TFrame} (h : ((0 ≤ f.fr ∧ f.fr < 16) ∧ (1 ≤ f.ep ∧ f.ep ≤ 2147483647) ∧ (0 ≤ f.at_ ∧ f.at_ ≤ 1099511627776)) ∧ f.kind = 2 ∧ Neat f.tab ∧ Lite 1000000000 f.tab ∧ tabB f.tab = true ∧ (tableBy f.tab).length ≤ 1000000) : (fullBy f).length ≤ 1048576 := by
  obtain ⟨_, hk, _, _, _, h2⟩ := h
  rw [fullBy_len, rest_2 hk]; omega
theorem fle3 {f : TFrame} (h : ((0 ≤ f.fr ∧ f.fr < 16) ∧ (1 ≤ f.ep ∧ f.ep ≤ 2147483647) ∧ (0 ≤ f.at_ ∧ f.at_ ≤ 1099511627776)) ∧ f.kind = 3 ∧ (1 ≤ f.seq ∧ f.seq ≤ 2147483647) ∧ (nameB f.topic = true ∧ f.topic.length ≤ 1000) ∧ (0 ≤ f.qos ∧ f.qos ≤ 2) ∧ f.payload.length ≤ 1000) : (fullBy f).length ≤ 1048576 := by
  obtain ⟨_, hk, _, ⟨_, h1⟩, _, h2⟩ := h
  rw [fullBy_len, rest_3 hk]
  simp only [List.length_append, numsL_len, textBy_len, List.length_cons, List.length_nil]; omega
theorem byte_at {l : Str} {k : Nat} (h : k < l.length) : (List.drop k (l.map u8)).getD 0 .any = .int .u8 ((l.getD k 0).toNat : Int) := by
  rw [dropD, Nat.add_zero, List.getD_eq_getElem?_getD, List.getElem?_map, List.getD_eq_getElem?_getD]; simp [h, u8]
theorem byte_set : ∀ {l : Str} {k : Nat} {c : UInt8}, k < l.length → layV (l.map u8) k [u8 c] = (l.set k c).map u8
  | [], k, c, h => absurd h (Nat.not_lt_zero _)
  | e :: l, 0, c, _ => rfl
  | e :: l, k + 1, c, h => by rw [List.map_cons, lay_cons, byte_set (by simpa using h)]; rfl
theorem byte_turn {l : Str} {k : Nat} {v : Int} (h : k < l.length) : layV (l.map u8) k [.int .u8 (IntKind.u8.wrap ((BitVec.ofInt IntKind.u8.bits ((l.getD k 0).toNat : Int) ^^^ BitVec.ofInt IntKind.u8.bits v).toNat : Int))] = (l.set k (turnC (l.getD k 0) v)).map u8 := by rw [← turn_u8]; exact byte_set h
def deedR (d : TDeed) : Prop := (0 ≤ d.what ∧ d.what ≤ 255) ∧ (0 ≤ d.who ∧ d.who ≤ 255) ∧ (0 ≤ d.k ∧ d.k ≤ 255)
theorem deeds_ok {l : List TDeed} (h : ∀ d ∈ l, deedR d) (h2 : ∀ k, (l.getD k default).x.length ≤ 30) : ∀ d ∈ l, deedOk d := fun d hd => by
  obtain ⟨k, hk, rfl⟩ := mem_getD hd
  obtain ⟨a, b, c⟩ := h _ hd
  exact ⟨a, b, c, h2 k⟩
theorem at_in {q : Int} {m : Nat} (h : 0 ≤ q) (hm : 36 ≤ m) : 0 ≤ q.tmod m ∧ q.tmod m < m := ⟨Int.tmod_nonneg _ h, Int.tmod_lt_of_pos q (by omega)⟩
attribute [local irreducible] fullBy turnE turnC
theorem frameTurned_dc (l : List TDeed) (k a : Int) (x : List UInt8) (q v : Int) (F : Own) : ((∀ d ∈ l, deedR d) ∧ (0 ≤ k ∧ k ≤ 255) ∧ (0 ≤ a ∧ a ≤ 255) ∧ (0 ≤ q ∧ q ≤ 65535) ∧ (0 ≤ v ∧ v ≤ 255)) → DC Tryz.prog 3 [.sl (l.map encDeed), .int .u8 k, .int .u8 a, .sl (x.map u8), .int .u16 q, .int .u8 v] (([] : Own) ++ F) fun d G => d = .bool true ∧ G = [] ++ F := by
  intro hA
  obtain ⟨hl, hk, ha, hq, hv⟩ := hA
  refine DC.bodyS (n_ := 83) (show Tryz.prog.funcs[3]? = some Tryz.f3 by kernel_rfl) rfl rfl (by rfl) ?_
  simp only [env0, List.cons_append, List.nil_append]
  repeat' (first
    | ((fail_if_success (have zz := hq0)); (subst hm1); (have hm36 : 36 ≤ (fullBy f).length := by rw [fullBy_len]; omega); (have hq0 := at_in (q := q) (m := (fullBy f).length) hq.1 hm36); (have hle : (fullBy f).length ≤ 1048576 := by first | exact fle1 hF | exact fle2 hF | exact fle3 hF); (have hne := turn_ne (c := (fullBy f).getD (q.tmod ((fullBy f).length : Int)).toNat 0) (v := v) (by omega)); (rcases (show q.tmod ((fullBy f).length : Int) < 3 ∨ 3 ≤ q.tmod ((fullBy f).length : Int) by omega) with h3 | h3))
    | ((with_reducible apply DW.frzR 7); (repeat (with_reducible first | refine OnA.here ?_ | refine OnA.next ?_)); refine ⟨(cells_u8 _).symm, by decide, (by intro y hy; obtain ⟨x, _, rfl⟩ := List.mem_map.1 hy; rfl), ?_, ?_⟩; (repeat (first | exact CvE.nil | apply CvE.cons (Cv.hit _) | apply CvE.cons (Cv.rfl _))))
    | with_reducible first | refine DW.sq ?_ | refine DW.block ?_ | refine DW.skip ?_ | refine DW.exit ?_
    | ((with_reducible refine DW.ret ?_))
    | with_reducible first | refine then_n ?_ | refine then_x ?_ | refine then_r ?_ | refine blk_n ?_ | refine blk_r ?_ | refine blk_x ?_
    | with_reducible refine blk_y (by decide) ?_
    | with_reducible first | refine Next.go ?_ | refine SeqD.nil ?_ | refine DV.nil ?_
    | ((with_reducible refine And.intro ?_ ?_); (first | exact sv | exact ⟨hn20, deeds_ok hl hx30, hk, ha, by omega⟩ | exact ⟨by omega, hne, hle⟩))
    | with_reducible first | refine DW.ct_ ?_ | refine DW.cf_ ?_
    | (refine DW.cond (by rfl) (fun hb => ?_) (fun hb => ?_) <;> (try simp only [hbs, Int.reduceBEq, Int.reduceBNe, Int.reduceEq] at hb; try (exfalso; omega)))
    | ((first | ((with_reducible refine DW.regK [0, 1, 2, 3, 4, 5, 12, 13, 15, 16, 18, 30] (by kernel_rfl) ?_); refine SeqD.go (own := []) _ _ ?_) | ((first | refine Both.imp (fun hb => ?_) (fun hb => ?_) | (with_reducible first | refine FVg_cases (fun hb => ?_) (fun hb => ?_) | refine FDg_cases (fun hb => ?_) (fun hb => ?_)) <;> rw [hb]) <;> (try simp only [hbs, Int.reduceBEq, Int.reduceBNe, Int.reduceEq] at hb; try (exfalso; omega))) | (with_reducible refine ret_r rfl ?_) | ((refine ret_c [.tmp 12] (by rfl) ?_); (try (refine RetK_cell _ _ _ _ _ _ rfl ?_; (repeat (with_reducible first | refine OnB.here ?_ | refine OnB.mid ?_ | refine OnB.next ?_))))) | ((refine RetK_cell _ _ _ _ _ _ rfl ?_); (repeat (with_reducible first | refine OnB.here ?_ | refine OnB.mid ?_ | refine OnB.next ?_))) | (with_reducible refine ret_n rfl ?_) | (first | ((first | apply DOp.callq_ rfl rfl (h := known14_dc _) | apply DOp.callq_ rfl rfl (h := readT_dc _ _ _ _) | apply DOp.callq_ rfl rfl (h := helpZ_dc _) | apply DOp.callq_ rfl rfl (h := rightE_dc _)); (repeat (first | exact Les.nil | refine Les.cons le.rfl_ ?_ | refine Les.cons (le.gs rfl) ?_ | refine Les.cons (le.gs List.map_nil.symm) ?_ | refine Les.cons (le.agg ?_) ?_)); (repeat (with_reducible first | exact Pulled.nil | apply Pulled.cons | exact Took.here | apply Took.next)); refine And.intro ?_ ?_; (first | exact sv | exact ⟨hn20, deeds_ok hl hx30, hk, ha, by omega⟩ | exact ⟨by omega, hne, hle⟩); rintro d rfl) | (apply DOp.callp_ rfl rfl (h := few_dc _ _); (repeat (first | exact Les.nil | refine Les.cons le.rfl_ ?_ | refine Les.cons (le.gs rfl) ?_ | refine Les.cons (le.gs List.map_nil.symm) ?_ | refine Les.cons (le.agg ?_) ?_)); (repeat (with_reducible first | exact Pulled.nil | apply Pulled.cons | exact Took.here | apply Took.next)); refine And.intro ?_ ?_; (first | exact sv | exact ⟨hn20, deeds_ok hl hx30, hk, ha, by omega⟩ | exact ⟨by omega, hne, hle⟩); rintro d H1 (⟨rfl, ⟨hn20, hx30⟩, rfl⟩ | ⟨rfl, rfl⟩)) | (apply DOp.callp_ rfl rfl (h := some_dc _ _ _ _ _); (repeat (first | exact Les.nil | refine Les.cons le.rfl_ ?_ | refine Les.cons (le.gs rfl) ?_ | refine Les.cons (le.gs List.map_nil.symm) ?_ | refine Les.cons (le.agg ?_) ?_)); (repeat (with_reducible first | exact Pulled.nil | apply Pulled.cons | exact Took.here | apply Took.next)); refine And.intro ?_ ?_; (first | exact sv | exact ⟨hn20, deeds_ok hl hx30, hk, ha, by omega⟩ | exact ⟨by omega, hne, hle⟩); rintro d H1 (⟨f, hF, rfl, rfl⟩ | ⟨f, hF, rfl, rfl⟩ | ⟨f, hF, rfl, rfl⟩)) | (apply DOp.callp_ rfl rfl (h := rput1_dc _ _); (repeat (first | exact Les.nil | refine Les.cons le.rfl_ ?_ | refine Les.cons (le.gs rfl) ?_ | refine Les.cons (le.gs List.map_nil.symm) ?_ | refine Les.cons (le.agg ?_) ?_)); (repeat (with_reducible first | exact Pulled.nil | apply Pulled.cons | exact Took.here | apply Took.next)); refine And.intro ?_ ?_; (first | exact sv | exact ⟨hn20, deeds_ok hl hx30, hk, ha, by omega⟩ | exact ⟨by omega, hne, hle⟩); rintro d H1 ⟨v1, m1, rfl, hm1, rfl⟩) | (apply DOp.callp_ rfl rfl (h := rput2_dc _ _); (repeat (first | exact Les.nil | refine Les.cons le.rfl_ ?_ | refine Les.cons (le.gs rfl) ?_ | refine Les.cons (le.gs List.map_nil.symm) ?_ | refine Les.cons (le.agg ?_) ?_)); (repeat (with_reducible first | exact Pulled.nil | apply Pulled.cons | exact Took.here | apply Took.next)); refine And.intro ?_ ?_; (first | exact sv | exact ⟨hn20, deeds_ok hl hx30, hk, ha, by omega⟩ | exact ⟨by omega, hne, hle⟩); rintro d H1 ⟨v1, m1, rfl, hm1, rfl⟩) | (apply DOp.callp_ rfl rfl (h := rput3_dc _ _); (repeat (first | exact Les.nil | refine Les.cons le.rfl_ ?_ | refine Les.cons (le.gs rfl) ?_ | refine Les.cons (le.gs List.map_nil.symm) ?_ | refine Les.cons (le.agg ?_) ?_)); (repeat (with_reducible first | exact Pulled.nil | apply Pulled.cons | exact Took.here | apply Took.next)); refine And.intro ?_ ?_; (first | exact sv | exact ⟨hn20, deeds_ok hl hx30, hk, ha, by omega⟩ | exact ⟨by omega, hne, hle⟩); rintro d H1 ⟨v1, m1, rfl, hm1, rfl⟩) | (refine DOp.alloc_ rfl ?_) | (refine DOp.store_ rfl rfl ?_; (repeat (with_reducible first | refine OnB.here ?_ | refine OnB.mid ?_ | refine OnB.next ?_))) | (refine DOp.load_ rfl rfl ?_; (repeat (with_reducible first | refine OnB.here ?_ | refine OnB.mid ?_ | refine OnB.next ?_))) | (refine DOp.loada_ rfl rfl ?_; (repeat (with_reducible first | refine OnA.here ?_ | refine OnA.next ?_))) | (refine DOp.storea_ rfl rfl ?_; (repeat (with_reducible first | refine OnA.here ?_ | refine OnA.next ?_))))) <;> (simp (maxSteps := 1000000) (disch := omega) only [push_cast, ↓reduceIte, reduceCtorEq, Nat.reduceAdd, Nat.reduceMul, Nat.reduceLT, Nat.reduceLeDiff, Nat.reduceEqDiff, Nat.reduceSub, Int.reduceToNat, Int.reduceLT, Int.reduceLE, Int.reduceAdd, Int.reduceSub, Int.reduceMul, Int.reduceNeg, Nat.reduceBEq, Int.reduceBEq, Int.reduceBNe, Nat.reduceBNe, Int.reduceEq, byte_at, byte_turn, turnE_1, turnE_2, List.length_set]))
    | (with_reducible first | refine SeqD.opF [] rfl ?_ | refine SeqD.opgF [] rfl rfl ?_)
    | with_reducible intro b)
  all_goals first
  | ((refine ⟨_, _, ?_, ⟨rfl, rfl⟩, ?_⟩; (first | exact le.rfl_ | exact le.gs rfl | refine le.of_eq ?_ | refine le.gs ?_); rotate_left; (repeat (with_reducible first | exact SubP.refl | exact SubP.nil | refine SubP.pick ?_ | refine Out.here ?_ | refine Out.next ?_ | refine SubP.drop ?_))); done)
  | (exfalso; omega)
  | (trivial)
end Go.Proofs.YtfamfamgopchnaaGreatDoor
