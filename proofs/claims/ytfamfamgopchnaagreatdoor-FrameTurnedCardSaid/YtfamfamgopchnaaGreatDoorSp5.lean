/- Frames made of a story. -/
import Derived.Test.YtfamfamgopchnaaGreatDoorSp4
import Derived.Test.YtfamfamgopchnaaGreatDoorTf
import Derived.KernelRfl
namespace Go.Proofs.YtfamfamgopchnaaGreatDoor
open Go.RowKit
set_option linter.unusedSimpArgs false
set_option linter.unusedVariables false
set_option linter.unusedSectionVars false
set_option maxHeartbeats 4000000
set_option maxRecDepth 100000
attribute [local irreducible] DW SeqD DV DOp DC DVX

theorem few_dc (l : List TDeed) (F : Own) : (True) → DC Tryz.prog 11 [.sl (l.map encDeed)] (([] : Own) ++ F) fun d G => (d = .bool true ∧ (l.length ≤ 20 ∧ ∀ k, (l.getD k default).x.length ≤ 30) ∧ G = [] ++ F) ∨ (d = .bool false ∧ G = [] ++ F) := by
  intro hA
  refine DC.bodyS (n_ := 20) (show Tryz.prog.funcs[11]? = some Tryz.f11 by kernel_rfl) rfl rfl (by rfl) ?_
  simp only [env0, List.cons_append, List.nil_append]
  repeat' (first
    | ((with_reducible refine DW.loopB 0 (X := Nat) (fun x => x ≤ l.length ∧ ∀ j, j < x → (l.getD j default).x.length ≤ 30) (fun x => [(0, .sl (l.map encDeed)), (3, .int .i64 x)]) (fun x => ([] : Own)) (fun x => l.length - x) (0) ?_ ?_ ?_); exact (⟨Nat.zero_le _, fun j h => absurd h (Nat.not_lt_zero _)⟩); (simp [Sub, get, keepL] <;> fail); (try simp only [List.cons_append, List.nil_append]); (repeat (with_reducible first | refine Pull.nil ?_ | refine Pull.cons ?_ | refine Out.here ?_ | refine Out.next ?_)); intro k ⟨hk, hj⟩; (try simp only [List.cons_append, List.nil_append]); try simp only at hk hj)
    | with_reducible first | refine DW.sq ?_ | refine DW.block ?_ | refine DW.skip ?_ | refine DW.exit ?_
    | ((with_reducible refine DW.ret ?_))
    | with_reducible first | refine then_n ?_ | refine then_x ?_ | refine then_r ?_ | refine blk_n ?_ | refine blk_r ?_ | refine blk_x ?_
    | with_reducible refine blk_y (by decide) ?_
    | with_reducible first | refine Next.go ?_ | refine SeqD.nil ?_ | refine DV.nil ?_
    | ((with_reducible refine And.intro ?_ ?_); (exact sv))
    | with_reducible first | refine DW.ct_ ?_ | refine DW.cf_ ?_
    | (refine DW.cond (by rfl) (fun hb => ?_) (fun hb => ?_) <;> (try simp only [hbs, Int.reduceBEq, Int.reduceBNe, Int.reduceEq] at hb; try (exfalso; omega)))
    | ((first | ((with_reducible refine DW.regK [0, 2, 3, 6, 10, 19] (by kernel_rfl) ?_); refine SeqD.go (own := []) _ _ ?_) | ((first | refine Both.imp (fun hb => ?_) (fun hb => ?_) | (with_reducible first | refine FVg_cases (fun hb => ?_) (fun hb => ?_) | refine FDg_cases (fun hb => ?_) (fun hb => ?_)) <;> rw [hb]) <;> (try simp only [hbs, Int.reduceBEq, Int.reduceBNe, Int.reduceEq] at hb; try (exfalso; omega))) | (with_reducible refine ret_r rfl ?_) | ((refine ret_c [.tmp 2] (by rfl) ?_); (try (refine RetK_cell _ _ _ _ _ _ rfl ?_; (repeat (with_reducible first | refine OnB.here ?_ | refine OnB.mid ?_ | refine OnB.next ?_))))) | ((refine RetK_cell _ _ _ _ _ _ rfl ?_); (repeat (with_reducible first | refine OnB.here ?_ | refine OnB.mid ?_ | refine OnB.next ?_))) | (with_reducible refine ret_n rfl ?_) | (first | (refine DOp.load_ rfl rfl ?_; (repeat (with_reducible first | refine OnB.here ?_ | refine OnB.mid ?_ | refine OnB.next ?_))) | (refine DOp.loada_ rfl rfl ?_; (repeat (with_reducible first | refine OnA.here ?_ | refine OnA.next ?_))))) <;> (simp (maxSteps := 1000000) (disch := omega) only [push_cast, ↓reduceIte, reduceCtorEq, Nat.reduceAdd, Nat.reduceMul, Nat.reduceLT, Nat.reduceLeDiff, Nat.reduceEqDiff, Nat.reduceSub, Int.reduceToNat, Int.reduceLT, Int.reduceLE, Int.reduceAdd, Int.reduceSub, Int.reduceMul, Int.reduceNeg, Nat.reduceBEq, Int.reduceBEq, Int.reduceBNe, Nat.reduceBNe, Int.reduceEq, encDeed]))
    | (with_reducible first | refine SeqD.opF [] rfl ?_ | refine SeqD.opgF [] rfl rfl ?_)
    | with_reducible intro b)
  all_goals first
  | (exfalso; omega)
  | (refine ⟨_, _, le.rfl_, .inr ⟨rfl, rfl⟩, ?_⟩; (repeat (with_reducible first | exact SubP.refl | exact SubP.nil | refine SubP.pick ?_ | refine Out.here ?_ | refine Out.next ?_ | refine SubP.drop ?_)); done)
  | (refine ⟨k + 1, ⟨by omega, fun j hj2 => ?_⟩, ?_, ?_, ?_⟩; (rcases Nat.lt_succ_iff_lt_or_eq.1 hj2 with h | rfl; (exact hj j h); (omega)); (omega); (simp [Sub, get] <;> fail); (try dsimp only); (repeat (with_reducible first | exact SubP.refl | exact SubP.nil | refine SubP.pick ?_ | refine Out.here ?_ | refine Out.next ?_ | refine SubP.drop ?_)); done)
  | (refine ⟨_, _, le.rfl_, .inl ⟨rfl, ⟨by omega, fun j => ?_⟩, rfl⟩, ?_⟩; rotate_left; (repeat (with_reducible first | exact SubP.refl | exact SubP.nil | refine SubP.pick ?_ | refine Out.here ?_ | refine Out.next ?_ | refine SubP.drop ?_)); (by_cases h : j < k; (exact hj j h); (rw [List.getD_eq_getElem?_getD, List.getElem?_eq_none (by omega)]; exact Nat.zero_le _)); done)
theorem story_dc (l : List TDeed) (F : Own) : (l.length ≤ 20 ∧ ∀ d ∈ l, deedOk d) → DC Tryz.prog 50 [.sl (l.map encDeed)] (([] : Own) ++ F) fun d G => d = .sl ((tablesM l).map encTable) ∧ G = [] ++ F := by
  intro hA
  have hA0 := hA
  refine DC.bodyS (n_ := 5) (show Tryz.prog.funcs[50]? = some Tryz.f50 by kernel_rfl) rfl rfl (by rfl) ?_
  simp only [env0, List.cons_append, List.nil_append]
  repeat' (first
    | with_reducible first | refine DW.sq ?_ | refine DW.block ?_ | refine DW.skip ?_ | refine DW.exit ?_
    | ((with_reducible refine DW.ret ?_))
    | with_reducible first | refine then_n ?_ | refine then_x ?_ | refine then_r ?_ | refine blk_n ?_ | refine blk_r ?_ | refine blk_x ?_
    | with_reducible refine blk_y (by decide) ?_
    | with_reducible first | refine Next.go ?_ | refine SeqD.nil ?_ | refine DV.nil ?_
    | ((with_reducible refine And.intro ?_ ?_); (exact sv))
    | with_reducible first | refine DW.ct_ ?_ | refine DW.cf_ ?_
    | (refine DW.cond (by rfl) (fun hb => ?_) (fun hb => ?_) <;> (try simp only [hbs, Int.reduceBEq, Int.reduceBNe, Int.reduceEq] at hb; try (exfalso; omega)))
    | ((first | ((with_reducible refine DW.regK [0, 2] (by kernel_rfl) ?_); refine SeqD.go (own := []) _ _ ?_) | ((first | refine Both.imp (fun hb => ?_) (fun hb => ?_) | (with_reducible first | refine FVg_cases (fun hb => ?_) (fun hb => ?_) | refine FDg_cases (fun hb => ?_) (fun hb => ?_)) <;> rw [hb]) <;> (try simp only [hbs, Int.reduceBEq, Int.reduceBNe, Int.reduceEq] at hb; try (exfalso; omega))) | (with_reducible refine ret_r rfl ?_) | ((refine ret_c [.tmp 2] (by rfl) ?_); (try (refine RetK_cell _ _ _ _ _ _ rfl ?_; (repeat (with_reducible first | refine OnB.here ?_ | refine OnB.mid ?_ | refine OnB.next ?_))))) | ((refine RetK_cell _ _ _ _ _ _ rfl ?_); (repeat (with_reducible first | refine OnB.here ?_ | refine OnB.mid ?_ | refine OnB.next ?_))) | (with_reducible refine ret_n rfl ?_) | (first | (apply DOp.callq_ rfl rfl (h := tables_dc _ _); (repeat (first | exact Les.nil | refine Les.cons le.rfl_ ?_ | refine Les.cons (le.gs rfl) ?_ | refine Les.cons (le.gs List.map_nil.symm) ?_ | refine Les.cons (le.agg ?_) ?_)); (repeat (with_reducible first | exact Pulled.nil | apply Pulled.cons | exact Took.here | apply Took.next)); refine And.intro ?_ ?_; (exact sv); rintro d rfl))) <;> (simp (maxSteps := 1000000) (disch := omega) only [push_cast, ↓reduceIte, reduceCtorEq, Nat.reduceAdd, Nat.reduceMul, Nat.reduceLT, Nat.reduceLeDiff, Nat.reduceEqDiff, Nat.reduceSub, Int.reduceToNat, Int.reduceLT, Int.reduceLE, Int.reduceAdd, Int.reduceSub, Int.reduceMul, Int.reduceNeg, Nat.reduceBEq, Int.reduceBEq, Int.reduceBNe, Nat.reduceBNe, Int.reduceEq]))
    | (with_reducible first | refine SeqD.opF [] rfl ?_ | refine SeqD.opgF [] rfl rfl ?_)
    | with_reducible intro b)
  (refine ⟨_, _, ?_, ⟨rfl, rfl⟩, ?_⟩; (first | exact le.rfl_ | exact le.gs rfl | refine le.of_eq ?_ | refine le.gs ?_); rotate_left; (repeat (with_reducible first | exact SubP.refl | exact SubP.nil | refine SubP.pick ?_ | refine Out.here ?_ | refine Out.next ?_ | refine SubP.drop ?_)))
  all_goals rfl
theorem topic_name {k : Int} (h : 0 ≤ k) : nameB (topicM k) = true ∧ (topicM k).length ≤ 1000 := by
  have key : ∀ f ∈ topicL, nameB f = true ∧ f.length ≤ 1000 := by decide +kernel
  exact key _ (topicM_mem h)
theorem some_dc (l : List TDeed) (k a : Int) (x : List UInt8) (F : Own) : (l.length ≤ 20 ∧ (∀ d ∈ l, deedOk d) ∧ (0 ≤ k ∧ k ≤ 255) ∧ (0 ≤ a ∧ a ≤ 255) ∧ x.length ≤ 40) → DC Tryz.prog 13 [.sl (l.map encDeed), .int .u8 k, .int .u8 a, .sl (x.map u8)] (([] : Own) ++ F) fun d G => (∃ f : TFrame, (((0 ≤ f.fr ∧ f.fr < 16) ∧ (1 ≤ f.ep ∧ f.ep ≤ 2147483647) ∧ (0 ≤ f.at_ ∧ f.at_ ≤ 1099511627776)) ∧ f.kind = 1 ∧ f.sums.length = 10 ∧ f.seen.length ≤ 4000 ∧ rightB f.seen = true) ∧ d = .agg [.int .i64 1, .int .i64 f.fr, .int .i64 f.ep, .int .i64 f.at_, .sl (f.sums.map encU), .sl (f.seen.map encDot), .gs (.slice none 0 0) [], .gs (.slice none 0 0) [], .gs (.slice none 0 0) [], .gs (.slice none 0 0) [], .int .i64 0, .str [], .gs (.slice none 0 0) [], .int .i64 0, .bool false] ∧ G = [] ++ F) ∨ (∃ f : TFrame, (((0 ≤ f.fr ∧ f.fr < 16) ∧ (1 ≤ f.ep ∧ f.ep ≤ 2147483647) ∧ (0 ≤ f.at_ ∧ f.at_ ≤ 1099511627776)) ∧ f.kind = 2 ∧ Neat f.tab ∧ Lite 1000000000 f.tab ∧ tabB f.tab = true ∧ (tableBy f.tab).length ≤ 1000000) ∧ d = .agg [.int .i64 2, .int .i64 f.fr, .int .i64 f.ep, .int .i64 f.at_, .gs (.slice none 0 0) [], .gs (.slice none 0 0) [], .sl (f.tab.seen.map encDot), .sl (f.tab.fences.map encFence), .sl (f.tab.routes.map encRoute), .sl (f.tab.cells.map encCell), .int .i64 0, .str [], .gs (.slice none 0 0) [], .int .i64 0, .bool false] ∧ G = [] ++ F) ∨ (∃ f : TFrame, (((0 ≤ f.fr ∧ f.fr < 16) ∧ (1 ≤ f.ep ∧ f.ep ≤ 2147483647) ∧ (0 ≤ f.at_ ∧ f.at_ ≤ 1099511627776)) ∧ f.kind = 3 ∧ (1 ≤ f.seq ∧ f.seq ≤ 2147483647) ∧ (nameB f.topic = true ∧ f.topic.length ≤ 1000) ∧ (0 ≤ f.qos ∧ f.qos ≤ 2) ∧ f.payload.length ≤ 1000) ∧ d = .agg [.int .i64 3, .int .i64 f.fr, .int .i64 f.ep, .int .i64 f.at_, .gs (.slice none 0 0) [], .gs (.slice none 0 0) [], .gs (.slice none 0 0) [], .gs (.slice none 0 0) [], .gs (.slice none 0 0) [], .gs (.slice none 0 0) [], .int .i64 f.seq, .str f.topic, .sl (f.payload.map u8), .int .i64 f.qos, .bool false] ∧ G = [] ++ F) := by
  intro hA
  obtain ⟨hn, hl, hk, ha, hx⟩ := hA
  refine DC.bodyS (n_ := 58) (show Tryz.prog.funcs[13]? = some Tryz.f13 by kernel_rfl) rfl rfl (by rfl) ?_
  simp only [env0, List.cons_append, List.nil_append]
  have h3 := tmod3 hk.1
  obtain ⟨htn, htr, hnt, hlt, htl⟩ := tables_at hn hl h3
  have htb := tr_iff.2 htr
  have a0 := Int.tmod_nonneg 16 ha.1
  have a1 := Int.tmod_lt_of_pos a (show (0 : Int) < 16 by decide)
  have a3 := tmod3 ha.1
  have htp := topic_name ha.1
  repeat' (first
    | ((with_reducible apply DW.frzB 2 9); (focus (exact rfl)); (repeat (with_reducible first | refine Out.here ?_ | refine Out.next ?_)); simp only [put_cons, put_nil, Nat.reduceEqDiff, ↓reduceIte, if_true, if_false, reduceCtorEq])
    | with_reducible first | refine DW.sq ?_ | refine DW.block ?_ | refine DW.skip ?_ | refine DW.exit ?_
    | ((with_reducible refine DW.ret ?_))
    | with_reducible first | refine then_n ?_ | refine then_x ?_ | refine then_r ?_ | refine blk_n ?_ | refine blk_r ?_ | refine blk_x ?_
    | with_reducible refine blk_y (by decide) ?_
    | with_reducible first | refine Next.go ?_ | refine SeqD.nil ?_ | refine DV.nil ?_
    | ((with_reducible refine And.intro ?_ ?_); (first | exact sv | exact ⟨hn, hl⟩ | exact ⟨hnt, hlt.mono (by decide), htb⟩))
    | with_reducible first | refine DW.ct_ ?_ | refine DW.cf_ ?_
    | (refine DW.cond (by rfl) (fun hb => ?_) (fun hb => ?_) <;> (try simp only [hbs, Int.reduceBEq, Int.reduceBNe, Int.reduceEq] at hb; try (exfalso; omega)))
    | ((first | ((with_reducible refine DW.regK [0, 1, 2, 3, 8, 9, 10, 32, 45, 53] (by kernel_rfl) ?_); refine SeqD.go (own := [8, 10]) _ _ ?_) | ((with_reducible refine DW.drawK (id := 6) [0, 1, 2, 3, 8, 9, 10, 32, 45, 53] [1, 5, 7] [0] (by kernel_rfl) (by kernel_rfl) (by kernel_rfl) ?_); refine DV.go [0] [1, 5, 7] _ _ _ ?_) | ((first | refine Both.imp (fun hb => ?_) (fun hb => ?_) | (with_reducible first | refine FVg_cases (fun hb => ?_) (fun hb => ?_) | refine FDg_cases (fun hb => ?_) (fun hb => ?_)) <;> rw [hb]) <;> (try simp only [hbs, Int.reduceBEq, Int.reduceBNe, Int.reduceEq] at hb; try (exfalso; omega))) | (with_reducible refine ret_r rfl ?_) | ((refine ret_c [.cell 8 39] (by rfl) ?_); (try (refine RetK_cell _ _ _ _ _ _ rfl ?_; (repeat (with_reducible first | refine OnB.here ?_ | refine OnB.mid ?_ | refine OnB.next ?_))))) | ((refine RetK_cell _ _ _ _ _ _ rfl ?_); (repeat (with_reducible first | refine OnB.here ?_ | refine OnB.mid ?_ | refine OnB.next ?_))) | (with_reducible refine ret_n rfl ?_) | ((with_reducible first | refine DV.mk rfl ?_ | refine DV.mkg rfl rfl ?_); (first | ((first | apply DVop.callq_ rfl rfl rfl rfl (h1 := story_dc _ _) | apply DVop.callq_ rfl rfl rfl rfl (h1 := topic_dc _ _)); (repeat (first | exact Les.nil | refine Les.cons le.rfl_ ?_ | refine Les.cons (le.gs rfl) ?_ | refine Les.cons (le.gs List.map_nil.symm) ?_ | refine Les.cons (le.agg ?_) ?_)); (repeat (with_reducible first | exact Pulled.nil | apply Pulled.cons | exact Took.here | apply Took.next)); refine And.intro ?_ ?_; (first | exact sv | exact ⟨hn, hl⟩ | exact ⟨hnt, hlt.mono (by decide), htb⟩)) | (refine DVop.loada_ rfl rfl rfl rfl ?_; (repeat (with_reducible first | refine OnA.here ?_ | refine OnA.next ?_))) | (refine DVop.load_ rfl rfl rfl rfl ?_; (repeat (with_reducible first | refine OnB.here ?_ | refine OnB.mid ?_ | refine OnB.next ?_))) | (refine DVop.f_ rfl ?_))) | (first | ((first | apply DOp.callq_ rfl rfl (h := story_dc _ _) | apply DOp.callq_ rfl rfl (h := topic_dc _ _)); (repeat (first | exact Les.nil | refine Les.cons le.rfl_ ?_ | refine Les.cons (le.gs rfl) ?_ | refine Les.cons (le.gs List.map_nil.symm) ?_ | refine Les.cons (le.agg ?_) ?_)); (repeat (with_reducible first | exact Pulled.nil | apply Pulled.cons | exact Took.here | apply Took.next)); refine And.intro ?_ ?_; (first | exact sv | exact ⟨hn, hl⟩ | exact ⟨hnt, hlt.mono (by decide), htb⟩); rintro d rfl) | (apply DOp.callp_ rfl rfl (h := rsums_dc _ _); (repeat (first | exact Les.nil | refine Les.cons le.rfl_ ?_ | refine Les.cons (le.gs rfl) ?_ | refine Les.cons (le.gs List.map_nil.symm) ?_ | refine Les.cons (le.agg ?_) ?_)); (repeat (with_reducible first | exact Pulled.nil | apply Pulled.cons | exact Took.here | apply Took.next)); refine And.intro ?_ ?_; (first | exact sv | exact ⟨hn, hl⟩ | exact ⟨hnt, hlt.mono (by decide), htb⟩); rintro d H1 ⟨ls, rfl, hls, rfl⟩) | (refine DOp.alloc_ rfl ?_) | (refine DOp.store_ rfl rfl ?_; (repeat (with_reducible first | refine OnB.here ?_ | refine OnB.mid ?_ | refine OnB.next ?_))) | (refine DOp.load_ rfl rfl ?_; (repeat (with_reducible first | refine OnB.here ?_ | refine OnB.mid ?_ | refine OnB.next ?_))) | (refine DOp.loada_ rfl rfl ?_; (repeat (with_reducible first | refine OnA.here ?_ | refine OnA.next ?_))) | (refine DOp.storea_ rfl rfl ?_; (repeat (with_reducible first | refine OnA.here ?_ | refine OnA.next ?_))))) <;> (simp (maxSteps := 1000000) (disch := omega) only [push_cast, ↓reduceIte, reduceCtorEq, Nat.reduceAdd, Nat.reduceMul, Nat.reduceLT, Nat.reduceLeDiff, Nat.reduceEqDiff, Nat.reduceSub, Int.reduceToNat, Int.reduceLT, Int.reduceLE, Int.reduceAdd, Int.reduceSub, Int.reduceMul, Int.reduceNeg, Nat.reduceBEq, Int.reduceBEq, Int.reduceBNe, Nat.reduceBNe, Int.reduceEq, encTable]))
    | (with_reducible first | refine SeqD.opF [8, 10] rfl ?_ | refine SeqD.opgF [8, 10] rfl rfl ?_)
    | ((with_reducible first | refine DV.mk rfl ?_ | refine DV.mkg rfl rfl ?_); (refine DVop.mv_ rfl ?_))
    | with_reducible intro b)
  all_goals first
  | (exfalso; omega)
  | (have hk3 : k.tmod 3 = 0 := by omega
     rw [hk3] at htr hnt hlt htl htb ⊢
     refine ⟨_, _, le.rfl_, .inl ⟨⟨1, a.tmod 16, k + 1, a * 5, ls, ((tablesM l).getD 0 default).seen, emptyT, 0, [], [], 0, false⟩, ?_, rfl, rfl⟩, ?_⟩; rotate_left; (repeat (with_reducible first | exact SubP.refl | exact SubP.nil | refine SubP.pick ?_ | refine Out.here ?_ | refine Out.next ?_ | refine SubP.drop ?_)); (dsimp only; exact ⟨⟨⟨by omega, by omega⟩, ⟨by omega, by omega⟩, ⟨by omega, by omega⟩⟩, by trivial, hls.1, Nat.le_trans hlt.s (by decide), htr.seen⟩); done)
  | (have hk3 : k.tmod 3 = 1 := by omega
     rw [hk3] at htr hnt hlt htl htb ⊢
     refine ⟨_, _, le.rfl_, .inr (.inl ⟨⟨2, a.tmod 16, k + 1, a * 5, [], [], ((tablesM l).getD 1 default), 0, [], [], 0, false⟩, ?_, rfl, rfl⟩), ?_⟩; rotate_left; (repeat (with_reducible first | exact SubP.refl | exact SubP.nil | refine SubP.pick ?_ | refine Out.here ?_ | refine Out.next ?_ | refine SubP.drop ?_)); (dsimp only; exact ⟨⟨⟨by omega, by omega⟩, ⟨by omega, by omega⟩, ⟨by omega, by omega⟩⟩, by trivial, hnt, hlt.mono (by decide), htb, htl⟩); done)
  | (have hk3 : k.tmod 3 = 2 := by omega
     rw [hk3] at htr hnt hlt htl htb ⊢
     refine ⟨_, _, le.rfl_, .inr (.inr ⟨⟨3, a.tmod 16, k + 1, a * 5, [], [], emptyT, a + 1, topicM a, x, a.tmod 3, false⟩, ?_, rfl, rfl⟩), ?_⟩; rotate_left; (repeat (with_reducible first | exact SubP.refl | exact SubP.nil | refine SubP.pick ?_ | refine Out.here ?_ | refine Out.next ?_ | refine SubP.drop ?_)); (dsimp only; exact ⟨⟨⟨by omega, by omega⟩, ⟨by omega, by omega⟩, ⟨by omega, by omega⟩⟩, by trivial, ⟨by omega, by omega⟩, htp, ⟨by omega, by omega⟩, by omega⟩); done)
theorem read21_dc (l : List UInt8) (F : Own) : ((12 ≤ l.length ∧ l.length ≤ 1048576) ∧ (l.take 3 == ([72, 66, 49] : List UInt8)) = false) → DC Tryz.prog 14 [.sl (l.map u8)] (([] : Own) ++ F) fun d G => d = .tup [.agg [.int .i64 0, .int .i64 0, .int .i64 0, .int .i64 0, .gs (.slice none 0 0) [], .gs (.slice none 0 0) [], .gs (.slice none 0 0) [], .gs (.slice none 0 0) [], .gs (.slice none 0 0) [], .gs (.slice none 0 0) [], .int .i64 0, .str [], .gs (.slice none 0 0) [], .int .i64 0, .bool false], .int .i64 21] ∧ G = [] ++ F := by
  intro hA
  obtain ⟨⟨h1, h2⟩, hb0⟩ := hA
  refine DC.bodyS (n_ := 71) (show Tryz.prog.funcs[14]? = some Tryz.f14 by kernel_rfl) rfl rfl (by rfl) ?_
  simp only [env0, List.cons_append, List.nil_append]
  repeat' (first
    | with_reducible first | refine DW.sq ?_ | refine DW.block ?_ | refine DW.skip ?_ | refine DW.exit ?_
    | ((with_reducible refine DW.ret ?_))
    | with_reducible first | refine then_n ?_ | refine then_x ?_ | refine then_r ?_ | refine blk_n ?_ | refine blk_r ?_ | refine blk_x ?_
    | with_reducible refine blk_y (by decide) ?_
    | with_reducible first | refine Next.go ?_ | refine SeqD.nil ?_ | refine DV.nil ?_
    | ((with_reducible refine And.intro ?_ ?_); (first | exact sv | (simp [u8, V.one]; omega) | (simp [u8, V.one] <;> fail)))
    | with_reducible first | refine DW.ct_ ?_ | refine DW.cf_ ?_
    | (refine DW.cond (by rfl) (fun hb => ?_) (fun hb => ?_) <;> (try simp only [hbs, Int.reduceBEq, Int.reduceBNe, Int.reduceEq] at hb; try (exfalso; omega)))
    | ((first | ((with_reducible refine DW.regK [0, 2, 3, 4, 5, 6, 7, 8, 12, 17, 28, 68] (by kernel_rfl) ?_); refine SeqD.go (own := [33, 47]) _ _ ?_) | ((with_reducible refine DW.drawK (id := 6) [0, 2, 3, 4, 5, 6, 7, 8, 12, 17, 28, 68] [4, 5, 10] [] (by kernel_rfl) (by kernel_rfl) (by kernel_rfl) ?_); refine DV.go [] [4, 5, 10] _ _ _ ?_) | ((first | refine Both.imp (fun hb => ?_) (fun hb => ?_) | (with_reducible first | refine FVg_cases (fun hb => ?_) (fun hb => ?_) | refine FDg_cases (fun hb => ?_) (fun hb => ?_)) <;> rw [hb]) <;> (try simp only [hbs, Int.reduceBEq, Int.reduceBNe, Int.reduceEq] at hb; try (exfalso; omega))) | (with_reducible refine ret_r rfl ?_) | ((refine ret_c [.cell 2 39, .tmp 3] (by rfl) ?_); (try (refine RetK_cell _ _ _ _ _ _ rfl ?_; (repeat (with_reducible first | refine OnB.here ?_ | refine OnB.mid ?_ | refine OnB.next ?_))))) | ((refine RetK_cell _ _ _ _ _ _ rfl ?_); (repeat (with_reducible first | refine OnB.here ?_ | refine OnB.mid ?_ | refine OnB.next ?_))) | (with_reducible refine ret_n rfl ?_) | ((with_reducible first | refine DV.mk rfl ?_ | refine DV.mkg rfl rfl ?_); (first | (refine DVop.loada_ rfl rfl rfl rfl ?_; (repeat (with_reducible first | refine OnA.here ?_ | refine OnA.next ?_))) | (refine DVop.load_ rfl rfl rfl rfl ?_; (repeat (with_reducible first | refine OnB.here ?_ | refine OnB.mid ?_ | refine OnB.next ?_))) | (refine DVop.f_ rfl ?_))) | (first | (refine DOp.alloc_ rfl ?_) | (refine DOp.box_ rfl ?_) | (refine DOp.store_ rfl rfl ?_; (repeat (with_reducible first | refine OnB.here ?_ | refine OnB.mid ?_ | refine OnB.next ?_))) | (refine DOp.load_ rfl rfl ?_; (repeat (with_reducible first | refine OnB.here ?_ | refine OnB.mid ?_ | refine OnB.next ?_))) | (refine DOp.loada_ rfl rfl ?_; (repeat (with_reducible first | refine OnA.here ?_ | refine OnA.next ?_))) | (refine DOp.storea_ rfl rfl ?_; (repeat (with_reducible first | refine OnA.here ?_ | refine OnA.next ?_))))) <;> (simp (maxSteps := 1000000) (disch := omega) only [push_cast, ↓reduceIte, reduceCtorEq, Nat.reduceAdd, Nat.reduceMul, Nat.reduceLT, Nat.reduceLeDiff, Nat.reduceEqDiff, Nat.reduceSub, Int.reduceToNat, Int.reduceLT, Int.reduceLE, Int.reduceAdd, Int.reduceSub, Int.reduceMul, Int.reduceNeg, Nat.reduceBEq, Int.reduceBEq, Int.reduceBNe, Nat.reduceBNe, Int.reduceEq, toN3, takeMap, isU8, isU8_map, byteOf_map, hb0]))
    | (with_reducible first | refine SeqD.opF [33, 47] rfl ?_ | refine SeqD.opgF [33, 47] rfl rfl ?_)
    | ((with_reducible first | refine DV.mk rfl ?_ | refine DV.mkg rfl rfl ?_); (refine DVop.mv_ rfl ?_))
    | with_reducible intro b)
  all_goals first
  | ((refine ⟨_, _, ?_, ⟨rfl, rfl⟩, ?_⟩; (first | exact le.rfl_ | exact le.gs rfl | refine le.of_eq ?_ | refine le.gs ?_); rotate_left; (repeat (with_reducible first | exact SubP.refl | exact SubP.nil | refine SubP.pick ?_ | refine Out.here ?_ | refine Out.next ?_ | refine SubP.drop ?_))); done)
  | (exfalso; omega)
end Go.Proofs.YtfamfamgopchnaaGreatDoor
