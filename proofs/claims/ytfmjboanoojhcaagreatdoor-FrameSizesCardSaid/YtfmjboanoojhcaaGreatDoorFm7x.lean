/- A frame that forwards is read. -/
import Derived.Test.YtfmjboanoojhcaaGreatDoorFm5x
import Derived.KernelRfl
import Derived.Test.YtfmjboanoojhcaaGreatDoorEm
namespace Go.Proofs.YtfmjboanoojhcaaGreatDoor
open Go.RowKit
set_option linter.unusedSimpArgs false
set_option linter.unusedVariables false
set_option linter.unusedSectionVars false
set_option maxHeartbeats 4000000
set_option maxRecDepth 100000
attribute [local irreducible] DW SeqD DV DOp DC DVX


theorem take1 (c : UInt8) (r : List UInt8) : List.take 1 (c :: r) = [c] := rfl
theorem drop1 (c : UInt8) (r : List UInt8) : List.drop 1 (c :: r) = r := rfl
theorem toN1 : ((1 : Int)).toNat = 1 := rfl
theorem take1_dc (b : Nat) (c : UInt8) (l : List UInt8) (k : Bool) (F : Own) : l.length ≤ 100000000000 → DC Tryz.prog 133 [.raw (.pointer (some ⟨b, 0, none⟩)), .int .u64 1] ([.blk b [.sl (u8 c :: l.map u8), .bool k]] ++ F) fun d G => d = .sl [.int .u8 (c.toNat : Int)] ∧ G = .blk b [.sl (l.map u8), .bool k] :: F := fun h =>
  take_dc b (c :: l) k 1 F ⟨⟨by decide, by simp only [List.length_cons]; omega⟩, by simp only [List.length_cons]; omega⟩
theorem map1 (c : UInt8) : List.map u8 [c] = [.int .u8 (c.toNat : Int)] := rfl
theorem sv_frame_dc {p : Prop} (h : p := by first | exact sv | (simp [u8, V.one]; omega) | (simp [u8, V.one] <;> fail) | (refine ⟨?_, ?_, ?_⟩ <;> first | omega | (simp [leK_len, head_len] <;> omega)) | (refine ⟨?_, ?_⟩ <;> first | omega | (simp [leK_len, head_len] <;> omega)) | (simp [leK_len, head_len] <;> omega) | fail) : p := h
section
attribute [local push_cast 2000] take1 drop1 toN1 map1 t3
theorem frame_dc (b : Nat) (fr ep at_ seq q : Int) (p z : List UInt8) (F : Own) : (((0 ≤ fr ∧ fr ≤ 15) ∧ (1 ≤ ep ∧ ep ≤ 2147483647) ∧ (0 ≤ at_ ∧ at_ ≤ 1099511627776) ∧ (1 ≤ seq ∧ seq ≤ 2147483647) ∧ (0 ≤ q ∧ q ≤ 2)) ∧ p.length ≤ 10000000000 ∧ z.length ≤ 10000000000) → DC Tryz.prog 71 [.raw (.pointer (some ⟨b, 0, none⟩))] ([.blk b [.sl ((3 :: (leK 8 fr ++ (leK 8 ep ++ (leK 8 at_ ++ (leK 8 seq ++ (leK 8 1 ++ 97 :: (leK 8 (p.length : Int) ++ (p ++ (leK 8 q ++ z))))))))).map u8), .bool false]] ++ F) fun d G => d = .agg [.int .i64 3, .int .i64 fr, .int .i64 ep, .int .i64 at_, .gs (.slice none 0 0) [], .gs (.slice none 0 0) [], .gs (.slice none 0 0) [], .gs (.slice none 0 0) [], .gs (.slice none 0 0) [], .gs (.slice none 0 0) [], .int .i64 seq, .str [97], .sl (p.map u8), .int .i64 q, .bool false] ∧ G = .blk b [.sl (z.map u8), .bool false] :: F := by
  intro hA
  obtain ⟨⟨h1, h2, h3, h4, h5⟩, hp, hz⟩ := hA
  refine DC.bodyS (n_ := 46) (show Tryz.prog.funcs[71]? = some Tryz.f71 by kernel_rfl) rfl rfl (by rfl) ?_
  simp only [env0, List.cons_append, List.nil_append]
  have kw := ksIs [0, 1, 2, 3, 17, 18, 26, 31]
  have ow := ownIs []
  have dw10 := drIs 10 [1, 3, 6, 9] [0]
  have rw_ := rsIs [.cell 2 33]
  repeat' (first
    | refine g_ ?_
    | ((with_reducible refine And.intro ?_ ?_); (exact sv_frame_dc))
    | (refine DW.cond (by rfl) ?_ ?_ <;> (first | exact i0_ | (refine ic_ ?_; intro hb)))
    | ((with_reducible first | refine FVg_cases ?_ ?_ | refine FDg_cases ?_ ?_) <;> (intro hb; rw [hb]; revert hb; (first | exact i0_ | (refine i_ ?_; intro hb))))
    | refine r_ ?_
    | refine d_ ?_
    | refine k_ ?_
    | refine vo_ ?_
    | ((first | ((with_reducible refine DW.drawX (id := 1) [0, 1, 2, 3, 17, 18, 26, 31] [1, 6, 8, 10, 13] 12 33 (some 3) (by kernel_rfl) (by kernel_rfl) (by kernel_rfl) (by kernel_rfl) rfl (by kernel_rfl) ?_ ?_)) | (refine DVX.fl_ rfl rfl rfl ?_) | (refine DVX.f_ rfl rfl (by decide) ?_) | ((refine DVX.mv_ rfl rfl (by decide) ?_); intro X; (try simp only [List.cons_append, List.nil_append]); (first | (refine p_ (take1_dc _ _ _ _ _) ?_ (ha := by exact sv_frame_dc); rintro d H1 ⟨rfl, rfl⟩) | (refine p_ (rint_dc _ _ _ _ _) ?_ (ha := by exact sv_frame_dc); rintro d H1 ⟨rfl, rfl⟩) | (refine p_ (rtexta_dc _ _ _ _) ?_ (ha := by exact sv_frame_dc); rintro d H1 ⟨rfl, rfl⟩) | (refine p_ (rtext_dc _ _ _ _ _) ?_ (ha := by exact sv_frame_dc); rintro d H1 ⟨rfl, rfl⟩) | ((refine DOp.load_ rfl rfl ?_); (repeat (with_reducible first | refine OnB.here ?_ | refine OnB.mid ?_ | refine OnB.next ?_)); (refine And.intro (by simp (maxSteps := 1000000) (disch := omega) only [push_cast, ↓reduceIte, reduceCtorEq, Nat.reduceAdd, Nat.reduceMul, Nat.reduceLT, Nat.reduceLeDiff, Nat.reduceEqDiff, Nat.reduceSub, Int.reduceToNat, Int.reduceLT, Int.reduceLE, Int.reduceAdd, Int.reduceSub, Int.reduceMul, Int.reduceNeg, Nat.reduceBEq, Int.reduceBEq, Int.reduceBNe, Nat.reduceBNe, Int.reduceEq, take1, drop1, toN1, map1, t3]) ?_))); (try simp only [List.cons_append, List.nil_append]); (repeat (with_reducible first | refine PXK.base ?_ | refine PXK.none ?_ | refine PXK.cons ?_)))) <;> (simp (maxSteps := 1000000) (disch := omega) only [push_cast, ↓reduceIte, reduceCtorEq, Nat.reduceAdd, Nat.reduceMul, Nat.reduceLT, Nat.reduceLeDiff, Nat.reduceEqDiff, Nat.reduceSub, Int.reduceToNat, Int.reduceLT, Int.reduceLE, Int.reduceAdd, Int.reduceSub, Int.reduceMul, Int.reduceNeg, Nat.reduceBEq, Int.reduceBEq, Int.reduceBNe, Nat.reduceBNe, Int.reduceEq, take1, drop1, toN1, map1, t3]))
    | (refine p_ (take1_dc _ _ _ _ _) ?_ (ha := by exact sv_frame_dc); rintro d H1 ⟨rfl, rfl⟩ <;> refine s_ ?_)
    | (refine p_ (rint_dc _ _ _ _ _) ?_ (ha := by exact sv_frame_dc); rintro d H1 ⟨rfl, rfl⟩ <;> refine s_ ?_)
    | (refine p_ (rtexta_dc _ _ _ _) ?_ (ha := by exact sv_frame_dc); rintro d H1 ⟨rfl, rfl⟩ <;> refine s_ ?_)
    | (refine p_ (rtext_dc _ _ _ _ _) ?_ (ha := by exact sv_frame_dc); rintro d H1 ⟨rfl, rfl⟩ <;> refine s_ ?_)
    | refine o_ ?_
    | refine f_ ?_
    | refine vm_ ?_
    | with_reducible intro b)
  all_goals first
  | ((first | exact fin_ | refine finq_ ?_); done)
  | (trivial)
end
end Go.Proofs.YtfmjboanoojhcaaGreatDoor
/- Maps that are owned: looked up, written, deleted from. No statement of the program. -/
namespace Go.Proofs.YtfmjboanoojhcaaGreatDoor
open Go.RowKit
set_option linter.unusedSimpArgs false
set_option linter.unusedVariables false
set_option linter.unusedSectionVars false

/-! Keys. -/
/-- The kinds of a key's cells. -/
def keyT (P : Program) (t : TypeId) : Option (List Nat) := leaf P 6 t
/-- Cells of such kinds. -/
def kindS : List Nat → List V → Prop
  | [], [] => True
  | k :: ks, a :: l => (match a with
    | .int _ _ => k = 2
    | .str _ => k = 3
    | .bool _ => k = 1
    | _ => False) ∧ kindS ks l
  | _, _ => False
theorem kindS_len : ∀ {ks : List Nat} {l : List V}, kindS ks l → l.length = ks.length
  | [], [], _ => rfl
  | _ :: ks, _ :: l, h => by simp [kindS_len h.2]
  | [], _ :: _, h => h.elim
  | _ :: _, [], h => h.elim
theorem kindS_of : ∀ {ks : List Nat} {l m : List V}, eqLS ks l m → kindS ks l
  | [], [], [], _ => trivial
  | k :: ks, a :: l, b :: m, h => by
    refine ⟨?_, kindS_of h.2⟩
    have h := h.1
    cases a <;> cases b <;> first | exact h.elim | exact h.1 | exact h
  | [], _ :: _, _, h => h.elim
  | [], [], _ :: _, h => h.elim
  | _ :: _, [], _, h => h.elim
  | _ :: _, _ :: _, [], h => h.elim
theorem kindS_app : ∀ {ks ks' : List Nat} {l : List V}, kindS (ks ++ ks') l → kindS ks (l.take ks.length) ∧ kindS ks' (l.drop ks.length)
  | [], ks', l, h => ⟨by simp [kindS], by simpa using h⟩
  | k :: ks, ks', [], h => h.elim
  | k :: ks, ks', a :: l, h => by
    obtain ⟨h1, h2⟩ := kindS_app (ks := ks) (l := l) h.2
    exact ⟨⟨h.1, h1⟩, h2⟩
section
variable {P : Program}
def CkOk (P : Program) (D : Nat) (t : TypeId) (ks : List Nat) : Prop :=
  ∀ (em : Bool) (S : Addr → Prop) (w : World) (x : Value) (a : V), R S w x a → ((ty P t).agg = true → a = .agg a.cs) → ((ty P t).agg = false → a.cs = [a]) → kindS ks a.cs → (Instr.checkKey em D t x).run P w = .ok () w
theorem ckFields_run {em : Bool} {D d : Nat} (ih : ∀ t ks, leaf P d t = some ks → CkOk P D t ks) {S : Addr → Prop} {w : World} {xs : Array Value} {cs : List V} (hx : xs.size = cs.length) (hxr : ∀ k, k < cs.length → R S w (xs.getD k undef) (cs.getD k .any)) :
    ∀ (fs : List Field) (off : Nat) (ks : List Nat), off ≤ cs.length → leafs P (leaf P d) fs off = some ks → kindS ks (cs.drop off) →
      (forIn fs PUnit.unit (fun (f : Field) (_ : PUnit) => (do
        if f.name ≠ "_" then Instr.checkKey em D f.type (← part f.type xs f.offset)
        pure (ForInStep.yield PUnit.unit) : Sem (ForInStep PUnit))) : Sem PUnit).run P w = .ok PUnit.unit w
  | [], off, ks, _, _, _ => by simp
  | f :: fs, off, ks, hoc, h, he => by
    unfold leafs at h
    split at h
    · rename_i hn
      obtain ⟨hn, ho⟩ := hn
      split at h
      · rename_i k1 hk1
        cases h2 : leafs P (leaf P d) fs (off + k1.length) with
        | none => rw [h2] at h; cases h
        | some k2 =>
          rw [h2] at h
          have hk : k1 ++ k2 = ks := by simpa using h
          subst hk
          have l1 := kindS_len he
          simp only [List.length_drop, List.length_append] at l1
          obtain ⟨e1, e2⟩ := kindS_app he
          obtain ⟨t0, t1, t2, t3⟩ := leaf_ty hk1
          have s1 : partS (ty P f.type) cs f.offset := by
            refine ⟨t0, t1, ?_⟩
            rw [ho]
            split
            · rename_i ha; have := t2 ha
              rcases Nat.eq_zero_or_pos k1.length with h0 | h0 <;> rcases Nat.eq_zero_or_pos k2.length with h1 | h1 <;> omega
            · rename_i ha; have := t3 (by simpa using ha); omega
          obtain ⟨u, u1, u2⟩ := part_run (P := P) hx hxr s1
          have hpart : ((ty P f.type).agg = true → (partV (ty P f.type) cs f.offset) = .agg (partV (ty P f.type) cs f.offset).cs) ∧ ((ty P f.type).agg = false → (partV (ty P f.type) cs f.offset).cs = [partV (ty P f.type) cs f.offset]) ∧ (partV (ty P f.type) cs f.offset).cs = (cs.drop off).take k1.length := by
            unfold partV
            rw [ho]
            cases ha : (ty P f.type).agg with
            | true => simp [V.cs, t2 ha]
            | false =>
              have q1 := t3 ha
              have q2 : off < cs.length := by omega
              simp only [Bool.false_eq_true, if_false, false_implies, true_and, forall_const]
              have g1 : cs.drop off = cs.getD off .any :: cs.drop (off + 1) := by rw [List.drop_eq_getElem_cons q2]; simp [List.getD_eq_getElem?_getD, q2]
              obtain ⟨kk, hkk⟩ : ∃ kk, k1 = [kk] := List.length_eq_one_iff.1 q1
              subst hkk
              rw [g1] at e1 ⊢
              simp only [List.length_singleton, List.take_succ_cons, List.take_zero] at e1 ⊢
              have e1 := e1.1
              generalize cs.getD off .any = p at e1 ⊢
              cases p <;> first | exact e1.elim | exact ⟨rfl, rfl⟩
          have hq := ih f.type k1 hk1 em S w u _ u2 hpart.1 hpart.2.1 (by rw [hpart.2.2]; exact e1)
          have hr := ckFields_run (em := em) ih hx hxr fs (off + k1.length) k2 (by omega) h2 (by simpa [List.drop_drop] using e2)
          simp only [List.forIn_cons, Sem.run_bind, hn, ne_eq, not_false_eq_true, if_true, Result.andThen_ok, u1, hq, Sem.run_pure]
          exact hr
      · cases h
    · cases h
theorem ck_run : ∀ (d : Nat) (t : TypeId) (ks : List Nat), leaf P d t = some ks → ∀ D, d ≤ D → CkOk P D t ks
  | 0, _, _, h, _, _ => by cases h
  | d + 1, t, ks, h, 0, hD => by omega
  | d + 1, t, ks, h, D + 1, hD => by
    intro em S w x a hx hagg hflat he
    unfold leaf at h
    unfold Instr.checkKey
    split at h
    · rename_i hu; simp [run_underlying hu]
    · rename_i k' hu; simp [run_underlying hu]
    · rename_i hu; simp [run_underlying hu]
    · rename_i fs hu
      split at h
      · cases h
      · rename_i hn
        have hk : (ty P t).kind = 6 := Decidable.byContradiction fun hk => hn (.inr hk)
        have ha := (ty_agg (P := P) (t := t) (by omega)).1 hk
        have e1 := hagg ha
        generalize a.cs = cs at *
        subst e1
        split at h
        · rename_i ks' hl
          split at h
          · injection h with h
            subst h
            cases hx with
            | agg xs _ hxn hxr =>
              simp only [Sem.run_bind, run_underlying hu, Result.andThen_ok]
              rw [← Array.forIn_toList]
              have := ckFields_run (em := em) (D := D) (fun t ks h => ck_run d t ks h D (by omega)) hxn hxr fs.toList 0 _ (Nat.zero_le _) hl (by simpa using he)
              simp only [Sem.run_bind, this, Result.andThen_ok, Sem.run_pure] at this ⊢
          · cases h
        · cases h
    · cases h
end

/-! Entries that stand for pairs. -/
def RM (S : Addr → Prop) (w : World) : List MapEntry → List (V × V) → Prop
  | [], [] => True
  | e :: es, x :: m => (R S w e.key x.1 ∧ R S w e.val x.2) ∧ RM S w es m
  | _, _ => False
theorem RM.of {S : Addr → Prop} {w : World} : ∀ {es : List MapEntry} {m : List (V × V)}, es.length = m.length → (∀ k, k < m.length → R S w (es.getD k default).key (m.getD k (.any, .any)).1 ∧ R S w (es.getD k default).val (m.getD k (.any, .any)).2) → RM S w es m
  | [], [], _, _ => trivial
  | e :: es, x :: m, hn, h => ⟨h 0 (by simp), RM.of (by simpa using hn) fun k hk => by simpa using h (k + 1) (by simpa using hk)⟩
  | [], _ :: _, hn, _ => by simp at hn
  | _ :: _, [], hn, _ => by simp at hn
theorem RM.back {S : Addr → Prop} {w : World} : ∀ {es : List MapEntry} {m : List (V × V)}, RM S w es m → es.length = m.length ∧ ∀ k, k < m.length → R S w (es.getD k default).key (m.getD k (.any, .any)).1 ∧ R S w (es.getD k default).val (m.getD k (.any, .any)).2
  | [], [], _ => ⟨rfl, fun k hk => absurd hk (Nat.not_lt_zero _)⟩
  | e :: es, x :: m, ⟨h1, h3⟩ => by
    obtain ⟨g1, g2⟩ := RM.back h3
    refine ⟨by simp [g1], fun k hk => ?_⟩
    cases k with
    | zero => exact h1
    | succ k => simpa using g2 k (by simpa using hk)
  | [], _ :: _, h => h.elim
  | _ :: _, [], h => h.elim
theorem RM.mono {S S' : Addr → Prop} {w w' : World} (hs : ∀ a, S a → S' a ∧ w'.cell? a = w.cell? a) : ∀ {es : List MapEntry} {m : List (V × V)}, RM S w es m → RM S' w' es m
  | [], [], _ => trivial
  | e :: es, x :: m, ⟨h1, h3⟩ => ⟨⟨h1.1.mono hs, h1.2.mono hs⟩, RM.mono hs h3⟩
  | [], _ :: _, h => h.elim
  | _ :: _, [], h => h.elim

/-! What a look-up, an update, a deletion come to. -/
def lookV (kd : V) : List (V × V) → Option V
  | x :: m => if eqL kd.cs x.1.cs = true then some x.2 else lookV kd m
  | [] => none
def updV (kd vd : V) : List (V × V) → List (V × V)
  | x :: m => if eqL kd.cs x.1.cs = true then (x.1, vd) :: m else x :: updV kd vd m
  | [] => [(kd, vd)]
def dropV (kd : V) : List (V × V) → List (V × V)
  | x :: m => if eqL kd.cs x.1.cs = true then m else x :: dropV kd m
  | [] => []
/-- The keys may be compared. -/
def keysS (ks : List Nat) (kd : V) (m : List (V × V)) : Prop := eqLS ks kd.cs kd.cs ∧ ∀ x ∈ m, eqLS ks kd.cs x.1.cs
def shapeS (P : Program) (t : TypeId) (m : List (V × V)) (kd : V) : Prop := ((ty P t).agg = true → kd = .agg kd.cs ∧ ∀ x ∈ m, x.1 = .agg x.1.cs) ∧ ((ty P t).agg = false → kd.cs = [kd] ∧ ∀ x ∈ m, x.1.cs = [x.1])
def KeyS (P : Program) (t : TypeId) (kd : V) (m : List (V × V)) : Prop := (ty P t).kind = 8 ∧ (match keyT P (ty P t).key with
  | some ks => keysS ks kd m
  | none => False) ∧ shapeS P (ty P t).key m kd
/-- The place of the first entry with a key. -/
def placeE (kd : V) : List (V × V) → Nat → Option Nat
  | x :: m, i => if eqL kd.cs x.1.cs = true then some i else placeE kd m (i + 1)
  | [], _ => none
section
variable {P : Program}
theorem find_run {kt : TypeId} {ks : List Nat} (ht : keyT P kt = some ks) {S : Addr → Prop} {w : World} {k : Value} {kd : V} (hk : R S w k kd) : ∀ (es : List MapEntry) (m : List (V × V)), RM S w es m → (∀ x ∈ m, eqLS ks kd.cs x.1.cs) → ((ty P kt).agg = true → kd = .agg kd.cs ∧ ∀ x ∈ m, x.1 = .agg x.1.cs) → ((ty P kt).agg = false → kd.cs = [kd] ∧ ∀ x ∈ m, x.1.cs = [x.1]) → ∀ i,
    (Instr.findAsking kt k es i).run P w = .ok ((placeE kd m i).map fun j => (j, (es.getD (j - i) default).val)) w ∧ (∀ j, placeE kd m i = some j → i ≤ j)
  | [], [], _, _, _, _, i => by simp [Instr.findAsking, placeE]
  | e :: es, x :: m, h, he, ha, hf, i => by
    have hq := eq_run (P := P) 6 kt ks ht 9999 (by decide) S w k e.key kd x.1 hk h.1.1 (fun h' => ⟨(ha h').1, (ha h').2 x (by simp)⟩) (fun h' => ⟨(hf h').1, (hf h').2 x (by simp)⟩) (he x (by simp))
    have hq' : (Op.equal kt k e.key).run P w = .ok (eqL kd.cs x.1.cs) w := eq_run (P := P) 6 kt ks ht 10000 (by decide) S w k e.key kd x.1 hk h.1.1 (fun h' => ⟨(ha h').1, (ha h').2 x (by simp)⟩) (fun h' => ⟨(hf h').1, (hf h').2 x (by simp)⟩) (he x (by simp))
    unfold Instr.findAsking placeE
    cases hb : eqL kd.cs x.1.cs with
    | true =>
      rw [hb] at hq'
      refine ⟨by simp [hq'], fun j hj => ?_⟩
      simp at hj; omega
    | false =>
      rw [hb] at hq'
      obtain ⟨r1, r2⟩ := find_run ht hk es m h.2 (fun y hy => he y (by simp [hy])) (fun h' => ⟨(ha h').1, fun y hy => (ha h').2 y (by simp [hy])⟩) (fun h' => ⟨(hf h').1, fun y hy => (hf h').2 y (by simp [hy])⟩) (i + 1)
      have r2' := r2
      refine ⟨?_, fun j hj => ?_⟩
      · simp only [Sem.run_bind, hq', Result.andThen_ok, Bool.false_eq_true, if_false, r1]
        congr 1
        cases hp : placeE kd m (i + 1) with
        | none => rfl
        | some j =>
          have := r2 j hp
          simp only [Option.map_some]
          rw [show j - i = (j - (i + 1)) + 1 by omega]
          simp
      · have := r2 j (by simpa using hj); omega
  | [], _ :: _, h, _, _, _, _ => h.elim
  | _ :: _, [], h, _, _, _, _ => h.elim
theorem toList_inj' {a b : ByteArray} (h : a.toList = b.toList) : a = b := by
  have e : ∀ c : ByteArray, c.toList = c.data.toList := fun c => by
    have := bs_toList c.data.toList
    rwa [show bs c.data.toList = c by cases c; simp [bs]] at this
  rw [e, e] at h
  cases a; cases b
  simp only at h
  congr 1
  exact Array.toList_inj.1 h
theorem ba_same (a : ByteArray) : (a == a) = true := by cases a; exact beq_self_eq_true (α := Array UInt8) _
theorem ba_not {a b : ByteArray} (h : ¬ a = b) : (a == b) = false := by
  cases a with | mk x => cases b with | mk y =>
    show (x == y) = false
    exact beq_eq_false_iff_ne.2 fun e => h (by rw [e])
/-- Where 'findNow' answers it answers as 'findAsking' does. -/
theorem now_asking {kt : TypeId} {kind : TypeDesc} {k : Value} {w : World} (hu : P.underlying kt = some kind) : ∀ (es : List MapEntry) (i : Nat) (r : Option (Nat × Value)), Instr.findNow kind k es i = some r → (Instr.findAsking kt k es i).run P w = .ok r w
  | [], i, r, h => by
    injection h with h
    subst h
    simp [Instr.findAsking]
  | e :: es, i, r, h => by
    have hs : ∀ b, Instr.sameNow kind k e.key = some b → (Op.equal kt k e.key).run P w = .ok b w := by
      intro b hb
      have deep : ∀ {r : Bool} {x y : Value}, (∀ d, (Op.equalIn (d + 1) kt x y).run P w = .ok r w) → (Op.equal kt x y).run P w = .ok r w := fun h => h 9999
      refine deep fun d => ?_
      unfold Instr.sameNow at hb
      split at hb
      · rename_i he
        split at hb
        · rename_i hab
          subst hab
          injection hb with hb
          subst hb
          rw [he]
          exact run_equalIn_int w d kt _ _ _ _ hu
        · cases hb
      · rename_i a' b' he
        injection hb with hb; subst hb
        rw [he, run_equalIn_string w d kt _ _ hu]
        congr 1
        by_cases hab : a' = b'
        · subst hab; rw [ba_same]; simp
        · have : ¬ a'.toList = b'.toList := fun h => hab (toList_inj' h)
          rw [ba_not hab]; simp [this]
      · rename_i he; injection hb with hb; subst hb; rw [he]; exact run_equalIn_bool' w d kt _ _ hu
      · cases hb
    unfold Instr.findNow at h
    unfold Instr.findAsking
    split at h
    · rename_i hq
      injection h with h
      subst h
      simp [hs true hq]
    · rename_i hq
      simp [hs false hq, now_asking hu es (i + 1) r h]
    · cases h
theorem findKey_run {kt : TypeId} {ks : List Nat} (ht : keyT P kt = some ks) {S : Addr → Prop} {w : World} {k : Value} {kd : V} (hk : R S w k kd) {es : List MapEntry} {m : List (V × V)} (hm : RM S w es m) (he : ∀ x ∈ m, eqLS ks kd.cs x.1.cs) (ha : (ty P kt).agg = true → kd = .agg kd.cs ∧ ∀ x ∈ m, x.1 = .agg x.1.cs) (hf : (ty P kt).agg = false → kd.cs = [kd] ∧ ∀ x ∈ m, x.1.cs = [x.1]) :
    (Instr.findKey kt k es).run P w = .ok ((placeE kd m 0).map fun j => (j, (es.getD j default).val)) w := by
  have h1 := (find_run ht hk es m hm he ha hf 0).1
  simp only [Nat.sub_zero] at h1
  obtain ⟨d, hd⟩ : ∃ d, P.underlying kt = some d := by
    have : (ty P kt).kind ≠ 0 := (leaf_ty ht).1
    cases hu : P.underlying kt with
    | some d => exact ⟨d, rfl⟩
    | none => exfalso; apply this; unfold ty; rw [hu]; cases P.info? kt <;> rfl
  unfold Instr.findKey
  rw [Sem.run_bind, run_underlying hd]
  simp only [Result.andThen_ok]
  cases hn : Instr.findNow d k es 0 with
  | none => exact h1
  | some r =>
    have := now_asking (P := P) (w := w) hd es 0 r hn
    rw [h1] at this
    simp only [Sem.run_pure]
    exact this.symm
theorem place_lt {kd : V} : ∀ (m : List (V × V)) (i j : Nat), placeE kd m i = some j → i ≤ j ∧ j < i + m.length ∧ eqL kd.cs (m.getD (j - i) (.any, .any)).1.cs = true
  | [], i, j, h => by cases h
  | x :: m, i, j, h => by
    unfold placeE at h
    split at h
    · rename_i hb; injection h with h; subst h
      exact ⟨Nat.le_refl _, by simp, by simpa using hb⟩
    · obtain ⟨h1, h2, h3⟩ := place_lt m (i + 1) j h
      refine ⟨by omega, by simp; omega, ?_⟩
      rw [show j - i = (j - (i + 1)) + 1 by omega]
      simpa using h3
theorem look_place {kd : V} : ∀ (m : List (V × V)) (i : Nat), lookV kd m = (placeE kd m i).map fun j => (m.getD (j - i) (.any, .any)).2
  | [], i => rfl
  | x :: m, i => by
    unfold lookV placeE
    split
    · simp
    · rw [look_place m (i + 1)]
      cases hp : placeE kd m (i + 1) with
      | none => rfl
      | some j =>
        have := place_lt m (i + 1) j hp
        simp only [Option.map_some]
        rw [show j - i = (j - (i + 1)) + 1 by omega]
        simp
theorem upd_place {kd vd : V} : ∀ (m : List (V × V)) (i : Nat), updV kd vd m = match placeE kd m i with
    | some j => m.set (j - i) ((m.getD (j - i) (.any, .any)).1, vd)
    | none => m ++ [(kd, vd)]
  | [], i => rfl
  | x :: m, i => by
    unfold updV placeE
    split
    · simp
    · rw [upd_place m (i + 1)]
      cases hp : placeE kd m (i + 1) with
      | none => rfl
      | some j =>
        have := place_lt m (i + 1) j hp
        simp only
        rw [show j - i = (j - (i + 1)) + 1 by omega]
        simp
theorem drop_place {kd : V} : ∀ (m : List (V × V)) (i : Nat), dropV kd m = match placeE kd m i with
    | some j => m.eraseIdx (j - i)
    | none => m
  | [], i => rfl
  | x :: m, i => by
    unfold dropV placeE
    split
    · simp
    · rw [drop_place m (i + 1)]
      cases hp : placeE kd m (i + 1) with
      | none => rfl
      | some j =>
        have := place_lt m (i + 1) j hp
        simp only
        rw [show j - i = (j - (i + 1)) + 1 by omega]
        simp
/-- Keys that are alike are one value. -/
theorem eqL_val {S : Addr → Prop} {w : World} : ∀ {ks : List Nat} {l m : List V}, eqLS ks l m → eqL l m = true → l = m
  | [], [], [], _, _ => rfl
  | k :: ks, a :: l, b :: m, h, e => by
    unfold eqL at e
    rw [Bool.and_eq_true] at e
    rw [eqL_val (S := S) (w := w) h.2 e.2]
    have h := h.1
    have e := e.1
    cases a <;> cases b <;> first | exact h.elim | simp_all
  | [], _ :: _, _, h, _ => h.elim
  | [], [], _ :: _, h, _ => h.elim
  | _ :: _, [], _, h, _ => h.elim
  | _ :: _, _ :: _, [], h, _ => h.elim

/-- What a leaf holds is one value, and the same bits as itself. -/
theorem leaf_uniq {S : Addr → Prop} {w : World} {u v : Value} {k : Nat} {d : V} (hd : match d with
    | .int _ _ => k = 2
    | .str _ => k = 3
    | .bool _ => k = 1
    | _ => False) (hu : R S w u d) (hv : R S w v d) : u = v ∧ ∀ n, Instr.sameBits n u u = true := by
  cases d <;> first | exact hd.elim | (cases hu; cases hv; refine ⟨rfl, fun n => ?_⟩; cases n <;> first | (simp [Instr.sameBits]; done) | (simp only [Instr.sameBits, ba_same]; done) | exact ba_same _)
theorem kinds_uniq {S : Addr → Prop} {w : World} : ∀ {ks : List Nat} {cs : List V} {xs ys : List Value}, kindS ks cs → xs.length = cs.length → ys.length = cs.length → (∀ k, k < cs.length → R S w (xs.getD k undef) (cs.getD k .any)) → (∀ k, k < cs.length → R S w (ys.getD k undef) (cs.getD k .any)) → xs = ys ∧ ∀ x ∈ xs, ∀ n, Instr.sameBits n x x = true
  | [], [], [], [], _, _, _, _, _ => ⟨rfl, fun _ h => nomatch h⟩
  | k :: ks, c :: cs, x :: xs, y :: ys, hk, h1, h2, hx, hy => by
    obtain ⟨g1, g2⟩ := kinds_uniq (xs := xs) (ys := ys) hk.2 (by simpa using h1) (by simpa using h2) (fun k hk => by simpa using hx (k + 1) (by simpa using hk)) (fun k hk => by simpa using hy (k + 1) (by simpa using hk))
    obtain ⟨e1, e2⟩ := leaf_uniq hk.1 (by simpa using hx 0 (by simp)) (by simpa using hy 0 (by simp))
    refine ⟨by rw [e1, g1], fun z hz => ?_⟩
    rcases List.mem_cons.1 hz with rfl | hz
    · exact e2
    · exact g2 z hz
  | [], _ :: _, _, _, h, _, _, _, _ => h.elim
  | _ :: _, [], _, _, h, _, _, _, _ => h.elim
  | _, _ :: _, [], _, _, h, _, _, _ => by simp at h
  | _, [], _ :: _, _, _, h, _, _, _ => by simp at h
  | _, _ :: _, _, [], _, _, h, _, _ => by simp at h
  | _, [], _, _ :: _, _, _, h, _, _ => by simp at h
theorem key_uniq' {S : Addr → Prop} {w : World} {ks : List Nat} {d : V} {u v : Value} (hk : kindS ks d.cs) (hs : d = .agg d.cs ∨ d.cs = [d]) (hu : R S w u d) (hv : R S w v d) : u = v ∧ Instr.sameBits 10000 u u = true := by
  rcases hs with hs | hs
  · generalize d.cs = cs at *
    subst hs
    cases hu with
    | agg xs _ hn hr =>
      cases hv with
      | agg ys _ hn' hr' =>
        obtain ⟨g1, g2⟩ := kinds_uniq (xs := xs.toList) (ys := ys.toList) hk (by simpa using hn) (by simpa using hn') (fun k hk => by simpa [Array.getD_eq_getD_getElem?, List.getD_eq_getElem?_getD] using hr k hk) (fun k hk => by simpa [Array.getD_eq_getD_getElem?, List.getD_eq_getElem?_getD] using hr' k hk)
        have e : xs = ys := by cases xs; cases ys; simpa using g1
        subst e
        refine ⟨rfl, ?_⟩
        unfold Instr.sameBits
        simp only [beq_self_eq_true, Bool.true_and, List.all_eq_true]
        intro p hp
        have : p.1 = p.2 ∧ p.1 ∈ xs.toList := by
          have := List.of_mem_zip hp
          obtain ⟨i, hi, rfl⟩ := List.getElem_of_mem hp
          simp
        rw [← this.1]
        exact g2 _ this.2 _
  · rw [hs] at hk
    cases ks with
    | nil => exact hk.elim
    | cons k ks =>
      obtain ⟨g1, g2⟩ := leaf_uniq hk.1 hu hv
      exact ⟨g1, g2 _⟩
/-- What a type's zero stands for. -/
def zeroD (P : Program) (t : TypeId) : V := match (P.info? t).bind (·.zero) with
  | some v => ofConst v
  | none => .any
/-- A map that is owned, and the rest. -/
def OnM (H : Own) (r : Nat) (G : List (V × V) → (Ent → Own) → Prop) : Prop := ∃ m, On H (.map r m) (G m)
theorem OnM.here {H : Own} {r : Nat} {m : List (V × V)} {G : List (V × V) → (Ent → Own) → Prop} (h : G m fun x => x :: H) : OnM (.map r m :: H) r G := ⟨m, On.here h⟩
theorem OnM.next {H : Own} {r : Nat} {y : Ent} {G : List (V × V) → (Ent → Own) → Prop} (h : OnM H r fun m C => G m fun x => y :: C x) : OnM (y :: H) r G := by
  obtain ⟨m, h⟩ := h
  exact ⟨m, On.next h⟩
section
variable {o : Oper} {f : Operand → V} {H : Own} {K : V → Own → Prop}
theorem KeyS.parts {t : TypeId} {kd : V} {m : List (V × V)} (h : KeyS P t kd m) : ∃ ks, P.underlying t = some (.map (ty P t).key (ty P t).elem) ∧ keyT P (ty P t).key = some ks ∧ keysS ks kd m ∧ shapeS P (ty P t).key m kd := by
  obtain ⟨h1, h2, h3⟩ := h
  cases hk : keyT P (ty P t).key with
  | none => rw [hk] at h2; exact h2.elim
  | some ks => rw [hk] at h2; exact ⟨ks, und_map h1, rfl, h2, h3⟩
theorem KeyS.check {t : TypeId} {kd : V} {m : List (V × V)} (h : KeyS P t kd m) {S : Addr → Prop} {w : World} {k : Value} (hk : R S w k kd) (em : Bool) : (Instr.checkKey em 10000 (ty P t).key k).run P w = .ok () w := by
  obtain ⟨ks, _, h2, h3, h4⟩ := h.parts
  exact ck_run (P := P) 6 _ ks h2 10000 (by decide) em S w k kd hk (fun ha => (h4.1 ha).1) (fun ha => (h4.2 ha).1) (kindS_of h3.1)
theorem KeyS.find {t : TypeId} {kd : V} {m : List (V × V)} (h : KeyS P t kd m) {S : Addr → Prop} {w : World} {k : Value} (hk : R S w k kd) {es : List MapEntry} (hm : RM S w es m) : (Instr.findKey (ty P t).key k es).run P w = .ok ((placeE kd m 0).map fun j => (j, (es.getD j default).val)) w := by
  obtain ⟨ks, _, h2, h3, h4⟩ := h.parts
  exact findKey_run h2 hk hm h3.2 h4.1 h4.2
theorem map_of {w : World} {L1 L2 : Own} {r : Nat} {m : List (V × V)} (hs : Sim w (L1 ++ .map r m :: L2)) : ∃ es clock, w.heap[r]? = some (.map es clock) ∧ RM (stable w (L1 ++ .map r m :: L2)) w es.toList m ∧ es.size = m.length ∧
    (∀ i j, i < j → j < es.size → (es.getD i default).born < (es.getD j default).born) ∧ ∀ i, i < es.size → (es.getD i default).born < clock := by
  obtain ⟨es, clock, h1, h2, h3, h4, h5⟩ := hs.holds (.map r m) (by simp)
  exact ⟨es, clock, h1, RM.of (by simpa using h2) (fun k hk => by simpa [Array.getD_eq_getD_getElem?, List.getD_eq_getElem?_getD] using h3 k hk), h2, h4, h5⟩
/-- A look-up in a map that is owned. -/
theorem DOp.look_ {t : TypeId} {x ix : Operand} {ok : Bool} {r : Nat} (hop : o.op = .lookup t x ix ok) (hx : f x = .raw (.map (some r)))
    (h : OnM H r fun m _ => (KeyS P t (f ix) m ∧ (ty P (ty P t).elem).kind ≠ 0 ∧ (ty P (ty P t).elem).kind ≠ 11 ∧ (ty P (ty P t).elem).zero ≠ []) ∧ K (if ok = true then .tup [(lookV (f ix) m).getD (zeroD P (ty P t).elem), .bool (lookV (f ix) m).isSome] else (lookV (f ix) m).getD (zeroD P (ty P t).elem)) H) : DOp P o f H K := by
  obtain ⟨m, L1, L2, rfl, ⟨hK, z0, z1, z2⟩, hk⟩ := h
  refine DOp.step fun a w hs hr => ?_
  have hv := hr x (by simp [hop, Op.operands])
  rw [hx] at hv
  have hv : a.eval x = .map (some r) := by generalize a.eval x = v at hv; cases hv; rfl
  have hi := hr ix (by simp [hop, Op.operands])
  obtain ⟨es, clock, g1, g2, g3, _, _⟩ := map_of hs
  obtain ⟨ks, hu, _, _, _⟩ := hK.parts
  have hck := hK.check hi es.isEmpty
  have hfi := hK.find hi g2
  have hget : (getObj r).run P w = .ok (.map es clock) w := by simp [getObj, Sem.run, g1]
  obtain ⟨i, d, i1, _, _, _, _, i2⟩ := ty_info (P := P) (t := (ty P t).elem) rfl z0 z1
  cases hzz : i.zero with
  | none => rw [hzz] at i2; exact absurd i2 z2
  | some z =>
    have hzd : zeroD P (ty P t).elem = ofConst z := by simp [zeroD, i1, hzz]
    have hzr : (zeroValue (ty P t).elem).run P w = .ok z w := by simp [zeroValue, typeInfo, program, Sem.run, i1, hzz]
    obtain ⟨b1, b2⟩ := g2.back
    have hres : ∃ v, (R (stable w (L1 ++ .map r m :: L2)) w v ((lookV (f ix) m).getD (zeroD P (ty P t).elem))) ∧ (Instr.lookup t (a.eval x) (a.eval ix) ok).run P w = .ok (if ok then .tuple #[v, .bool (lookV (f ix) m).isSome] else v) w := by
      unfold Instr.lookup
      rw [hv]
      simp only [Sem.run_bind, run_underlying hu, Result.andThen_ok, hget, Sem.run_pure, hck, hfi]
      rw [look_place m 0]
      cases hp : placeE (f ix) m 0 with
      | none =>
        refine ⟨z, by rw [hzd]; exact R.const _ _ _, ?_⟩
        simp [hzr]
      | some j =>
        obtain ⟨_, j2, _⟩ := place_lt m 0 j hp
        refine ⟨(es.toList.getD j default).val, by simpa using (b2 j (by omega)).2, ?_⟩
        simp
    obtain ⟨v, v1, v2⟩ := hres
    refine ⟨(if ok then .tuple #[v, .bool (lookV (f ix) m).isSome] else v), w, _, _, ?_, ⟨hs, .refl _ _⟩, ?_, hk⟩
    · unfold execOp
      rw [hop]
      simp [v2]
    · cases ok with
      | true => exact .tup _ _ rfl (fun k hk => match k, hk with
        | 0, _ => v1
        | 1, _ => .bool _)
      | false => exact v1
theorem RM.set {S : Addr → Prop} {w : World} {e : MapEntry} {x : V × V} (h : R S w e.key x.1 ∧ R S w e.val x.2) : ∀ {es : List MapEntry} {m : List (V × V)} (j : Nat), RM S w es m → RM S w (es.set j e) (m.set j x)
  | [], [], _, _ => trivial
  | _ :: es, _ :: m, 0, ⟨_, h2⟩ => ⟨h, h2⟩
  | _ :: es, _ :: m, j + 1, ⟨h1, h2⟩ => ⟨h1, RM.set h j h2⟩
  | [], _ :: _, _, h => h.elim
  | _ :: _, [], _, h => h.elim
theorem RM.push {S : Addr → Prop} {w : World} {e : MapEntry} {x : V × V} (h : R S w e.key x.1 ∧ R S w e.val x.2) : ∀ {es : List MapEntry} {m : List (V × V)}, RM S w es m → RM S w (es ++ [e]) (m ++ [x])
  | [], [], _ => ⟨h, trivial⟩
  | _ :: es, _ :: m, ⟨h1, h2⟩ => ⟨h1, RM.push h h2⟩
  | [], _ :: _, h => h.elim
  | _ :: _, [], h => h.elim
theorem RM.erase {S : Addr → Prop} {w : World} : ∀ {es : List MapEntry} {m : List (V × V)} (j : Nat), RM S w es m → RM S w (es.eraseIdx j) (m.eraseIdx j)
  | [], [], _, _ => trivial
  | _ :: es, _ :: m, 0, ⟨_, h2⟩ => h2
  | _ :: es, _ :: m, j + 1, ⟨h1, h2⟩ => ⟨h1, RM.erase j h2⟩
  | [], _ :: _, _, h => h.elim
  | _ :: _, [], _, h => h.elim
/-- A map that is owned turns. -/
theorem Sim.turn {w : World} {L1 L2 : Own} {r : Nat} {m m' : List (V × V)} {es es' : Array MapEntry} {clock clock' : Nat} (hs : Sim w (L1 ++ .map r m :: L2)) (h1 : w.heap[r]? = some (.map es clock))
    (hm : RM (stable w (L1 ++ .map r m :: L2)) w es'.toList m') (hb : ∀ i j, i < j → j < es'.size → (es'.getD i default).born < (es'.getD j default).born) (hc : ∀ i, i < es'.size → (es'.getD i default).born < clock') :
    Sim { w with heap := w.heap.setIfInBounds r (.map es' clock') } (L1 ++ .map r m' :: L2) ∧ Ext w (L1 ++ .map r m :: L2) { w with heap := w.heap.setIfInBounds r (.map es' clock') } (L1 ++ .map r m' :: L2) := by
  have hlt : r < w.heap.size := (Array.getElem?_eq_some_iff.1 h1).1
  refine Sim.swap (e0 := .map r m) (e1 := .map r m') hs rfl rfl rfl (by simp) (fun b _ hb => by simp only [Array.getElem?_setIfInBounds]; rw [if_neg (fun e => hb e.symm)]) (fun q _ hq => by
    simp only [World.cell?, Array.getElem?_setIfInBounds]; rw [if_neg (fun e => hq e.symm)]) (fun b hb => .inl hb) (fun q hq => .inl hq) (fun hst => ?_)
  obtain ⟨b1, b2⟩ := (hm.mono hst).back
  refine ⟨es', clock', ?_, by simpa using b1, fun k hk => ?_, hb, hc⟩
  · show (w.heap.setIfInBounds r _)[r]? = _
    simp [Array.getElem?_setIfInBounds, hlt]
  · simpa [Array.getD_eq_getD_getElem?, List.getD_eq_getElem?_getD] using b2 k hk
/-- A map that is owned is written. -/
theorem DOp.upd_ {t : TypeId} {x ix v : Operand} {r : Nat} (hop : o.op = .mapUpdate t x ix v) (hx : f x = .raw (.map (some r)))
    (h : OnM H r fun m C => KeyS P t (f ix) m ∧ K .any (C (.map r (updV (f ix) (f v) m)))) : DOp P o f H K := by
  obtain ⟨m, L1, L2, rfl, hK, hk⟩ := h
  refine DOp.skip_ fun a w hs hr => ?_
  have hv := hr x (by simp [hop, Op.operands])
  rw [hx] at hv
  have hv : a.eval x = .map (some r) := by generalize a.eval x = v at hv; cases hv; rfl
  have hi := hr ix (by simp [hop, Op.operands])
  have hval := hr v (by simp [hop, Op.operands])
  obtain ⟨es, clock, g1, g2, g3, g4, g5⟩ := map_of hs
  obtain ⟨ks, hu, _, k1, k2⟩ := hK.parts
  have hck := hK.check hi false
  have hfi := hK.find hi g2
  have hget : (getObj r).run P w = .ok (.map es clock) w := by simp [getObj, Sem.run, g1]
  have hset : ∀ o' : Obj, (setObj r o').run P w = .ok () { w with heap := w.heap.setIfInBounds r o' } := fun o' => by simp [setObj, Sem.run, g1]
  obtain ⟨b1, b2⟩ := g2.back
  have hup := upd_place (kd := f ix) (vd := f v) m 0
  cases hp : placeE (f ix) m 0 with
  | none =>
    rw [hp] at hfi hup
    simp only at hup
    refine ⟨_, _, ?_, Sim.turn (m' := updV (f ix) (f v) m) (es' := es.push { key := a.eval ix, val := a.eval v, born := clock }) (clock' := clock + 1) hs g1 ?_ ?_ ?_, hk⟩
    · unfold execOp
      rw [hop]
      simp [Instr.mapUpdate, hv, run_underlying hu, hget, hck, hfi, hset]
    · rw [hup, Array.toList_push]
      exact RM.push ⟨hi, hval⟩ g2
    · intro i j hij hj
      simp only [Array.size_push] at hj
      rcases Nat.lt_or_ge j es.size with hj' | hj'
      · have := g4 i j hij hj'
        simpa [Array.getD_eq_getD_getElem?, Array.getElem?_push, show i ≠ es.size by omega, show j ≠ es.size by omega] using this
      · obtain rfl : j = es.size := by omega
        have := g5 i hij
        simpa [Array.getD_eq_getD_getElem?, Array.getElem?_push, show i ≠ es.size by omega] using this
    · intro i hi'
      simp only [Array.size_push] at hi'
      rcases Nat.lt_or_ge i es.size with hj' | hj'
      · have := g5 i hj'
        have e : (es.push { key := a.eval ix, val := a.eval v, born := clock }).getD i default = es.getD i default := by simp [Array.getD_eq_getD_getElem?, Array.getElem?_push, show i ≠ es.size by omega]
        rw [e]; omega
      · obtain rfl : i = es.size := by omega
        simp [Array.getD_eq_getD_getElem?, Array.getElem?_push]
  | some j =>
    rw [hp] at hfi hup
    simp only [Nat.sub_zero] at hup
    obtain ⟨_, j2, j3⟩ := place_lt m 0 j hp
    simp only [Nat.sub_zero, Nat.zero_add] at j2 j3
    have hj : j < es.size := by omega
    have hold := b2 j j2
    have hmem : m.getD j (.any, .any) ∈ m := by rw [List.getD_eq_getElem?_getD, List.getElem?_eq_getElem j2]; exact List.getElem_mem j2
    have hcs := eqL_val (S := stable w (L1 ++ .map r m :: L2)) (w := w) (k1.2 _ hmem) j3
    have hsame : (m.getD j (.any, .any)).1 = f ix := by
      cases ha : (ty P (ty P t).key).agg with
      | true => rw [(k2.1 ha).2 _ hmem, (k2.1 ha).1, hcs]
      | false =>
        have e1 := (k2.2 ha).2 _ hmem
        have e2 := (k2.2 ha).1
        rw [e1, e2] at hcs
        simpa using hcs.symm
    have hkey := hold.1
    rw [hsame] at hkey
    have hshape : f ix = .agg (f ix).cs ∨ (f ix).cs = [f ix] := by
      cases ha : (ty P (ty P t).key).agg with
      | true => exact .inl (k2.1 ha).1
      | false => exact .inr (k2.2 ha).1
    obtain ⟨u1, u2⟩ := key_uniq' (kindS_of k1.1) hshape hkey hi
    have hes : (es.toList.getD j default).key = (es[j]?.map (·.key)).getD (a.eval ix) := by
      simp [List.getD_eq_getElem?_getD, hj]
    have hstay : (Instr.keyThatStays ((es[j]?.map (·.key)).getD (a.eval ix)) (a.eval ix)).run P w = .ok (a.eval ix) w := by
      rw [← hes, u1]
      rw [u1] at u2
      unfold Instr.keyThatStays
      rw [if_pos u2]
      rfl
    refine ⟨_, _, ?_, Sim.turn (m' := updV (f ix) (f v) m) (es' := es.modify j fun e => { e with key := a.eval ix, val := a.eval v }) (clock' := clock) hs g1 ?_ ?_ ?_, hk⟩
    · unfold execOp
      rw [hop]
      simp [Instr.mapUpdate, hv, run_underlying hu, hget, hck, hfi, hset, hstay]
    · rw [hup, hsame]
      have e : (es.modify j fun e => { e with key := a.eval ix, val := a.eval v }).toList = es.toList.set j { (es.toList.getD j default) with key := a.eval ix, val := a.eval v } := by
        rw [Array.toList_modify]
        refine List.ext_getElem? fun i => ?_
        rw [List.getElem?_modify, List.getElem?_set]
        by_cases hij : j = i
        · subst hij; simp [hj, List.getD_eq_getElem?_getD]
        · simp [hij]
      rw [e]
      exact RM.set ⟨hi, hval⟩ j g2
    · intro i k hij hk'
      simp only [Array.size_modify] at hk'
      have hb : ∀ i, i < es.size → ((es.modify j fun e => { e with key := a.eval ix, val := a.eval v }).getD i default).born = (es.getD i default).born := by
        intro i hi'
        simp only [Array.getD_eq_getD_getElem?, Array.getElem?_modify]
        by_cases hij : j = i
        · subst hij; simp [hj]
        · simp [hij]
      rw [hb i (by omega), hb k hk']
      exact g4 i k hij hk'
    · intro i hi'
      simp only [Array.size_modify] at hi'
      have hb : ((es.modify j fun e => { e with key := a.eval ix, val := a.eval v }).getD i default).born = (es.getD i default).born := by
        simp only [Array.getD_eq_getD_getElem?, Array.getElem?_modify]
        by_cases hij : j = i
        · subst hij; simp [hj]
        · simp [hij]
      rw [hb]; exact g5 i hi'
end
end
end Go.Proofs.YtfmjboanoojhcaaGreatDoor
/- A region that draws its order, walked once in an order of one's own: variables that are made at any time, and what keeps its order. No statement of the program. -/
namespace Go.Proofs.YtfmjboanoojhcaaGreatDoor
open Go.RowKit
set_option linter.unusedSimpArgs false
set_option linter.unusedVariables false
set_option linter.unusedSectionVars false
section
variable {P : Program} {ops : List Oper} {mv mk : List Nat} {val : Nat → Oper → (Operand → V) → V} {side : Nat → Oper → (Operand → V) → Prop} {K : (Nat → V) → Own → Prop} {n : Nat} {Rk : Nat → V → Own → Prop}

/-- The walk over data in the order s; L: what has been done; md: what the makers that have been done, and not been gone by, own. -/
def RVM (P : Program) (ops : List Oper) (mv mk : List Nat) (Rk : Nat → V → Own → Prop) (val : Nat → Oper → (Operand → V) → V) (side : Nat → Oper → (Operand → V) → Prop) (K : (Nat → V) → Own → Prop) (L : Nat → Bool) (md : Nat → Own) : List Nat → (Nat → V) → Own → Prop
  | [], F, H => K F H
  | k :: s, F, H =>
    if L k = true then RVM P ops mv mk Rk val side K L md s F (md k ++ H)
    else match ops[k]? with
      | none => False
      | some o => match gst ops o F with
        | some true =>
          if mv.contains k = true then ∀ X : Own, DOp P o (opdF F) (H ++ X) fun d H' => ∃ H1 : Own, H'.Perm (H1 ++ X) ∧ RVM P ops mv mk Rk val side K L md s (putF F o.dst d) H1
          else if mk.contains k = true then side k o (opdF F) ∧ ∀ d N, Rk k d N → RVM P ops mv mk Rk val side K L md s (putF F o.dst d) (N ++ H)
          else side k o (opdF F) ∧ RVM P ops mv mk Rk val side K L md s (putF F o.dst (val k o (opdF F))) H
        | some false => RVM P ops mv mk Rk val side K L md s (putF F o.dst (.tup [])) H
        | none => False

theorem RVM.congrL {L L' : Nat → Bool} {md md' : Nat → Own} : ∀ (s : List Nat) (F : Nat → V) (H : Own), (∀ j, j ∈ s → L j = L' j ∧ md j = md' j) → RVM P ops mv mk Rk val side K L md s F H → RVM P ops mv mk Rk val side K L' md' s F H
  | [], _, _, _, h => h
  | k :: s, F, H, he, h => by
    have ih := fun F H => RVM.congrL s F H fun j hj => he j (List.mem_cons_of_mem _ hj)
    unfold RVM at h ⊢
    obtain ⟨e1, e2⟩ := he k List.mem_cons_self
    rw [← e1, ← e2]
    split
    · rename_i hl; rw [if_pos hl] at h; exact ih _ _ h
    · rename_i hl
      rw [if_neg hl] at h
      cases ho : ops[k]? with
      | none => rw [ho] at h; exact h
      | some o =>
        rw [ho] at h
        simp only at h ⊢
        cases hg : gst ops o F with
        | none => rw [hg] at h; exact h.elim
        | some b =>
          rw [hg] at h
          cases b with
          | false => exact ih _ _ h
          | true =>
            simp only at h ⊢
            split
            · rename_i hm; rw [if_pos hm] at h; exact fun X => (h X).mono fun d H' ⟨H1, hp, h⟩ => ⟨H1, hp, ih _ _ h⟩
            · rename_i hm
              rw [if_neg hm] at h
              split
              · rename_i hk; rw [if_pos hk] at h; exact ⟨h.1, fun d N hR => ih _ _ (h.2 d N hR)⟩
              · rename_i hk; rw [if_neg hk] at h; exact ⟨h.1, ih _ _ h.2⟩

theorem perm_mid (A B C D : Own) : (A ++ B ++ C ++ D).Perm (B ++ (A ++ C) ++ D) := by
  rw [← List.append_assoc B]
  exact (List.perm_append_comm.append_right _).append_right _
theorem perm_back (A B C : Own) : (A ++ B ++ C).Perm (B ++ (A ++ C)) := by
  rw [List.append_assoc]
  exact List.perm_append_comm_assoc _ _ _
variable (hval : ∀ k o f f', (∀ x, x ∈ o.op.operands → f x = f' x) → val k o f = val k o f' ∧ (side k o f → side k o f'))
include hval

/-- What operation j, taken first, leaves: one that only yields, or is not carried out. -/
theorem RVM.pull {L : Nat → Bool} {md : Nat → Own} {j : Nat} {oj : Oper} (hoj : ops[j]? = some oj) (hj : L j = false) (hmd : md j = []) :
    ∀ (s1 s2 : List Nat) (F : Nat → V) (H : Own) (d : V), (∀ i oi, i ∈ s1 → ops[i]? = some oi → L i = false → Free ops oi oj) → j ∉ s1 → j ∉ s2 →
      (gst ops oj F = some false → d = .tup []) → (gst ops oj F = some true → mv.contains j = false ∧ mk.contains j = false ∧ d = val j oj (opdF F)) →
      RVM P ops mv mk Rk val side K L md (s1 ++ j :: s2) F H → RVM P ops mv mk Rk val side K (fun i => L i || i == j) md (s1 ++ j :: s2) (putF F oj.dst d) H
  | [], s2, F, H, d, _, _, hj2, hd0, hd1, h => by
    simp only [List.nil_append] at h ⊢
    unfold RVM at h ⊢
    rw [if_pos (by simp), hmd, List.nil_append]
    rw [if_neg (by simp [hj]), hoj] at h
    simp only at h
    have hc : ∀ {F H}, RVM P ops mv mk Rk val side K L md s2 F H → RVM P ops mv mk Rk val side K (fun i => L i || i == j) md s2 F H := fun {F H} h =>
      RVM.congrL s2 _ _ (fun i hi => ⟨by have : i ≠ j := fun e => hj2 (e ▸ hi); simp [this], rfl⟩) h
    cases hg : gst ops oj F with
    | none => rw [hg] at h; exact h.elim
    | some b =>
      rw [hg] at h
      cases b with
      | false => rw [hd0 hg]; exact hc h
      | true =>
        obtain ⟨hm, hk, hd⟩ := hd1 hg
        simp only [hm, hk, Bool.false_eq_true, if_false] at h
        rw [hd]
        exact hc h.2
  | k :: s1, s2, F, H, d, hun, hj1, hj2, hd0, hd1, h => by
    simp only [List.cons_append] at h ⊢
    have hkj : k ≠ j := fun e => hj1 (e ▸ List.mem_cons_self)
    have hneq : (k == j) = false := by simpa using hkj
    have hun' : ∀ i oi, i ∈ s1 → ops[i]? = some oi → L i = false → Free ops oi oj := fun i oi hi => hun i oi (List.mem_cons_of_mem _ hi)
    have hj1' : j ∉ s1 := fun hi => hj1 (List.mem_cons_of_mem _ hi)
    unfold RVM at h ⊢
    simp only [hneq, Bool.or_false]
    by_cases hlk : L k = true
    · rw [if_pos hlk] at h ⊢
      exact RVM.pull hoj hj hmd s1 s2 F _ d hun' hj1' hj2 hd0 hd1 h
    · rw [if_neg hlk] at h ⊢
      cases ho : ops[k]? with
      | none => rw [ho] at h; exact h
      | some o =>
        rw [ho] at h
        simp only at h ⊢
        have fr := hun k o List.mem_cons_self ho (by simpa using hlk)
        rw [fr.gst2]
        have ih := fun F' H' (e1 : gst ops oj F' = gst ops oj F) (e2 : val j oj (opdF F') = val j oj (opdF F)) => RVM.pull hoj hj hmd s1 s2 F' H' d hun' hj1' hj2 (fun h => hd0 (e1 ▸ h)) (fun h => by rw [e2]; exact hd1 (e1 ▸ h))
        cases hg : gst ops o F with
        | none => rw [hg] at h; exact h.elim
        | some b =>
          rw [hg] at h
          cases b with
          | false =>
            simp only at h ⊢
            rw [← fr.put]
            exact ih _ _ (fr.gst1 _ _) (fr.val1 hval _ _ _) h
          | true =>
            simp only at h ⊢
            split
            · rename_i hm
              rw [if_pos hm] at h
              refine fun X => ((h X).congr fun x hx => (fr.ops2 F d x hx).symm).mono fun d' H' ⟨H1, hp, h⟩ => ⟨H1, hp, ?_⟩
              rw [← fr.put]
              exact ih _ _ (fr.gst1 _ _) (fr.val1 hval _ _ _) h
            · rename_i hm
              rw [if_neg hm] at h
              split
              · rename_i hk
                rw [if_pos hk] at h
                refine ⟨fr.side2 hval _ _ _ h.1, fun d' N hR => ?_⟩
                rw [← fr.put]
                exact ih _ _ (fr.gst1 _ _) (fr.val1 hval _ _ _) (h.2 d' N hR)
              · rename_i hk
                rw [if_neg hk] at h
                refine ⟨fr.side2 hval _ _ _ h.1, ?_⟩
                rw [fr.val2 hval k, ← fr.put]
                exact ih _ _ (fr.gst1 _ _) (fr.val1 hval _ _ _) h.2
/-- A maker, taken first. -/
theorem RVM.pullK {L : Nat → Bool} {md : Nat → Own} {j : Nat} {oj : Oper} (hoj : ops[j]? = some oj) (hj : L j = false) (hm : mv.contains j = false) (hk : mk.contains j = true) {d : V} {N : Own} (hR : Rk j d N) :
    ∀ (s1 s2 : List Nat) (F : Nat → V) (H : Own), (∀ i oi, i ∈ s1 → ops[i]? = some oi → L i = false → Free ops oi oj) → j ∉ s1 → j ∉ s2 → gst ops oj F = some true →
      RVM P ops mv mk Rk val side K L md (s1 ++ j :: s2) F H → RVM P ops mv mk Rk val side K (fun i => L i || i == j) (fun i => if i = j then N else md i) (s1 ++ j :: s2) (putF F oj.dst d) H
  | [], s2, F, H, _, _, hj2, hgj, h => by
    simp only [List.nil_append] at h ⊢
    unfold RVM at h ⊢
    rw [if_pos (by simp)]
    rw [if_neg (by simp [hj]), hoj] at h
    simp only [hgj, hm, hk, Bool.false_eq_true, if_false, if_true] at h ⊢
    exact RVM.congrL s2 _ _ (fun i hi => by have : i ≠ j := fun e => hj2 (e ▸ hi); simp [this]) (h.2 d N hR)
  | k :: s1, s2, F, H, hun, hj1, hj2, hgj, h => by
    simp only [List.cons_append] at h ⊢
    have hkj : k ≠ j := fun e => hj1 (e ▸ List.mem_cons_self)
    have hneq : (k == j) = false := by simpa using hkj
    have hun' : ∀ i oi, i ∈ s1 → ops[i]? = some oi → L i = false → Free ops oi oj := fun i oi hi => hun i oi (List.mem_cons_of_mem _ hi)
    have hj1' : j ∉ s1 := fun hi => hj1 (List.mem_cons_of_mem _ hi)
    unfold RVM at h ⊢
    simp only [hneq, Bool.or_false, if_neg hkj]
    by_cases hlk : L k = true
    · rw [if_pos hlk] at h ⊢
      exact RVM.pullK hoj hj hm hk hR s1 s2 F _ hun' hj1' hj2 hgj h
    · rw [if_neg hlk] at h ⊢
      cases ho : ops[k]? with
      | none => rw [ho] at h; exact h
      | some o =>
        rw [ho] at h
        simp only at h ⊢
        have fr := hun k o List.mem_cons_self ho (by simpa using hlk)
        rw [fr.gst2]
        have ih := fun F' H' (e1 : gst ops oj F' = gst ops oj F) => RVM.pullK (md := md) hoj hj hm hk hR s1 s2 F' H' hun' hj1' hj2 (e1 ▸ hgj)
        cases hg : gst ops o F with
        | none => rw [hg] at h; exact h.elim
        | some b =>
          rw [hg] at h
          cases b with
          | false =>
            simp only at h ⊢
            rw [← fr.put]
            exact ih _ _ (fr.gst1 _ _) h
          | true =>
            simp only at h ⊢
            split
            · rename_i hm
              rw [if_pos hm] at h
              refine fun X => ((h X).congr fun x hx => (fr.ops2 F d x hx).symm).mono fun d' H' ⟨H1, hp, h⟩ => ⟨H1, hp, ?_⟩
              rw [← fr.put]
              exact ih _ _ (fr.gst1 _ _) h
            · rename_i hm
              rw [if_neg hm] at h
              split
              · rename_i hk
                rw [if_pos hk] at h
                refine ⟨fr.side2 hval _ _ _ h.1, fun d' N' hR' => ?_⟩
                rw [← fr.put]
                exact ih _ _ (fr.gst1 _ _) (h.2 d' N' hR')
              · rename_i hk
                rw [if_neg hk] at h
                refine ⟨fr.side2 hval _ _ _ h.1, ?_⟩
                rw [fr.val2 hval k, ← fr.put]
                exact ih _ _ (fr.gst1 _ _) h.2
omit hval in
theorem exr_perm {s : List Nat} (md : Nat → Own) : ∀ H : Own, (s.foldl (fun H k => md k ++ H) H).Perm (s.flatMap md ++ H) := by
  induction s with
  | nil => intro H; exact List.Perm.refl _
  | cons k s ih =>
    intro H
    rw [List.foldl_cons, List.flatMap_cons]
    refine (ih _).trans ?_
    rw [← List.append_assoc]
    exact (List.perm_append_comm).append_right _
/-- A mover, taken first: what the makers ahead of it own is its own then. -/
theorem RVM.pullM {L : Nat → Bool} {md : Nat → Own} {j : Nat} {oj : Oper} (hoj : ops[j]? = some oj) (hj : L j = false) (hm : mv.contains j = true) (hmu : ∀ i, L i = false → md i = []) :
    ∀ (s1 s2 : List Nat) (F : Nat → V) (H : Own), (∀ i oi, i ∈ s1 → ops[i]? = some oi → L i = false → Free ops oi oj ∧ mv.contains i = false ∧ mk.contains i = false) → j ∉ s1 → j ∉ s2 → (∀ i, i ∈ s1 → i ∉ s2) → gst ops oj F = some true →
      RVM P ops mv mk Rk val side K L md (s1 ++ j :: s2) F H → ∀ X : Own, DOp P oj (opdF F) (s1.flatMap md ++ H ++ X) fun d H' => ∃ H1 : Own, H'.Perm (H1 ++ X) ∧ RVM P ops mv mk Rk val side K (fun i => L i || i == j) (fun i => if (s1 ++ [j]).contains i = true then [] else md i) (s1 ++ j :: s2) (putF F oj.dst d) H1 := by
  have key : ∀ (Z s1 s2 : List Nat) (F : Nat → V) (H : Own), (∀ i, i ∈ s1 → i ∈ Z) → (∀ i, i ∈ s2 → i ∉ Z) → (∀ i oi, i ∈ s1 → ops[i]? = some oi → L i = false → Free ops oi oj ∧ mv.contains i = false ∧ mk.contains i = false) → j ∉ s1 → j ∉ s2 → gst ops oj F = some true →
      RVM P ops mv mk Rk val side K L md (s1 ++ j :: s2) F H → ∀ X : Own, DOp P oj (opdF F) (s1.foldl (fun H k => md k ++ H) H ++ X) fun d H' => ∃ H1 : Own, H'.Perm (H1 ++ X) ∧ RVM P ops mv mk Rk val side K (fun i => L i || i == j) (fun i => if (Z ++ [j]).contains i = true then [] else md i) (s1 ++ j :: s2) (putF F oj.dst d) H1 := by
    intro Z s1
    induction s1 with
    | nil =>
      intro s2 F H _ hz _ _ hj2 hgj h X
      simp only [List.nil_append, List.foldl_nil] at h ⊢
      unfold RVM at h
      rw [if_neg (by simp [hj]), hoj] at h
      simp only [hgj, hm, if_true] at h
      refine (h X).mono fun d H' ⟨H1, hp, h⟩ => ⟨H1, hp, ?_⟩
      unfold RVM
      rw [if_pos (by simp), if_pos (by simp), List.nil_append]
      refine RVM.congrL s2 _ _ (fun i hi => ?_) h
      have h1 : i ≠ j := fun e => hj2 (e ▸ hi)
      have h2 := hz i hi
      simp [h1, h2]
    | cons k s1 ih =>
      intro s2 F H hin hz hun hj1 hj2 hgj h X
      simp only [List.cons_append, List.foldl_cons] at h ⊢
      have hkj : k ≠ j := fun e => hj1 (e ▸ List.mem_cons_self)
      have hneq : (k == j) = false := by simpa using hkj
      have hun' : ∀ i oi, i ∈ s1 → ops[i]? = some oi → L i = false → Free ops oi oj ∧ mv.contains i = false ∧ mk.contains i = false := fun i oi hi => hun i oi (List.mem_cons_of_mem _ hi)
      have hj1' : j ∉ s1 := fun hi => hj1 (List.mem_cons_of_mem _ hi)
      have hin' : ∀ i, i ∈ s1 → i ∈ Z := fun i hi => hin i (List.mem_cons_of_mem _ hi)
      have hkz : ((Z ++ [j]).contains k) = true := by simp [hin k List.mem_cons_self]
      unfold RVM at h
      by_cases hlk : L k = true
      · rw [if_pos hlk] at h
        refine (ih s2 F _ hin' hz hun' hj1' hj2 hgj h X).mono fun d H' ⟨H1, hp, h⟩ => ⟨H1, hp, ?_⟩
        unfold RVM
        rw [if_pos (by simp [hlk]), if_pos hkz, List.nil_append]
        exact h
      · rw [if_neg hlk] at h
        have hmk0 := hmu k (by simpa using hlk)
        rw [hmk0, List.nil_append]
        cases ho : ops[k]? with
        | none => rw [ho] at h; exact h.elim
        | some o =>
          rw [ho] at h
          simp only at h
          obtain ⟨fr, hmv, hmk⟩ := hun k o List.mem_cons_self ho (by simpa using hlk)
          have low : ∀ {d d' H1}, gst ops o F = some false → RVM P ops mv mk Rk val side K (fun i => L i || i == j) (fun i => if (Z ++ [j]).contains i = true then [] else md i) (s1 ++ j :: s2) (putF (putF F o.dst d') oj.dst d) H1 → d' = .tup [] → RVM P ops mv mk Rk val side K (fun i => L i || i == j) (fun i => if (Z ++ [j]).contains i = true then [] else md i) (k :: (s1 ++ j :: s2)) (putF F oj.dst d) H1 := fun {d d' H1} hg h e => by
            subst e
            unfold RVM
            rw [if_neg (by simp [hlk, hneq]), ho]
            simp only
            rw [fr.gst2, hg]
            simp only
            rw [← fr.put]
            exact h
          cases hg : gst ops o F with
          | none => rw [hg] at h; exact h.elim
          | some b =>
            rw [hg] at h
            cases b with
            | false =>
              simp only at h
              exact ((ih s2 _ H hin' hz hun' hj1' hj2 (by rw [fr.gst1]; exact hgj) h X).congr fun x hx => fr.ops1 F _ x hx).mono fun d H' ⟨H1, hp, h⟩ => ⟨H1, hp, low hg h rfl⟩
            | true =>
              simp only [hmv, hmk, Bool.false_eq_true, if_false] at h
              refine ((ih s2 _ H hin' hz hun' hj1' hj2 (by rw [fr.gst1]; exact hgj) h.2 X).congr fun x hx => fr.ops1 F _ x hx).mono fun d H' ⟨H1, hp, h'⟩ => ⟨H1, hp, ?_⟩
              unfold RVM
              rw [if_neg (by simp [hlk, hneq]), ho]
              simp only
              rw [fr.gst2, hg]
              simp only [hmv, hmk, Bool.false_eq_true, if_false]
              refine ⟨fr.side2 hval _ _ _ h.1, ?_⟩
              rw [fr.val2 hval k, ← fr.put]
              exact h'
  intro s1 s2 F H hun hj1 hj2 hd hgj h X
  exact DOp.perm ((exr_perm md H).symm.append_right X) (key s1 s1 s2 F H (fun _ h => h) (fun i hi h => hd i h hi) hun hj1 hj2 hgj h X)

variable (hfl : ∀ k o, ops[k]? = some o → mv.contains k = false → ∀ f H, side k o f → DOp P o f H fun d H' => if mk.contains k = true then ∃ N, Rk k d N ∧ H' = N ++ H else d = val k o f ∧ H' = H) (hdst : dstB n ops = true)
include hfl hdst
/-- What is known of operation j ahead of its turn. -/
theorem RVM.known {L : Nat → Bool} {md : Nat → Own} {j : Nat} {oj : Oper} (hoj : ops[j]? = some oj) (hj : L j = false) (hmu : ∀ i, L i = false → md i = []) :
    ∀ (s1 s2 : List Nat) (F : Nat → V) (H X : Own) (a : Act) (w : World), (∀ i oi, i ∈ s1 → ops[i]? = some oi → L i = false → Free ops oi oj) →
      Sim w (s1.flatMap md ++ H ++ X) → RF n w (s1.flatMap md ++ H ++ X) a.tmps F → RVM P ops mv mk Rk val side K L md (s1 ++ j :: s2) F H → (∃ b, gst ops oj F = some b) ∧ (gst ops oj F = some true → mv.contains j = false → side j oj (opdF F))
  | [], s2, F, H, X, a, w, _, hs, hr, h => by
    simp only [List.nil_append] at h
    unfold RVM at h
    rw [if_neg (by simp [hj]), hoj] at h
    simp only at h
    cases hg : gst ops oj F with
    | none => rw [hg] at h; exact h.elim
    | some b =>
      rw [hg] at h
      refine ⟨⟨b, rfl⟩, fun hb hm => ?_⟩
      injection hb with hb
      subst hb
      simp only [hm, Bool.false_eq_true, if_false] at h
      split at h
      · exact h.1
      · exact h.1
  | k :: s1, s2, F, H, X, a, w, hun, hs, hr, h => by
    simp only [List.cons_append, List.flatMap_cons] at h hs hr
    have hun' : ∀ i oi, i ∈ s1 → ops[i]? = some oi → L i = false → Free ops oi oj := fun i oi hi => hun i oi (List.mem_cons_of_mem _ hi)
    unfold RVM at h
    by_cases hlk : L k = true
    · rw [if_pos hlk] at h
      have hp : (md k ++ s1.flatMap md ++ H ++ X).Perm (s1.flatMap md ++ (md k ++ H) ++ X) := perm_mid _ _ _ _
      exact RVM.known hoj hj hmu s1 s2 F _ X a w hun' (hs.perm hp) (hr.perm hp) h
    · rw [if_neg hlk] at h
      rw [hmu k (by simpa using hlk), List.nil_append] at hs hr
      cases ho : ops[k]? with
      | none => rw [ho] at h; exact h.elim
      | some o =>
        rw [ho] at h
        simp only at h
        have hdo : o.dst.all (· < n) = true := by
          have := List.all_eq_true.1 hdst o (List.mem_of_getElem? ho)
          simpa using this
        have fr := hun k o List.mem_cons_self ho (by simpa using hlk)
        have back : ∀ d, ((∃ b, gst ops oj (putF F o.dst d) = some b) ∧ (gst ops oj (putF F o.dst d) = some true → mv.contains j = false → side j oj (opdF (putF F o.dst d)))) →
            (∃ b, gst ops oj F = some b) ∧ (gst ops oj F = some true → mv.contains j = false → side j oj (opdF F)) := fun d ⟨x, y⟩ => by
          rw [fr.gst1] at x y
          exact ⟨x, fun h1 h2 => fr.side1 hval _ _ _ (y h1 h2)⟩
        cases hg : gst ops o F with
        | none => rw [hg] at h; exact h.elim
        | some b =>
          rw [hg] at h
          cases b with
          | false => exact back _ (RVM.known hoj hj hmu s1 s2 _ H X (a.put o.dst undef) w hun' hs (hr.put hdo (R.skipped _ _)) h)
          | true =>
            simp only at h
            split at h
            · rename_i hm
              have hp : (s1.flatMap md ++ H ++ X).Perm (H ++ (s1.flatMap md ++ X)) := perm_back _ _ _
              refine wp_some (P := P) (o := o) (a := a) (w := w) (h (s1.flatMap md ++ X) a w _ _ (hs.perm hp) (fun x _ => (hr.perm hp).opd x) fun v w' d H' s x r ⟨H1, hp', k'⟩ => ?_)
              have hp2 : H'.Perm (s1.flatMap md ++ H1 ++ X) := hp'.trans (perm_back _ _ _).symm
              exact back _ (RVM.known hoj hj hmu s1 s2 _ H1 X _ w' hun' (s.perm hp2) (((((hr.perm hp).ext x).put hdo r)).perm hp2) k')
            · rename_i hm
              split at h
              · rename_i hk
                refine wp_some (P := P) (o := o) (a := a) (w := w) (hfl k o ho (by simpa using hm) _ (s1.flatMap md ++ H ++ X) h.1 a w _ _ hs (fun x _ => hr.opd x) fun v w' d H' s x r hd => ?_)
                simp only [hk, if_true] at hd
                obtain ⟨N, hR, hH⟩ := hd
                subst hH
                have hp : (N ++ (s1.flatMap md ++ H ++ X)).Perm (s1.flatMap md ++ (N ++ H) ++ X) := by
                  rw [← List.append_assoc, ← List.append_assoc]
                  exact perm_mid _ _ _ _
                exact back _ (RVM.known hoj hj hmu s1 s2 _ _ X _ w' hun' (s.perm hp) (((hr.ext x).put hdo r).perm hp) (h.2 d N hR))
              · rename_i hk
                refine wp_some (P := P) (o := o) (a := a) (w := w) (hfl k o ho (by simpa using hm) _ (s1.flatMap md ++ H ++ X) h.1 a w _ _ hs (fun x _ => hr.opd x) fun v w' d H' s x r hd => ?_)
                simp only [hk, Bool.false_eq_true, if_false] at hd
                obtain ⟨hd, hH⟩ := hd
                subst hd
                subst hH
                exact back _ (RVM.known hoj hj hmu s1 s2 _ H X _ w' hun' s ((hr.ext x).put hdo r) h.2)
omit hval hfl hdst in
theorem RVM.done {L : Nat → Bool} {md : Nat → Own} : ∀ (s : List Nat) (F : Nat → V) (H : Own), (∀ j, j ∈ s → L j = true) → RVM P ops mv mk Rk val side K L md s F H → K F (s.foldl (fun H k => md k ++ H) H)
  | [], _, _, _, h => h
  | k :: s, F, H, hL, h => by
    unfold RVM at h
    rw [if_pos (hL k List.mem_cons_self)] at h
    exact RVM.done s F _ (fun j hj => hL j (List.mem_cons_of_mem _ hj)) h

/-- What is asked of the order s. -/
structure OrdOk (ops : List Oper) (s mv mk : List Nat) : Prop where
  nodup : s.Nodup
  all : ∀ k, k < ops.length → k ∈ s
  lt : ∀ k, k ∈ s → k < ops.length
  up : ∀ s1 k s2 o, s = s1 ++ k :: s2 → ops[k]? = some o → ∀ e ∈ o.after, Region.binds .any e = true → e.on ∈ s1
  pair : ∀ s1 j s2 i a b, s = s1 ++ j :: s2 → i ∈ s1 → ops[i]? = some a → ops[j]? = some b → After ops.toArray j i ∨ (clash ops a b = false ∧ ¬ (mv.contains j = true ∧ (mv.contains i = true ∨ mk.contains i = true)))
variable {s : List Nat} (hok : OrdOk ops s mv mk)
include hok
theorem RVM.all {Q : Exit → Act → World → Prop} {w0 : World} {G0 : Own} {D : List Deferred} (hQ : ∀ a' w' F' H', a'.defers = D → Sim w' H' → RF n w' H' a'.tmps F' → Ext w0 G0 w' H' → K F' H' → Q .normal a' w') :
    ∀ (c : Nat) (listed : Array Bool) (md : Nat → Own) (F : Nat → V) (H : Own) (a : Act) (w : World), listed.toList.count false = c → HeadInv .any ops.toArray ops.length listed → (∀ i, listed.getD i false = false → md i = []) → RVM P ops mv mk Rk val side K (fun k => listed.getD k false) md s F H →
      Sim w (s.flatMap md ++ H) → RF n w (s.flatMap md ++ H) a.tmps F → Ext w0 G0 w (s.flatMap md ++ H) → a.defers = D → wpAny P .any ops.toArray Q c listed a w := by
  have cl : ∀ {listed : Array Bool} {i : Nat}, listed.getD i true = false → (listed.setIfInBounds i true).toList.count false + 1 = listed.toList.count false := fun {listed i} h => by
    have hlt : i < listed.size := by
      rcases Nat.lt_or_ge i listed.size with h' | h'
      · exact h'
      · simp [Array.getElem?_eq_none h'] at h
    have h0 : listed.toList[i]'(by simpa using hlt) = false := by simpa [hlt] using h
    have hpos : 0 < listed.toList.count false := List.count_pos_iff.2 (h0 ▸ List.getElem_mem _)
    have hc := List.count_set (a := true) (b := false) (l := listed.toList) (i := i) (by simpa using hlt)
    rw [h0] at hc
    rw [Array.toList_setIfInBounds, hc]
    simp only [BEq.rfl, if_true, show ((true == false) = true) = False by simp, if_false, Nat.add_zero]
    omega
  have ca : ∀ {listed : Array Bool}, HeadInv .any ops.toArray ops.length listed → ∀ (f i j : Nat), listed.getD i false = true → AfterN ops.toArray f i j → listed.getD j false = true := fun {listed} inv f => by
    induction f with
    | zero =>
      intro i j hi h
      obtain ⟨oj, hoj, e, he, hb, hon⟩ := Region.waitsFor_spec h
      have := inv.closed i oj hoj hi e he hb
      rwa [hon] at this
    | succ f ih =>
      intro i j hi ⟨m, h1, h2⟩
      obtain ⟨oj, hoj, e, he, hb, hon⟩ := Region.waitsFor_spec h1
      have := inv.closed i oj hoj hi e he hb
      exact ih m j (hon ▸ this) h2
  have ra : ∀ {listed : Array Bool}, HeadInv .any ops.toArray ops.length listed → ∀ {i j : Nat}, i ∈ Region.ready .any ops.toArray listed → After ops.toArray i j → listed.getD j false = true := fun {listed} inv {i j} hi ⟨f, hf⟩ => by
    have one : ∀ j, Region.waitsFor .any ops.toArray i j = true → listed.getD j false = true := fun j h => by
      obtain ⟨_, oi, hoi, hall⟩ := mem_ready.1 hi
      obtain ⟨oj, hoj, e, he, hb, hon⟩ := Region.waitsFor_spec h
      have : oj = oi := Option.some.inj (hoj.symm.trans hoi)
      subst this
      have := hall e he hb
      rwa [hon] at this
    cases f with
    | zero => exact one j hf
    | succ f =>
      obtain ⟨m, h1, h2⟩ := hf
      exact ca inv f m j (one m h1) h2
  intro c
  induction c with
  | zero =>
    intro listed md F H a w hc inv hmu h hs hr hx hD
    have hall : ∀ j, listed.getD j true = true := fun j => by
      cases hj : listed.getD j true with
      | true => rfl
      | false => have := cl hj; omega
    refine ⟨?_, ?_⟩
    · cases hrd : Region.ready .any ops.toArray listed with
      | nil => rfl
      | cons i l =>
        have : i ∈ Region.ready .any ops.toArray listed := by rw [hrd]; exact List.mem_cons_self
        have := (mem_ready.1 this).1
        rw [hall] at this
        cases this
    · have hp := exr_perm (s := s) md H
      refine hQ a w F _ hD (hs.perm hp.symm) (hr.perm hp.symm) (hx.trans (Ext.perm hp.symm)) (RVM.done s F H (fun j hj => ?_) h)
      have h1 := hall j
      have h2 : j < listed.size := by rw [inv.size]; simpa using hok.lt j hj
      simp [h2] at h1 ⊢
      exact h1
  | succ c ih =>
    intro listed md F H a w hc inv hmu h hs hr hx hD
    have hsz : listed.size = ops.length := by simpa using inv.size
    refine ⟨fun h0 => ?_, fun i hi' => ?_⟩
    · exfalso
      -- the first in the order that has not been done is ready
      have hex : ∀ s1 s2, s = s1 ++ s2 → (∀ j, j ∈ s1 → listed.getD j false = true) → (∀ j, j ∈ s2 → listed.getD j false = true) ∨ ∃ t1 k t2, s = t1 ++ k :: t2 ∧ listed.getD k false = false ∧ ∀ j, j ∈ t1 → listed.getD j false = true := by
        intro s1 s2
        induction s2 generalizing s1 with
        | nil => intro _ _; exact .inl (by simp)
        | cons k s2 ih =>
          intro he hl
          cases hk : listed.getD k false with
          | false => exact .inr ⟨s1, k, s2, he, hk, hl⟩
          | true =>
            rcases ih (s1 ++ [k]) (by simp [he]) (fun j hj => by
              rcases List.mem_append.1 hj with h | h
              · exact hl j h
              · rw [List.mem_singleton.1 h]; exact hk) with h | h
            · exact .inl fun j hj => by
                rcases List.mem_cons.1 hj with rfl | h'
                · exact hk
                · exact h j h'
            · exact .inr h
      rcases hex [] s rfl (by simp) with hall | ⟨t1, k, t2, he, hkf, hlow⟩
      · have : listed.toList.count false = 0 := List.count_eq_zero.2 fun hm => by
          obtain ⟨j, hj, e⟩ := List.getElem_of_mem hm
          have hj' : j < listed.size := by simpa using hj
          have := hall j (hok.all j (by omega))
          simp [hj'] at this
          simp at e
          rw [this] at e
          cases e
        omega
      · have hko : k < ops.length := hok.lt k (by rw [he]; simp)
        have hkl : k < listed.size := by omega
        have : k ∈ Region.ready .any ops.toArray listed := mem_ready.2 ⟨getD_in hkl hkf, ops[k], by simp [hko], fun e hee hb => hlow _ (hok.up t1 k t2 _ he (by simp [hko]) e hee hb)⟩
        rw [h0] at this
        cases this
    · obtain ⟨hun, oi, hoi, _⟩ := mem_ready.1 hi'
      have hoi' : ops[i]? = some oi := by simpa using hoi
      have hilt : i < ops.length := (List.getElem?_eq_some_iff.1 hoi').1
      have hlf : listed.getD i false = false := getD_both hun
      have inv' := inv.set hi' (by simpa using hilt)
      have hc' : (listed.setIfInBounds i true).toList.count false = c := by have := cl hun; omega
      obtain ⟨s1, s2, hse⟩ := List.append_of_mem (hok.all i hilt)
      have hnd := hok.nodup
      rw [hse, List.nodup_append] at hnd
      obtain ⟨hn1, hn2, hn3⟩ := hnd
      have hi1 : i ∉ s1 := fun hi => hn3 i hi i List.mem_cons_self rfl
      have hi2 : i ∉ s2 := (List.nodup_cons.1 hn2).1
      have h12 : ∀ k, k ∈ s1 → k ∉ s2 := fun k h1 h2 => hn3 k h1 k (List.mem_cons_of_mem _ h2) rfl
      have hpair : ∀ k ok, k ∈ s1 → ops[k]? = some ok → listed.getD k false = false → Free ops ok oi ∧ ¬ (mv.contains i = true ∧ (mv.contains k = true ∨ mk.contains k = true)) := fun k ok hk hok' hkf => by
        rcases hok.pair s1 i s2 k ok oi hse hk hok' hoi' with h' | ⟨h1, h2⟩
        · rw [ra inv hi' h'] at hkf; cases hkf
        · exact ⟨free_of h1, h2⟩
      have hLe : ∀ j, j ≠ i → (listed.setIfInBounds i true).getD j false = listed.getD j false := fun j hji => getD_set_ne false (Ne.symm hji)
      have hLi : (listed.setIfInBounds i true).getD i false = true := by
        have : i < listed.size := by omega
        simp [this]
      have hLc : ∀ {md F H}, RVM P ops mv mk Rk val side K (fun k => listed.getD k false || k == i) md s F H → RVM P ops mv mk Rk val side K (fun k => (listed.setIfInBounds i true).getD k false) md s F H := fun {md F H} h =>
        RVM.congrL s F H (fun j _ => ⟨by
          by_cases hji : j = i
          · subst hji; rw [hLi]; simp
          · have : (j == i) = false := by simpa using hji
            rw [this, Bool.or_false, hLe j hji], rfl⟩) h
      have hdi : oi.dst.all (· < n) = true := by
        have := List.all_eq_true.1 hdst oi (List.mem_of_getElem? hoi')
        simpa using this
      have hpe : (s.flatMap md ++ H).Perm (s1.flatMap md ++ H ++ s2.flatMap md) := by
        rw [hse, List.flatMap_append, List.flatMap_cons, hmu i hlf, List.nil_append, List.append_assoc, List.append_assoc]
        exact List.Perm.append_left _ List.perm_append_comm
      obtain ⟨⟨b, hb⟩, hside⟩ := RVM.known hval hfl hdst (L := fun k => listed.getD k false) hoi' hlf hmu s1 s2 F H (s2.flatMap md) a w (fun k ok h1 h2 h3 => (hpair k ok h1 h2 h3).1) (hs.perm hpe) (hr.perm hpe) (by rw [← hse]; exact h)
      have hw := gst_wanted hr hb
      have hmu' : ∀ k, (listed.setIfInBounds i true).getD k false = false → md k = [] := fun k hk => by
        by_cases hki : k = i
        · subst hki; rw [hLi] at hk; cases hk
        · rw [hLe k hki] at hk; exact hmu k hk
      unfold wpOp
      rw [hoi]
      simp only [hw]
      cases b with
      | false =>
        simp only [Bool.false_eq_true, if_false]
        refine ih _ md (putF F oi.dst (.tup [])) H _ w hc' inv' hmu' (hLc ?_) hs (hr.put hdi (R.skipped _ _)) hx (by rw [← hD]; cases oi.dst <;> rfl)
        rw [hse]
        exact RVM.pull hval (L := fun k => listed.getD k false) hoi' hlf (hmu i hlf) s1 s2 F H _ (fun k ok h1 h2 h3 => (hpair k ok h1 h2 h3).1) hi1 hi2 (fun _ => rfl) (fun h' => by rw [hb] at h'; cases h') (by rw [← hse]; exact h)
      | true =>
        simp only [if_true]
        refine .inl ?_
        cases hm : mv.contains i with
        | true =>
          refine RVM.pullM hval (mk := mk) (Rk := Rk) (K := K) (L := fun k => listed.getD k false) hoi' hlf hm hmu s1 s2 F H (fun k ok h1 h2 h3 => ?_) hi1 hi2 h12 hb (by rw [← hse]; exact h) (s2.flatMap md) a w _ _ (hs.perm hpe) (fun x _ => (hr.perm hpe).opd x) fun v w' d H' s' x r ⟨H1, hp, k'⟩ => ?_
          · obtain ⟨g1, g2⟩ := hpair k ok h1 h2 h3
            refine ⟨g1, ?_, ?_⟩
            · cases hmk : mv.contains k with
              | true => exact absurd ⟨hm, .inl hmk⟩ g2
              | false => rfl
            · cases hmk : mk.contains k with
              | true => exact absurd ⟨hm, .inr hmk⟩ g2
              | false => rfl
          · have hz : (s.flatMap fun k => if (s1 ++ [i]).contains k = true then [] else md k) = s2.flatMap md := by
              rw [hse, List.flatMap_append, List.flatMap_cons]
              have e1 : (s1.flatMap fun k => if (s1 ++ [i]).contains k = true then ([] : Own) else md k) = [] := by
                rw [List.flatMap_eq_nil_iff]; intro k hk; rw [if_pos (by simp [hk])]
              have e2 : ∀ t : List Nat, (∀ k, k ∈ t → k ∈ s2) → (t.flatMap fun k => if (s1 ++ [i]).contains k = true then ([] : Own) else md k) = t.flatMap md := by
                intro t
                induction t with
                | nil => intro _; rfl
                | cons k t ih =>
                  intro ht
                  have hk2 := ht k List.mem_cons_self
                  rw [List.flatMap_cons, List.flatMap_cons, ih fun q hq => ht q (List.mem_cons_of_mem _ hq), if_neg]
                  intro hc
                  rcases List.mem_append.1 (by simpa using hc : k ∈ s1 ++ [i]) with h1 | h1
                  · exact h12 k h1 hk2
                  · exact hi2 (List.mem_singleton.1 h1 ▸ hk2)
              rw [e1, e2 s2 fun _ h => h, if_pos (by simp), List.nil_append, List.nil_append]
            have hp2 : H'.Perm ((s.flatMap fun k => if (s1 ++ [i]).contains k = true then [] else md k) ++ H1) := by rw [hz]; exact hp.trans List.perm_append_comm
            exact ih _ (fun k => if (s1 ++ [i]).contains k = true then [] else md k) _ H1 _ w' hc' inv' (fun k hk => by
              split
              · rfl
              · exact hmu' k hk) (hLc (by rw [hse]; exact k')) (s'.perm hp2) ((((hr.perm hpe).ext x).put hdi r).perm hp2) ((hx.trans (Ext.perm hpe)).trans (x.trans (Ext.perm hp2))) (by rw [← hD]; cases oi.dst <;> rfl)
        | false =>
          refine hfl i oi hoi' hm _ _ (hside hb hm) a w _ _ hs (fun x _ => hr.opd x) fun v w' d H' s' x r hd => ?_
          cases hk : mk.contains i with
          | true =>
            simp only [hk, if_true] at hd
            obtain ⟨N, hR, hH⟩ := hd
            subst hH
            have hz : ((s.flatMap fun k => if k = i then N else md k)).Perm (N ++ s.flatMap md) := by
              rw [hse, List.flatMap_append, List.flatMap_cons, List.flatMap_append, List.flatMap_cons, hmu i hlf, if_pos rfl, List.nil_append]
              have e2 : ∀ t : List Nat, i ∉ t → (t.flatMap fun k => if k = i then N else md k) = t.flatMap md := by
                intro t
                induction t with
                | nil => intro _; rfl
                | cons k t ih =>
                  intro ht
                  rw [List.flatMap_cons, List.flatMap_cons, ih fun h => ht (List.mem_cons_of_mem _ h), if_neg (fun e : k = i => ht (e ▸ List.mem_cons_self))]
              rw [e2 s1 hi1, e2 s2 hi2]
              exact List.perm_append_comm_assoc _ _ _
            have hp2 : (N ++ (s.flatMap md ++ H)).Perm ((s.flatMap fun k => if k = i then N else md k) ++ H) := by
              rw [← List.append_assoc]
              exact hz.symm.append_right _
            refine ih _ (fun k => if k = i then N else md k) _ H _ w' hc' inv' (fun k hk' => ?_) (hLc ?_) (s'.perm hp2) (((hr.ext x).put hdi r).perm hp2) ((hx.trans x).trans (Ext.perm hp2)) (by rw [← hD]; cases oi.dst <;> rfl)
            · by_cases hki : k = i
              · subst hki; rw [hLi] at hk'; cases hk'
              · rw [if_neg hki]; exact hmu' k hk'
            · rw [hse]
              exact RVM.pullK hval (L := fun k => listed.getD k false) hoi' hlf hm hk hR s1 s2 F H (fun k ok h1 h2 h3 => (hpair k ok h1 h2 h3).1) hi1 hi2 hb (by rw [← hse]; exact h)
          | false =>
            simp only [hk, Bool.false_eq_true, if_false] at hd
            obtain ⟨hd, hH⟩ := hd
            subst hd
            subst hH
            refine ih _ md _ H _ w' hc' inv' hmu' (hLc ?_) s' ((hr.ext x).put hdi r) (hx.trans x) (by rw [← hD]; cases oi.dst <;> rfl)
            rw [hse]
            exact RVM.pull hval (L := fun k => listed.getD k false) hoi' hlf (hmu i hlf) s1 s2 F H _ (fun k ok h1 h2 h3 => (hpair k ok h1 h2 h3).1) hi1 hi2 (fun h' => by rw [hb] at h'; cases h') (fun _ => ⟨hm, hk, rfl⟩) (by rw [← hse]; exact h)
end

/-- What is asked of an order, by computing. -/
def ordB (ops : List Oper) (s mv mk : List Nat) : Bool :=
  let ms := masks ops
  decide s.Nodup && (List.range ops.length).all (fun k => s.contains k) &&
  (s.zipIdx.all fun (j, p) => match ops[j]? with
    | none => false
    | some b => (b.after.all fun e => !Region.binds .any e || (s.take p).contains e.on) && ((s.take p).all fun i => match ops[i]? with
      | none => false
      | some a => (ms.getD j 0).testBit i || (!clash ops a b && !(mv.contains j && (mv.contains i || mk.contains i)))))
/-! The walk with frames. -/
/-- What a maker comes to. -/
def mkR (T : List (Nat × (V → Own → Prop))) (k : Nat) (d : V) (N : Own) : Prop := match T.lookup k with
  | some r => r d N
  | none => False
/-- A variable. -/
def varR (P : Program) (t : TypeId) (d : V) (N : Own) : Prop := ∃ b, d = .raw (.pointer (some ⟨b, 0, none⟩)) ∧ N = [.blk b (ty P t).zero]
/-- A yield that is told. -/
def isR (x d : V) (N : Own) : Prop := d = x ∧ N = []
section
variable {P : Program} {n : Nat} {Q : Exit → Env → Own → Prop} {e : Env} {H : Own}
def DVMb (P : Program) (mv mk : List Nat) (T : List (Nat × (V → Own → Prop))) (k : Nat) (o : Oper) (e : Env) (H : Own) (A : Env → Own → Prop) : Prop :=
  if mv.contains k = true then ∀ X : Own, DOp P o (opd e) (H ++ X) fun d H' => PXK H' X fun H1 => A (putO e o.dst d) H1
  else if mk.contains k = true then (∀ H : Own, DOp P o (opd e) H fun d H' => ∃ N, mkR T k d N ∧ H' = N ++ H) ∧ ∀ d N, mkR T k d N → A (putO e o.dst d) (N ++ H)
  else side P o (opd e) ∧ A (putO e o.dst (val P o (opd e))) H
/-- A region that draws its order, in the order s. -/
def DVM (P : Program) (mv mk : List Nat) (T : List (Nat × (V → Own → Prop))) (l : List Oper) (K : Env → Own → Prop) : List Nat → Env → Own → Prop
  | [], e, H => K e H
  | k :: s, e, H => match l[k]? with
    | none => False
    | some o => match o.guard with
      | none => DVMb P mv mk T k o e H (DVM P mv mk T l K s)
      | some (j, true) => gd (gval l.toArray e j) (DVMb P mv mk T k o e H (DVM P mv mk T l K s)) (DVM P mv mk T l K s (putO e o.dst (.tup [])) H)
      | some (j, false) => gf (gval l.toArray e j) (DVM P mv mk T l K s (putO e o.dst (.tup [])) H) (DVMb P mv mk T k o e H (DVM P mv mk T l K s))
@[congr] theorem DVM_congr (P : Program) (mv mk : List Nat) (T : List (Nat × (V → Own → Prop))) (l : List Oper) (K : Env → Own → Prop) (s : List Nat) {e e' : Env} {H H' : Own} (h : e = e') (hH : H = H') : DVM P mv mk T l K s e H = DVM P mv mk T l K s e' H' := by rw [h, hH]
@[congr] theorem DVMb_congr (P : Program) (mv mk : List Nat) (T : List (Nat × (V → Own → Prop))) (k : Nat) (o : Oper) (A : Env → Own → Prop) {e e' : Env} {H H' : Own} (h : e = e') (hH : H = H') : DVMb P mv mk T k o e H A = DVMb P mv mk T k o e' H' A := by rw [h, hH]
theorem DVM.cases {mv mk : List Nat} {T : List (Nat × (V → Own → Prop))} {l : List Oper} {K : Env → Own → Prop} {k : Nat} {s : List Nat} (h : DVM P mv mk T l K (k :: s) e H) :
    ∃ o, l[k]? = some o ∧ ((gst l o (get e) = some true ∧ DVMb P mv mk T k o e H (DVM P mv mk T l K s)) ∨ (gst l o (get e) = some false ∧ DVM P mv mk T l K s (putO e o.dst (.tup [])) H)) := by
  unfold DVM at h
  cases ho : l[k]? with
  | none => rw [ho] at h; exact h.elim
  | some o =>
    rw [ho] at h
    simp only at h
    refine ⟨o, rfl, ?_⟩
    cases hg : o.guard with
    | none => rw [hg] at h; exact .inl ⟨by unfold gst; rw [hg], h⟩
    | some jw =>
      obtain ⟨j, want⟩ := jw
      rw [hg] at h
      cases want with
      | true =>
        simp only at h
        cases hb : gval l.toArray e j with
        | bool b =>
          rw [gst_gval hg hb]
          rw [hb] at h
          cases b with
          | true => rw [gd_true] at h; exact .inl ⟨rfl, h⟩
          | false => rw [gd_false] at h; exact .inr ⟨rfl, h⟩
        | tup ds => rw [gst_tup hg hb]; rw [hb, gd_tup] at h; exact .inr ⟨rfl, h⟩
        | _ => rw [hb] at h; exact h.elim
      | false =>
        simp only at h
        cases hb : gval l.toArray e j with
        | bool b =>
          rw [gst_gval hg hb]
          rw [hb] at h
          cases b with
          | true => rw [gf_true] at h; exact .inr ⟨rfl, h⟩
          | false => rw [gf_false] at h; exact .inl ⟨rfl, h⟩
        | tup ds => rw [gst_tup hg hb]; rw [hb, gf_tup] at h; exact .inr ⟨rfl, h⟩
        | _ => rw [hb] at h; exact h.elim
theorem DVM.nil {mv mk : List Nat} {T : List (Nat × (V → Own → Prop))} {l : List Oper} {K : Env → Own → Prop} (h : K e H) : DVM P mv mk T l K [] e H := h
section
variable {mv mk : List Nat} {T : List (Nat × (V → Own → Prop))} {l : List Oper} {K : Env → Own → Prop} {k : Nat} {s : List Nat} {o : Oper}
theorem DVM.go (ho : l[k]? = some o) (hg : o.guard = none) (h : DVMb P mv mk T k o e H (DVM P mv mk T l K s)) : DVM P mv mk T l K (k :: s) e H := by unfold DVM; rw [ho]; simp only; rw [hg]; exact h
theorem DVM.f_ (ho : l[k]? = some o) (hg : o.guard = none) (hm : mv.contains k = false) (hk : mk.contains k = false) (h : side P o (opd e) ∧ DVM P mv mk T l K s (putO e o.dst (val P o (opd e))) H) : DVM P mv mk T l K (k :: s) e H :=
  DVM.go ho hg (by unfold DVMb; rw [if_neg (by rw [hm]; exact Bool.false_ne_true), if_neg (by rw [hk]; exact Bool.false_ne_true)]; exact h)
theorem DVM.mv_ (ho : l[k]? = some o) (hg : o.guard = none) (hm : mv.contains k = true) (h : ∀ X : Own, DOp P o (opd e) (H ++ X) fun d H' => PXK H' X fun H1 => DVM P mv mk T l K s (putO e o.dst d) H1) : DVM P mv mk T l K (k :: s) e H :=
  DVM.go ho hg (by unfold DVMb; rw [if_pos hm]; exact h)
/-- A call that but looks, and may come at any time. -/
theorem DVM.call_ {x : V} {c : Operand} {args : Array Operand} {ts : Array TypeId} {g : FuncId} {first caps args' : List V} {A : Prop} (ho : l[k]? = some o) (hg : o.guard = none) (hm : mv.contains k = false) (hk : mk.contains k = true) (hT : T.lookup k = some (isR x)) (hop : o.op = .call { callee := .value c, args, argTypes := ts }) (hc : opd e c = .fn (.func g) first caps) (hl : Les (first ++ args.toList.map (opd e) ++ caps) args')
    (h1 : ∀ F : Own, A → DC P g args' (([] : Own) ++ F) fun d' G => d' = x ∧ G = ([] : Own) ++ F) (h : A ∧ DVM P mv mk T l K s (putO e o.dst x) H) : DVM P mv mk T l K (k :: s) e H := by
  refine DVM.go ho hg ?_
  unfold DVMb
  rw [if_neg (by rw [hm]; exact Bool.false_ne_true), if_pos hk]
  refine ⟨fun H => DOp.callq_ (K' := fun d => d = x) hop hc hl (es := []) (F := H) Pulled.nil (h1 H) ⟨h.1, fun d e => ⟨[], ?_, rfl⟩⟩, fun d N hR => ?_⟩
  · unfold mkR; rw [hT]; exact ⟨e, rfl⟩
  · unfold mkR at hR; rw [hT] at hR
    obtain ⟨rfl, rfl⟩ := hR
    exact h.2
end
end
end Go.Proofs.YtfmjboanoojhcaaGreatDoor
