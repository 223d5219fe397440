/- A region that draws its order in which a variable is made at any time among calls that change what is owned. No statement of the program. -/
import Derived.Test.YtnnigbnlhhikjaaDoorEr
namespace Go.Proofs.YtnnigbnlhhikjaaDoor
open Go.RowKit
set_option linter.unusedSimpArgs false
set_option linter.unusedVariables false
set_option linter.unusedSectionVars false
theorem DOp.perm {P : Program} {o : Oper} {f : Operand → V} {H H' : Own} {K : V → Own → Prop} (hp : H.Perm H') (h : DOp P o f H' K) : DOp P o f H K := fun a w next Q hs hr hn =>
  h a w next Q (hs.perm hp) (fun x hx => (Ext.perm hp).rel (hr x hx)) fun v w' d H1 s ex r k => hn v w' d H1 s ((Ext.perm hp).trans ex) r k
theorem RF.perm {n : Nat} {w : World} {H H' : Own} {tmps : Array Value} {F : Nat → V} (hp : H.Perm H') (h : RF n w H tmps F) : RF n w H' tmps F := h.ext (Ext.perm hp)
section
variable {P : Program} {ops : List Oper} {mv : List Nat} {val : Nat → Oper → (Operand → V) → V} {side : Nat → Oper → (Operand → V) → Prop} {K : (Nat → V) → Own → Prop} {n : Nat}
theorem RV.perm (hK : ∀ F H H', H.Perm H' → K F H → K F H') {L : Nat → Bool} : ∀ (l : List Oper) (k : Nat) (F : Nat → V) (H H' : Own), H.Perm H' → RV P ops mv val side K L k l F H → RV P ops mv val side K L k l F H'
  | [], _, F, H, H', hp, h => hK F H H' hp h
  | o :: rest, k, F, H, H', hp, h => by
    have ih := fun F H H' hp => RV.perm hK (L := L) rest (k + 1) F H H' hp
    unfold RV at h ⊢
    split
    · rename_i hl; rw [if_pos hl] at h; exact ih _ _ _ hp h
    · rename_i hl
      rw [if_neg hl] at h
      cases hg : gst ops o F with
      | none => rw [hg] at h; exact h.elim
      | some b =>
        rw [hg] at h
        cases b with
        | false => exact ih _ _ _ hp h
        | true =>
          simp only at h ⊢
          split
          · rename_i hm; rw [if_pos hm] at h; exact h.perm hp.symm
          · rename_i hm; rw [if_neg hm] at h; exact ⟨h.1, ih _ _ _ hp h.2⟩
theorem RV.monoK {K' : (Nat → V) → Own → Prop} (hK : ∀ F H, K F H → K' F H) {L : Nat → Bool} : ∀ (l : List Oper) (k : Nat) (F : Nat → V) (H : Own), RV P ops mv val side K L k l F H → RV P ops mv val side K' L k l F H
  | [], _, F, H, h => hK F H h
  | o :: rest, k, F, H, h => by
    have ih := fun F H => RV.monoK hK (L := L) rest (k + 1) F H
    unfold RV at h ⊢
    split
    · rename_i hl; rw [if_pos hl] at h; exact ih _ _ h
    · rename_i hl
      rw [if_neg hl] at h
      cases hg : gst ops o F with
      | none => rw [hg] at h; exact h.elim
      | some b =>
        rw [hg] at h
        cases b with
        | false => exact ih _ _ h
        | true =>
          simp only at h ⊢
          split
          · rename_i hm; rw [if_pos hm] at h; exact h.mono fun d H' h => ih _ _ h
          · rename_i hm; rw [if_neg hm] at h; exact ⟨h.1, ih _ _ h.2⟩

/-- The pointer to a new variable. -/
def pB (b : Nat) : V := .raw (.pointer (some ⟨b, 0, none⟩))
/-- The walk over data where operation j0 makes a variable at any time; fb: it has been made. -/
def RVX (P : Program) (ops : List Oper) (mv : List Nat) (j0 : Nat) (FL : Nat → Ent) (val : Nat → Oper → (Operand → V) → V) (side : Nat → Oper → (Operand → V) → Prop) (K : (Nat → V) → Own → Prop) (L : Nat → Bool) (fb : Option Nat) : Nat → List Oper → (Nat → V) → Own → Prop
  | _, [], F, H => False
  | k, o :: rest, F, H =>
    if k = j0 then match fb with
      | some b => RV P ops mv val side K L (k + 1) rest F (FL b :: H)
      | none => ∀ b, RV P ops mv val side K L (k + 1) rest (putF F o.dst (pB b)) (FL b :: H)
    else if L k = true then RVX P ops mv j0 FL val side K L fb (k + 1) rest F H
    else match gst ops o F with
      | some true =>
        if mv.contains k = true then ∀ X : Own, DOp P o (opdF F) (H ++ X) fun d H' => ∃ H1 : Own, H'.Perm (H1 ++ X) ∧ RVX P ops mv j0 FL val side K L fb (k + 1) rest (putF F o.dst d) H1
        else side k o (opdF F) ∧ RVX P ops mv j0 FL val side K L fb (k + 1) rest (putF F o.dst (val k o (opdF F))) H
      | some false => RVX P ops mv j0 FL val side K L fb (k + 1) rest (putF F o.dst (.tup [])) H
      | none => False
variable {j0 : Nat} {FL : Nat → Ent}
theorem RVX.congrL {L L' : Nat → Bool} {fb : Option Nat} : ∀ (l : List Oper) (k : Nat) (F : Nat → V) (H : Own), (∀ j, k ≤ j → j ≠ j0 → L j = L' j) → RVX P ops mv j0 FL val side K L fb k l F H → RVX P ops mv j0 FL val side K L' fb k l F H
  | [], _, _, _, _, h => h
  | o :: rest, k, F, H, he, h => by
    have ih := fun F H => RVX.congrL (fb := fb) rest (k + 1) F H fun j hj hn => he j (by omega) hn
    unfold RVX at h ⊢
    by_cases hk : k = j0
    · rw [if_pos hk] at h ⊢
      cases fb with
      | some b => exact RV.congrL rest _ _ _ (fun j hj => he j (by omega) (by omega)) h
      | none => exact fun b => RV.congrL rest _ _ _ (fun j hj => he j (by omega) (by omega)) (h b)
    · rw [if_neg hk] at h ⊢
      rw [← he k (Nat.le_refl _) hk]
      split
      · rename_i hl; rw [if_pos hl] at h; exact ih _ _ h
      · rename_i hl
        rw [if_neg hl] at h
        cases hg : gst ops o F with
        | none => rw [hg] at h; exact h.elim
        | some b =>
          rw [hg] at h
          cases b with
          | false => exact ih _ _ h
          | true =>
            simp only at h ⊢
            split
            · rename_i hm; rw [if_pos hm] at h; exact fun X => (h X).mono fun d H' ⟨H1, hp, h⟩ => ⟨H1, hp, ih _ _ h⟩
            · rename_i hm; rw [if_neg hm] at h; exact ⟨h.1, ih _ _ h.2⟩
variable (hval : ∀ k o f f', (∀ x, x ∈ o.op.operands → f x = f' x) → val k o f = val k o f' ∧ (side k o f → side k o f'))
include hval
/-- What operation j, taken first, leaves. -/
theorem RVX.pull {L : Nat → Bool} {fb : Option Nat} {j : Nat} {oj : Oper} (hj0 : j < j0) (hj : L j = false) (hun : ∀ i oi, i < j → ops[i]? = some oi → L i = false → Free ops oi oj) :
    ∀ (l : List Oper) (k : Nat) (F : Nat → V) (H : Own) (d : V), (∀ i, i < l.length → l[i]? = ops[k + i]?) → k ≤ j → j < k + l.length → l[j - k]? = some oj →
      (gst ops oj F = some false → d = .tup []) → (gst ops oj F = some true → mv.contains j = false ∧ d = val j oj (opdF F)) →
      RVX P ops mv j0 FL val side K L fb k l F H → RVX P ops mv j0 FL val side K (fun i => L i || i == j) fb k l (putF F oj.dst d) H
  | [], k, F, H, d, _, h1, h2, _, _, _, _ => by simp at h2; omega
  | o :: rest, k, F, H, d, hl, hkj, hjk, hoj, hd0, hd1, h => by
    have h0 : ops[k]? = some o := by simpa using (hl 0 (by simp)).symm
    have hl' : ∀ i, i < rest.length → rest[i]? = ops[k + 1 + i]? := fun i hi => by have := hl (i + 1) (by simp; omega); simpa [Nat.add_assoc, Nat.add_comm 1 i] using this
    unfold RVX at h ⊢
    rw [if_neg (show k ≠ j0 by omega)] at h ⊢
    by_cases hk : k = j
    · subst hk
      have ho : o = oj := by simpa using hoj
      subst ho
      rw [if_pos (by simp)]
      rw [if_neg (by simp [hj])] at h
      have hc : ∀ {F H}, RVX P ops mv j0 FL val side K L fb (k + 1) rest F H → RVX P ops mv j0 FL val side K (fun i => L i || i == k) fb (k + 1) rest F H := fun {F H} h =>
        RVX.congrL rest _ _ _ (fun i hi _ => by simp; omega) h
      cases hg : gst ops o F with
      | none => rw [hg] at h; exact h.elim
      | some b =>
        rw [hg] at h
        cases b with
        | false => rw [hd0 hg]; exact hc h
        | true =>
          obtain ⟨hm, hd⟩ := hd1 hg
          simp only [hm, Bool.false_eq_true, if_false] at h
          rw [hd]
          exact hc h.2
    · have hlt : k < j := by omega
      have hjk' : j < k + 1 + rest.length := by simp at hjk; omega
      have hoj' : rest[j - (k + 1)]? = some oj := by
        have : j - k = (j - (k + 1)) + 1 := by omega
        rw [this] at hoj
        simpa using hoj
      have hneq : (k == j) = false := by simp; omega
      simp only [hneq, Bool.or_false]
      by_cases hlk : L k = true
      · rw [if_pos hlk] at h ⊢
        exact RVX.pull hj0 hj hun rest (k + 1) F H d hl' (by omega) hjk' hoj' hd0 hd1 h
      · rw [if_neg hlk] at h ⊢
        have fr := hun k o hlt h0 (by simpa using hlk)
        rw [fr.gst2]
        have ih := fun F' H' (e1 : gst ops oj F' = gst ops oj F) (e2 : val j oj (opdF F') = val j oj (opdF F)) => RVX.pull (fb := fb) hj0 hj hun rest (k + 1) F' H' d hl' (by omega) hjk' hoj' (fun h => hd0 (e1 ▸ h)) (fun h => by rw [e2]; exact hd1 (e1 ▸ h))
        cases hg : gst ops o F with
        | none => rw [hg] at h; exact h.elim
        | some b =>
          rw [hg] at h
          cases b with
          | false =>
            simp only at h ⊢
            rw [← fr.put]
            exact ih _ _ (fr.gst1 _ _) (fr.val1 hval _ _ _) h
          | true =>
            simp only at h ⊢
            split
            · rename_i hm
              rw [if_pos hm] at h
              refine fun X => ((h X).congr fun x hx => (fr.ops2 F d x hx).symm).mono fun d' H' ⟨H1, hp, h⟩ => ⟨H1, hp, ?_⟩
              rw [← fr.put]
              exact ih _ _ (fr.gst1 _ _) (fr.val1 hval _ _ _) h
            · rename_i hm
              rw [if_neg hm] at h
              refine ⟨fr.side2 hval _ _ _ h.1, ?_⟩
              rw [fr.val2 hval k, ← fr.put]
              exact ih _ _ (fr.gst1 _ _) (fr.val1 hval _ _ _) h.2
/-- The variable is made first. -/
theorem RVX.pullF {L : Nat → Bool} {o0 : Oper} (b0 : Nat) (hun : ∀ i oi, i < j0 → ops[i]? = some oi → L i = false → Free ops oi o0) :
    ∀ (l : List Oper) (k : Nat) (F : Nat → V) (H : Own), (∀ i, i < l.length → l[i]? = ops[k + i]?) → k ≤ j0 → j0 < k + l.length → l[j0 - k]? = some o0 →
      RVX P ops mv j0 FL val side K L none k l F H → RVX P ops mv j0 FL val side K L (some b0) k l (putF F o0.dst (pB b0)) H
  | [], k, F, H, _, h1, h2, _, _ => by simp at h2; omega
  | o :: rest, k, F, H, hl, hkj, hjk, hoj, h => by
    have h0 : ops[k]? = some o := by simpa using (hl 0 (by simp)).symm
    have hl' : ∀ i, i < rest.length → rest[i]? = ops[k + 1 + i]? := fun i hi => by have := hl (i + 1) (by simp; omega); simpa [Nat.add_assoc, Nat.add_comm 1 i] using this
    unfold RVX at h ⊢
    by_cases hk : k = j0
    · subst hk
      have ho : o = o0 := by simpa using hoj
      subst ho
      rw [if_pos rfl] at h ⊢
      exact h b0
    · rw [if_neg hk] at h ⊢
      have hlt : k < j0 := by omega
      have hjk' : j0 < k + 1 + rest.length := by simp at hjk; omega
      have hoj' : rest[j0 - (k + 1)]? = some o0 := by
        have : j0 - k = (j0 - (k + 1)) + 1 := by omega
        rw [this] at hoj
        simpa using hoj
      by_cases hlk : L k = true
      · rw [if_pos hlk] at h ⊢
        exact RVX.pullF b0 hun rest (k + 1) F H hl' (by omega) hjk' hoj' h
      · rw [if_neg hlk] at h ⊢
        have fr := hun k o hlt h0 (by simpa using hlk)
        rw [fr.gst2]
        have ih := fun F' H' => RVX.pullF b0 hun rest (k + 1) F' H' hl' (by omega) hjk' hoj'
        cases hg : gst ops o F with
        | none => rw [hg] at h; exact h.elim
        | some b =>
          rw [hg] at h
          cases b with
          | false =>
            simp only at h ⊢
            rw [← fr.put]
            exact ih _ _ h
          | true =>
            simp only at h ⊢
            split
            · rename_i hm
              rw [if_pos hm] at h
              refine fun X => ((h X).congr fun x hx => (fr.ops2 F _ x hx).symm).mono fun d' H' ⟨H1, hp, h⟩ => ⟨H1, hp, ?_⟩
              rw [← fr.put]
              exact ih _ _ h
            · rename_i hm
              rw [if_neg hm] at h
              refine ⟨fr.side2 hval _ _ _ h.1, ?_⟩
              rw [fr.val2 hval k, ← fr.put]
              exact ih _ _ h.2
/-- What a mover ahead of the variable, taken first, comes to. -/
theorem RVX.pullM {L : Nat → Bool} {fb : Option Nat} {j : Nat} {oj : Oper} (hj0 : j < j0) (hj : L j = false) (hm : mv.contains j = true) (hun : ∀ i oi, i < j → ops[i]? = some oi → L i = false → Free ops oi oj ∧ mv.contains i = false) :
    ∀ (l : List Oper) (k : Nat) (F : Nat → V) (H : Own), (∀ i, i < l.length → l[i]? = ops[k + i]?) → k ≤ j → j < k + l.length → l[j - k]? = some oj → gst ops oj F = some true →
      RVX P ops mv j0 FL val side K L fb k l F H → ∀ X : Own, DOp P oj (opdF F) (H ++ X) fun d H' => ∃ H1 : Own, H'.Perm (H1 ++ X) ∧ RVX P ops mv j0 FL val side K (fun i => L i || i == j) fb k l (putF F oj.dst d) H1
  | [], k, F, H, _, h1, h2, _, _, _ => by simp at h2; omega
  | o :: rest, k, F, H, hl, hkj, hjk, hoj, hgj, h => by
    intro X
    have h0 : ops[k]? = some o := by simpa using (hl 0 (by simp)).symm
    have hl' : ∀ i, i < rest.length → rest[i]? = ops[k + 1 + i]? := fun i hi => by have := hl (i + 1) (by simp; omega); simpa [Nat.add_assoc, Nat.add_comm 1 i] using this
    have hkj0 : k ≠ j0 := by omega
    by_cases hk : k = j
    · subst hk
      have ho : o = oj := by simpa using hoj
      subst ho
      unfold RVX at h
      rw [if_neg hkj0, if_neg (by simp [hj]), hgj] at h
      simp only [hm, if_true] at h
      refine (h X).mono fun d H' ⟨H1, hp, h⟩ => ⟨H1, hp, ?_⟩
      unfold RVX
      rw [if_neg hkj0, if_pos (by simp)]
      exact RVX.congrL rest _ _ _ (fun i hi _ => by simp; omega) h
    · have hlt : k < j := by omega
      have hjk' : j < k + 1 + rest.length := by simp at hjk; omega
      have hoj' : rest[j - (k + 1)]? = some oj := by
        have : j - k = (j - (k + 1)) + 1 := by omega
        rw [this] at hoj
        simpa using hoj
      have hneq : (k == j) = false := by simp; omega
      unfold RVX at h
      rw [if_neg hkj0] at h
      by_cases hlk : L k = true
      · rw [if_pos hlk] at h
        refine (RVX.pullM hj0 hj hm hun rest (k + 1) F H hl' (by omega) hjk' hoj' hgj h X).mono fun d H' ⟨H1, hp, h⟩ => ⟨H1, hp, ?_⟩
        unfold RVX
        rw [if_neg hkj0, if_pos (by simp [hlk])]
        exact h
      · rw [if_neg hlk] at h
        obtain ⟨fr, hmk⟩ := hun k o hlt h0 (by simpa using hlk)
        cases hg : gst ops o F with
        | none => rw [hg] at h; exact h.elim
        | some b =>
          rw [hg] at h
          cases b with
          | false =>
            simp only at h
            refine ((RVX.pullM hj0 hj hm hun rest (k + 1) _ H hl' (by omega) hjk' hoj' (by rw [fr.gst1]; exact hgj) h X).congr fun x hx => fr.ops1 F _ x hx).mono fun d H' ⟨H1, hp, h⟩ => ⟨H1, hp, ?_⟩
            unfold RVX
            rw [if_neg hkj0, if_neg (by simp [hlk]; omega), fr.gst2, hg]
            simp only
            rw [← fr.put]
            exact h
          | true =>
            simp only [hmk, Bool.false_eq_true, if_false] at h
            refine ((RVX.pullM hj0 hj hm hun rest (k + 1) _ H hl' (by omega) hjk' hoj' (by rw [fr.gst1]; exact hgj) h.2 X).congr fun x hx => fr.ops1 F _ x hx).mono fun d H' ⟨H1, hp, h'⟩ => ⟨H1, hp, ?_⟩
            unfold RVX
            rw [if_neg hkj0, if_neg (by simp [hlk]; omega), fr.gst2, hg]
            simp only [hmk, Bool.false_eq_true, if_false]
            refine ⟨fr.side2 hval _ _ _ h.1, ?_⟩
            rw [fr.val2 hval k, ← fr.put]
            exact h'
variable (hok : DrawOk ops mv []) (hfl : ∀ k o, ops[k]? = some o → mv.contains k = false → k ≠ j0 → ∀ f H, side k o f → DOp P o f H fun d H' => d = val k o f ∧ H' = H) (hdst : dstB n ops = true)
include hok hfl hdst
/-- What is known of operation j ahead of its turn. -/
theorem RVX.known {L : Nat → Bool} {fb : Option Nat} {j : Nat} {oj : Oper} (X : Own) (hj0 : j < j0) (hj : L j = false) (hun : ∀ i oi, i < j → ops[i]? = some oi → L i = false → Free ops oi oj) :
    ∀ (l : List Oper) (k : Nat) (F : Nat → V) (H : Own) (a : Act) (w : World), (∀ i, i < l.length → l[i]? = ops[k + i]?) → k ≤ j → j < k + l.length → l[j - k]? = some oj →
      Sim w (H ++ X) → RF n w (H ++ X) a.tmps F → RVX P ops mv j0 FL val side K L fb k l F H → (∃ b, gst ops oj F = some b) ∧ (gst ops oj F = some true → mv.contains j = false → side j oj (opdF F))
  | [], k, F, H, a, w, _, h1, h2, _, _, _, _ => by simp at h2; omega
  | o :: rest, k, F, H, a, w, hl, hkj, hjk, hoj, hs, hr, h => by
    have h0 : ops[k]? = some o := by simpa using (hl 0 (by simp)).symm
    have hl' : ∀ i, i < rest.length → rest[i]? = ops[k + 1 + i]? := fun i hi => by have := hl (i + 1) (by simp; omega); simpa [Nat.add_assoc, Nat.add_comm 1 i] using this
    have hdo : o.dst.all (· < n) = true := by
      have := List.all_eq_true.1 hdst o (List.mem_of_getElem? h0)
      simpa using this
    have hkj0 : k ≠ j0 := by omega
    unfold RVX at h
    rw [if_neg hkj0] at h
    by_cases hk : k = j
    · subst hk
      have ho : o = oj := by simpa using hoj
      subst ho
      rw [if_neg (by simp [hj])] at h
      cases hg : gst ops o F with
      | none => rw [hg] at h; exact h.elim
      | some b =>
        rw [hg] at h
        refine ⟨⟨b, rfl⟩, fun hb hm => ?_⟩
        injection hb with hb
        subst hb
        simp only [hm, Bool.false_eq_true, if_false] at h
        exact h.1
    · have hlt : k < j := by omega
      have hjk' : j < k + 1 + rest.length := by simp at hjk; omega
      have hoj' : rest[j - (k + 1)]? = some oj := by
        have : j - k = (j - (k + 1)) + 1 := by omega
        rw [this] at hoj
        simpa using hoj
      by_cases hlk : L k = true
      · rw [if_pos hlk] at h
        exact RVX.known X hj0 hj hun rest (k + 1) F H a w hl' (by omega) hjk' hoj' hs hr h
      · rw [if_neg hlk] at h
        have fr := hun k o hlt h0 (by simpa using hlk)
        have back : ∀ d, ((∃ b, gst ops oj (putF F o.dst d) = some b) ∧ (gst ops oj (putF F o.dst d) = some true → mv.contains j = false → side j oj (opdF (putF F o.dst d)))) →
            (∃ b, gst ops oj F = some b) ∧ (gst ops oj F = some true → mv.contains j = false → side j oj (opdF F)) := fun d ⟨x, y⟩ => by
          rw [fr.gst1] at x y
          exact ⟨x, fun h1 h2 => fr.side1 hval _ _ _ (y h1 h2)⟩
        cases hg : gst ops o F with
        | none => rw [hg] at h; exact h.elim
        | some b =>
          rw [hg] at h
          cases b with
          | false => exact back _ (RVX.known X hj0 hj hun rest (k + 1) _ H (a.put o.dst undef) w hl' (by omega) hjk' hoj' hs (hr.put hdo (R.skipped _ _)) h)
          | true =>
            simp only at h
            split at h
            · rename_i hm
              refine wp_some (P := P) (o := o) (a := a) (w := w) (h X a w _ _ hs (fun x _ => hr.opd x) fun v w' d H' s x r ⟨H1, hp, k'⟩ => ?_)
              exact back _ (RVX.known X hj0 hj hun rest (k + 1) _ H1 _ w' hl' (by omega) hjk' hoj' (s.perm hp) (((hr.ext x).put hdo r).perm hp) k')
            · rename_i hm
              refine wp_some (P := P) (o := o) (a := a) (w := w) (hfl k o h0 (by simpa using hm) hkj0 _ (H ++ X) h.1 a w _ _ hs (fun x _ => hr.opd x) fun v w' d H' s x r ⟨hd, hH⟩ => ?_)
              subst hd
              subst hH
              exact back _ (RVX.known X hj0 hj hun rest (k + 1) _ H _ w' hl' (by omega) hjk' hoj' s ((hr.ext x).put hdo r) h.2)
/-- All up to the variable has been done. -/
theorem RVX.conv {L : Nat → Bool} {b : Nat} (hL : ∀ k, k ≤ j0 → L k = true) : ∀ (l : List Oper) (k : Nat) (F : Nat → V) (H : Own), k ≤ j0 → RVX P ops mv j0 FL val side K L (some b) k l F H → RV P ops mv val side K L k l F (FL b :: H)
  | [], _, _, _, _, h => h.elim
  | o :: rest, k, F, H, hk, h => by
    unfold RVX at h
    unfold RV
    rw [if_pos (hL k hk)]
    by_cases hkj : k = j0
    · rw [if_pos hkj] at h; exact h
    · rw [if_neg hkj, if_pos (hL k hk)] at h
      exact RVX.conv hL rest (k + 1) F H (by omega) h
variable (o0 : Oper) (ho0 : ops[j0]? = some o0) (hg0 : o0.guard = none) (hal : ∀ f H Kd, (∀ b, Kd (pB b) (FL b :: H)) → DOp P o0 f H Kd) (hlate : ∀ i, j0 < i → i < ops.length → ∀ k, k ≤ j0 → After ops.toArray i k) (hmv0 : mv.contains j0 = false)
include o0 ho0 hg0 hal hlate hmv0
theorem RVX.all {Q : Exit → Act → World → Prop} {w0 : World} {G0 : Own} {D : List Deferred} (hQ : ∀ a' w' F' H', a'.defers = D → Sim w' H' → RF n w' H' a'.tmps F' → Ext w0 G0 w' H' → K F' H' → Q .normal a' w') :
    ∀ (c : Nat) (listed : Array Bool) (fb : Option Nat) (F : Nat → V) (H : Own) (a : Act) (w : World), listed.toList.count false = c → HeadInv .any ops.toArray ops.length listed → (listed.getD j0 false = fb.isSome) → RVX P ops mv j0 FL val side K (fun k => listed.getD k false) fb 0 ops F H →
      Sim w (H ++ (fb.map FL).toList) → RF n w (H ++ (fb.map FL).toList) a.tmps F → Ext w0 G0 w (H ++ (fb.map FL).toList) → a.defers = D → wpAny P .any ops.toArray Q c listed a w := by
  have hfl' : ∀ (H0 : Own) k o, ops[k]? = some o → mv.contains k = false → ∀ f H, (([] : List Nat).contains k = true → H = H0) → (fun k o f => side k o f ∧ k ≠ j0) k o f → DOp P o f H fun d H' => d = val k o f ∧ H' = H := fun H0 k o ho hm f H _ hs => hfl k o ho hm hs.2 f H hs.1
  have hval' : ∀ k o f f', (∀ x, x ∈ o.op.operands → f x = f' x) → val k o f = val k o f' ∧ ((fun k o f => side k o f ∧ k ≠ j0) k o f → (fun k o f => side k o f ∧ k ≠ j0) k o f') := fun k o f f' hf => ⟨(hval k o f f' hf).1, fun h => ⟨(hval k o f f' hf).2 h.1, h.2⟩⟩
  have hjl : j0 < ops.length := (List.getElem?_eq_some_iff.1 ho0).1
  -- once all up to the variable has been done
  have fin : ∀ (c : Nat) (listed : Array Bool) (b : Nat) (F : Nat → V) (H : Own) (a : Act) (w : World), listed.toList.count false = c → HeadInv .any ops.toArray ops.length listed → (∀ k, k ≤ j0 → listed.getD k false = true) → RVX P ops mv j0 FL val side K (fun k => listed.getD k false) (some b) 0 ops F H →
      Sim w (H ++ [FL b]) → RF n w (H ++ [FL b]) a.tmps F → Ext w0 G0 w (H ++ [FL b]) → a.defers = D → wpAny P .any ops.toArray Q c listed a w := fun c listed b F H a w hc inv hall h hs hr hx hD => by
    have hp : (H ++ [FL b]).Perm (FL b :: H) := (List.perm_append_comm).trans (by simp)
    have h' := RVX.conv hval hok hfl hdst hall ops 0 F H (Nat.zero_le _) h
    have hL : ∀ k, mv.contains k = false → (fun k => listed.getD k false) k = true ∨ k ≠ j0 := fun k _ => by
      by_cases hk : k = j0
      · left; rw [hk]; exact hall j0 (Nat.le_refl _)
      · exact .inr hk
    refine RV.all (n := n) (mv := mv) (tm := []) (H0 := FL b :: H) (K := K) (val := val) (side := fun k o f => side k o f ∧ k ≠ j0) (fun k o f f' hf => ⟨(hval k o f f' hf).1, fun h => ⟨(hval k o f f' hf).2 h.1, h.2⟩⟩) hok (hfl' _) hdst hQ c listed F (FL b :: H) a w hc inv ?_ (hs.perm hp) (fun _ => rfl) (hr.perm hp) (hx.trans (Ext.perm hp)) hD
    have up : ∀ (l : List Oper) (k : Nat) (F : Nat → V) (H : Own), RV P ops mv val side K (fun k => listed.getD k false) k l F H → RV P ops mv val (fun k o f => side k o f ∧ k ≠ j0) K (fun k => listed.getD k false) k l F H := by
      intro l
      induction l with
      | nil => exact fun k F H h => h
      | cons o rest ih =>
        intro k F H h
        unfold RV at h ⊢
        split
        · rename_i hl; rw [if_pos hl] at h; exact ih _ _ _ h
        · rename_i hl
          rw [if_neg hl] at h
          have hkj : k ≠ j0 := fun e => hl (by rw [e]; exact hall j0 (Nat.le_refl _))
          cases hg : gst ops o F with
          | none => rw [hg] at h; exact h.elim
          | some b =>
            rw [hg] at h
            cases b with
            | false => exact ih _ _ _ h
            | true =>
              simp only at h ⊢
              split
              · rename_i hm; rw [if_pos hm] at h; exact h.mono fun d H' h => ih _ _ _ h
              · rename_i hm; rw [if_neg hm] at h; exact ⟨⟨h.1, hkj⟩, ih _ _ _ h.2⟩
    exact up ops 0 F _ h'
  intro c
  induction c with
  | zero =>
    intro listed fb F H a w hc inv hfb h hs hr hx hD
    have hall : ∀ j, listed.getD j true = true := fun j => by
      cases hj : listed.getD j true with
      | true => rfl
      | false => have := count_less (P := P) hval' hok (hfl' []) hdst hj; omega
    have hall' : ∀ k, k ≤ j0 → listed.getD k false = true := fun k hk => by
      have h1 := hall k
      have h2 : k < listed.size := by rw [inv.size]; simp; omega
      simp [h2] at h1 ⊢
      exact h1
    cases fb with
    | none => rw [hall' j0 (Nat.le_refl _)] at hfb; cases hfb
    | some b => exact fin 0 listed b F H a w hc inv hall' h hs hr hx hD
  | succ c ih =>
    intro listed fb F H a w hc inv hfb h hs hr hx hD
    have hsz : listed.size = ops.length := by simpa using inv.size
    rcases first_un (P := P) hval' hok (hfl' []) hdst hsz (j0 + 1) with hall | ⟨k, hk, hkf, hlow⟩
    · cases fb with
      | none => rw [hall j0 (by omega)] at hfb; cases hfb
      | some b => exact fin (c + 1) listed b F H a w hc inv (fun k hk => hall k (by omega)) h hs hr hx hD
    · refine ⟨fun h0 => ?_, fun i hi' => ?_⟩
      · exfalso
        have hkl : k < listed.size := by omega
        have : k ∈ Region.ready .any ops.toArray listed := mem_ready.2 ⟨getD_in hkl hkf, ops[k], by simp [show k < ops.length by omega], fun e he hb => hlow _ (hok.up k _ (by simp [show k < ops.length by omega]) e he hb)⟩
        rw [h0] at this
        cases this
      · obtain ⟨hun, oi, hoi, _⟩ := mem_ready.1 hi'
        have hoi' : ops[i]? = some oi := by simpa using hoi
        have hilt : i < ops.length := (List.getElem?_eq_some_iff.1 hoi').1
        have hlf : listed.getD i false = false := getD_both hun
        have inv' := inv.set hi' (by simpa using hilt)
        have hc' : (listed.setIfInBounds i true).toList.count false = c := by have := count_less (P := P) hval' hok (hfl' []) hdst hun; omega
        have hij : i ≤ j0 := by
          rcases Nat.lt_or_ge j0 i with h' | h'
          · have := ready_after (P := P) hval' hok (hfl' []) hdst inv hi' (hlate i h' hilt k (by omega))
            rw [hkf] at this; cases this
          · exact h'
        have hpair : ∀ k ok, k < i → ops[k]? = some ok → listed.getD k false = false → Free ops ok oi ∧ ¬ (mv.contains k = true ∧ mv.contains i = true) := fun k ok hk hok' hkf => by
          rcases hok.pair k i ok oi hk hok' hoi' with h' | ⟨h1, h2⟩
          · rw [ready_after (P := P) hval' hok (hfl' []) hdst inv hi' h'] at hkf; cases hkf
          · exact ⟨free_of h1, h2⟩
        have hLe : ∀ j, j ≠ i → (listed.setIfInBounds i true).getD j false = listed.getD j false := fun j hji => getD_set_ne false (Ne.symm hji)
        have hLi : (listed.setIfInBounds i true).getD i false = true := by
          have : i < listed.size := by omega
          simp [this]
        have hLc : ∀ {fb F H}, RVX P ops mv j0 FL val side K (fun k => listed.getD k false || k == i) fb 0 ops F H → RVX P ops mv j0 FL val side K (fun k => (listed.setIfInBounds i true).getD k false) fb 0 ops F H := fun {fb F H} h =>
          RVX.congrL ops 0 F H (fun j _ _ => by
            by_cases hji : j = i
            · subst hji; rw [hLi]; simp
            · have : (j == i) = false := by simpa using hji
              rw [this, Bool.or_false, hLe j hji]) h
        have hdi : oi.dst.all (· < n) = true := by
          have := List.all_eq_true.1 hdst oi (List.mem_of_getElem? hoi')
          simpa using this
        unfold wpOp
        rw [hoi]
        by_cases hi0 : i = j0
        · subst hi0
          have ho : oi = o0 := Option.some.inj (hoi'.symm.trans ho0)
          subst ho
          have hgt : gst ops oi F = some true := by unfold gst; rw [hg0]
          have hw := gst_wanted hr hgt
          simp only [hw, if_true]
          refine .inl ?_
          cases fb with
          | some b => rw [hlf] at hfb; cases hfb
          | none =>
            simp only [Option.map_none, Option.toList_none, List.append_nil] at hs hr hx
            refine hal (opdF F) H (fun d H' => ∃ b, d = pB b ∧ H' = FL b :: H) (fun b => ⟨b, rfl, rfl⟩) a w _ _ hs (fun x _ => hr.opd x) fun v w' d H' s x r ⟨b, hd, hH⟩ => ?_
            subst hd
            subst hH
            have hp : (FL b :: H).Perm (H ++ [FL b]) := (List.perm_append_comm (l₁ := [FL b]) (l₂ := H))
            refine ih _ (some b) (putF F oi.dst (pB b)) H _ w' hc' inv' (by rw [hLi]; rfl) (hLc ?_) (s.perm hp) (((hr.ext x).put hdi r).perm hp) ((hx.trans x).trans (Ext.perm hp)) (by rw [← hD]; cases oi.dst <;> rfl)
            refine RVX.congrL ops 0 _ _ (fun j _ hj => ?_) (RVX.pullF (L := fun k => listed.getD k false) hval b (fun k ok h1 h2 h3 => (hpair k ok h1 h2 h3).1) ops 0 F H (fun k _ => by simp) (Nat.zero_le _) (by simpa using hilt) (by simpa using hoi') h)
            have : (j == i) = false := by simpa using hj
            rw [this, Bool.or_false]
        · have hij' : i < j0 := by omega
          have hfb' : (listed.setIfInBounds i true).getD j0 false = fb.isSome := by rw [hLe j0 (fun e => hi0 e.symm)]; exact hfb
          obtain ⟨⟨b, hb⟩, hside⟩ := RVX.known hval hok hfl hdst (L := fun k => listed.getD k false) (fb.map FL).toList hij' hlf (fun k ok h1 h2 h3 => (hpair k ok h1 h2 h3).1) ops 0 F H a w (fun k _ => by simp) (Nat.zero_le _) (by simpa using hilt) (by simpa using hoi') hs hr h
          have hw := gst_wanted hr hb
          simp only [hw]
          cases b with
          | false =>
            simp only [Bool.false_eq_true, if_false]
            refine ih _ fb (putF F oi.dst (.tup [])) H _ w hc' inv' hfb' (hLc ?_) hs (hr.put hdi (R.skipped _ _)) hx (by rw [← hD]; cases oi.dst <;> rfl)
            exact RVX.pull hval hij' hlf (fun k ok h1 h2 h3 => (hpair k ok h1 h2 h3).1) ops 0 F H _ (fun k _ => by simp) (Nat.zero_le _) (by simpa using hilt) (by simpa using hoi') (fun _ => rfl) (fun h' => by rw [hb] at h'; cases h') h
          | true =>
            simp only [if_true]
            refine .inl ?_
            cases hm : mv.contains i with
            | true =>
              refine RVX.pullM hval hij' hlf hm (fun k ok h1 h2 h3 => ?_) ops 0 F H (fun k _ => by simp) (Nat.zero_le _) (by simpa using hilt) (by simpa using hoi') hb h (fb.map FL).toList a w _ _ hs (fun x _ => hr.opd x) fun v w' d H' s x r ⟨H1, hp, k'⟩ => ?_
              · obtain ⟨g1, g2⟩ := hpair k ok h1 h2 h3
                refine ⟨g1, ?_⟩
                cases hmk : mv.contains k with
                | true => exact absurd ⟨hmk, hm⟩ g2
                | false => rfl
              · exact ih _ fb _ H1 _ w' hc' inv' hfb' (hLc k') (s.perm hp) (((hr.ext x).put hdi r).perm hp) ((hx.trans x).trans (Ext.perm hp)) (by rw [← hD]; cases oi.dst <;> rfl)
            | false =>
              refine hfl i oi hoi' hm hi0 _ _ (hside hb hm) a w _ _ hs (fun x _ => hr.opd x) fun v w' d H' s x r ⟨hd, hH⟩ => ?_
              subst hd
              subst hH
              refine ih _ fb _ H _ w' hc' inv' hfb' (hLc ?_) s ((hr.ext x).put hdi r) (hx.trans x) (by rw [← hD]; cases oi.dst <;> rfl)
              exact RVX.pull hval hij' hlf (fun k ok h1 h2 h3 => (hpair k ok h1 h2 h3).1) ops 0 F H _ (fun k _ => by simp) (Nat.zero_le _) (by simpa using hilt) (by simpa using hoi') (fun h' => by rw [hb] at h'; cases h') (fun _ => ⟨hm, rfl⟩) h
end
section
variable {P : Program} {n : Nat} {Q : Exit → Env → Own → Prop} {e : Env} {H : Own}
/-- What is asked of the order: all behind the variable comes behind all up to it. -/
def lateB (ops : List Oper) (j0 : Nat) : Bool := (List.range ops.length).all fun i => decide (i ≤ j0) || (List.range (j0 + 1)).all fun k => ((masks ops).getD i 0).testBit k
/-- A region that draws its order, in the order of the text; j0: the operation that makes a variable at any time. -/
def DVX (P : Program) (mv : List Nat) (j0 : Nat) (ops : Array Oper) (K : Env → Own → Prop) : Nat → List Oper → Env → Own → Prop
  | _, [], _, _ => False
  | i, o :: rest, e, H => o.guard = none ∧
    if i = j0 then ∃ t, o.op = .alloc t ∧ ((ty P t).zero ≠ [] ∧ (ty P t).kind ≠ 0 ∧ (ty P t).kind ≠ 11) ∧ ∀ b, DV P mv [] ops K (i + 1) rest (putO e o.dst (.raw (.pointer (some ⟨b, 0, none⟩)))) (.blk b (ty P t).zero :: H)
    else if mv.contains i = true then ∀ X : Own, DOp P o (opd e) (H ++ X) fun d H' => ∃ H1 : Own, H'.Perm (H1 ++ X) ∧ DVX P mv j0 ops K (i + 1) rest (putO e o.dst d) H1
    else side P o (opd e) ∧ DVX P mv j0 ops K (i + 1) rest (putO e o.dst (val P o (opd e))) H
@[congr] theorem DVX_congr (P : Program) (mv : List Nat) (j0 : Nat) (ops : Array Oper) (K : Env → Own → Prop) (i : Nat) (l : List Oper) {e e' : Env} {H H' : Own} (h : e = e') (hH : H = H') : DVX P mv j0 ops K i l e H = DVX P mv j0 ops K i l e' H' := by rw [h, hH]
theorem DVX.rvx {mv : List Nat} {j0 : Nat} {ops : List Oper} {K : Env → Own → Prop} {z : List V} (hz : ∀ o t, ops[j0]? = some o → o.op = .alloc t → z = (ty P t).zero) : ∀ (l : List Oper) (i : Nat) (e : Env) (H : Own), (∀ k, k < l.length → l[k]? = ops[i + k]?) → i ≤ j0 → DVX P mv j0 ops.toArray K i l e H →
    RVX P ops mv j0 (fun b => .blk b z) (tV P [] fun _ => .any) (tS P [] [] fun _ => .any) (KF K) (fun _ => false) none i l (get e) H
  | [], i, e, H, _, _, h => h.elim
  | o :: rest, i, e, H, hl, hi, h => by
    have h0 : ops[i]? = some o := by simpa using (hl 0 (by simp)).symm
    have hl' : ∀ k, k < rest.length → rest[k]? = ops[i + 1 + k]? := fun k hk => by have := hl (k + 1) (by simp; omega); simpa [Nat.add_assoc, Nat.add_comm 1 k] using this
    unfold DVX at h
    obtain ⟨hg, h⟩ := h
    have hgt : gst ops o (get e) = some true := by unfold gst; rw [hg]
    unfold RVX
    by_cases hij : i = j0
    · rw [if_pos hij] at h ⊢
      obtain ⟨t, ht, _, h⟩ := h
      subst hij
      rw [hz o t h0 ht]
      intro b
      have := DV.rv0 (H0 := []) (tbl := fun _ => .any) rest (i + 1) _ _ (fun _ _ _ => rfl) (h b)
      rw [get_putO] at this
      exact this
    · rw [if_neg hij, if_neg (by simp), hgt]
      rw [if_neg hij] at h
      simp only
      rw [opdF_get]
      split
      · rename_i hm
        rw [if_pos hm] at h
        refine fun X => (h X).mono fun d H' ⟨H1, hp, h⟩ => ⟨H1, hp, ?_⟩
        rw [← get_putO]
        exact DVX.rvx hz rest (i + 1) _ _ hl' (by omega) h
      · rename_i hm
        rw [if_neg hm] at h
        refine ⟨h.1, ?_⟩
        have : tV P [] (fun _ => .any) i o (opd e) = val P o (opd e) := rfl
        rw [this, ← get_putO]
        exact DVX.rvx hz rest (i + 1) _ _ hl' (by omega) h.2
/-- What is left beside what came in. -/
def PXK (H' X : Own) (A : Own → Prop) : Prop := ∃ H1 : Own, H'.Perm (H1 ++ X) ∧ A H1
theorem PXK.base {F X : Own} {A : Own → Prop} (h : A F) : PXK (F ++ X) X A := ⟨F, List.Perm.refl _, h⟩
theorem PXK.none {X : Own} {A : Own → Prop} (h : A []) : PXK X X A := ⟨[], List.Perm.refl _, h⟩
theorem PXK.cons {e : Ent} {H' X : Own} {A : Own → Prop} (h : PXK H' X fun H1 => A (e :: H1)) : PXK (e :: H') X A := by
  obtain ⟨H1, hp, h⟩ := h
  exact ⟨e :: H1, List.Perm.cons e hp, h⟩
theorem DVX.f_ {mv : List Nat} {j0 : Nat} {ops : Array Oper} {K : Env → Own → Prop} {i : Nat} {o : Oper} {rest : List Oper} (hg : o.guard = none) (hm : mv.contains i = false) (hi : i ≠ j0) (h : side P o (opd e) ∧ DVX P mv j0 ops K (i + 1) rest (putO e o.dst (val P o (opd e))) H) : DVX P mv j0 ops K i (o :: rest) e H := by
  unfold DVX; rw [if_neg hi, if_neg (by rw [hm]; exact Bool.false_ne_true)]; exact ⟨hg, h⟩
theorem DVX.mv_ {mv : List Nat} {j0 : Nat} {ops : Array Oper} {K : Env → Own → Prop} {i : Nat} {o : Oper} {rest : List Oper} (hg : o.guard = none) (hm : mv.contains i = true) (hi : i ≠ j0) (h : ∀ X : Own, DOp P o (opd e) (H ++ X) fun d H' => PXK H' X fun H1 => DVX P mv j0 ops K (i + 1) rest (putO e o.dst d) H1) : DVX P mv j0 ops K i (o :: rest) e H := by
  unfold DVX; rw [if_neg hi, if_pos hm]; exact ⟨hg, h⟩
theorem DVX.fl_ {mv : List Nat} {j0 : Nat} {ops : Array Oper} {K : Env → Own → Prop} {i : Nat} {o : Oper} {rest : List Oper} {t : TypeId} (hg : o.guard = none) (hi : i = j0) (ht : o.op = .alloc t) (h : ((ty P t).zero ≠ [] ∧ (ty P t).kind ≠ 0 ∧ (ty P t).kind ≠ 11) ∧ ∀ b, FD P (mv ++ []) ops (fun i' l' e' => DV P mv [] ops K i' l' e' (.blk b (ty P t).zero :: H)) (i + 1) rest (putO e o.dst (.raw (.pointer (some ⟨b, 0, none⟩))))) : DVX P mv j0 ops K i (o :: rest) e H := by
  unfold DVX; rw [if_pos hi]; exact ⟨hg, t, ht, h.1, fun b => DV.go [] mv _ _ _ (h.2 b)⟩
theorem DW.drawX (ks mv : List Nat) (j0 : Nat) (t0 : TypeId) (d0 : Option Nat) {id : Nat} {l : List Oper} (hm : P.follows .mixedOrders = true) (hd : dstB n l = true) (hB : drawB l mv [] = true) (hL : lateB l j0 = true) (hmv0 : mv.contains j0 = false)
    (h0 : (l[j0]?).map (fun o => (o.op, o.dst, o.guard)) = some (.alloc t0, d0, none)) (hz : (ty P t0).zero ≠ [] ∧ (ty P t0).kind ≠ 0 ∧ (ty P t0).kind ≠ 11) (h : DVX P mv j0 l.toArray (Q .normal) 0 l (keepL ks e) H) : DW P n (.region id l.toArray true) Q e H := by
  refine DW.weak _ H (get_keepL ks e) (List.Sublist.refl _) ?_
  intro a w hs hr
  refine wp_region_any hm ?_
  have hok := drawOk_of hB
  obtain ⟨o0, ho0, he0⟩ : ∃ o0, l[j0]? = some o0 ∧ (o0.op, o0.dst, o0.guard) = (.alloc t0, d0, none) := by
    cases h1 : l[j0]? with
    | none => rw [h1] at h0; cases h0
    | some o => rw [h1] at h0; exact ⟨o, rfl, by simpa using h0⟩
  simp only [Prod.mk.injEq] at he0
  obtain ⟨e1, e2, e3⟩ := he0
  have hrv := DVX.rvx (z := (ty P t0).zero) (fun o t ho ht => by
    have : o = o0 := Option.some.inj (ho.symm.trans ho0)
    subst this
    rw [e1] at ht
    injection ht with ht
    rw [ht]) l 0 _ H (fun k _ => by simp) (Nat.zero_le _) h
  have hdr := hs.drew
  have hinv : HeadInv .any l.toArray l.length (Array.replicate l.toArray.size false) := ⟨by simp, fun j oj _ hl => (by rw [getD_replicate_false] at hl; cases hl), fun t _ ht => getD_in (by simpa using ht) (getD_replicate_false _ _)⟩
  have hlate : ∀ i, j0 < i → i < l.length → ∀ k, k ≤ j0 → After l.toArray i k := fun i h1 h2 k hk => by
    have := List.all_eq_true.1 hL i (List.mem_range.2 h2)
    simp only [Bool.or_eq_true, decide_eq_true_eq] at this
    rcases this with h' | h'
    · omega
    · exact after_of_masks (List.all_eq_true.1 h' k (List.mem_range.2 (by omega)))
  refine RVX.all (n := n) (mv := mv) (K := KF (Q .normal)) (val := tV P [] fun _ => .any) (side := tS P [] [] fun _ => .any) (j0 := j0) (FL := fun b => .blk b (ty P t0).zero) (fun k o f f' hf => ?_) hok (fun k o ho hk _ f H' hs => ?_) hd o0 ho0 e3 (fun f H Kd hK => DOp.alloc_ e1 ⟨hz.1, hz.2.1, hz.2.2, hK⟩) hlate hmv0 (Q := _) (w0 := w) (G0 := H) (D := a.defers)
    (fun a' w' F' H' hd' s r x ⟨e', he, hq⟩ => ⟨hd', e', H', s, ⟨r.size, fun t => by rw [he]; exact r.slot t⟩, x, hq⟩)
    l.toArray.size (Array.replicate l.toArray.size false) none (get (keepL ks e)) H a w.drew (by simp) hinv (getD_replicate_false _ _) ?_ (by simpa using hdr.1) (by simpa using (⟨hr.size, fun t => hdr.2.rel (hr.slot t)⟩ : RF n w.drew H a.tmps (get (keepL ks e)))) (by simpa using hdr.2) rfl
  · exact val_congr o f f' hf
  · exact val_sound hs
  · exact RVX.congrL (L := fun _ => false) l 0 _ _ (fun j _ _ => (getD_replicate_false _ _).symm) hrv
end
end Go.Proofs.YtnnigbnlhhikjaaDoor
