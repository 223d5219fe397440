/- Regions, drawn or not, as the walk meets them. No statement of the program. -/
import Derived.Test.YtnnigbnlhhikjaaDoorEj
namespace Go.Proofs.YtnnigbnlhhikjaaDoor
open Go.RowKit
set_option linter.unusedSimpArgs false
set_option linter.unusedVariables false
set_option linter.unusedSectionVars false

theorem DC.bodyN {P : Program} {f : FuncId} {fn : Func} {c : Code} {args : List V} {H : Own} {K : V → Own → Prop} (n_ : Nat) (hf : P.funcs[f]? = some fn) (hb : fn.body = some c) (hn : (fn.name != "runtime.NumGoroutine") = true)
    (hN : args.length + (fn.ntmps - args.length) = n_) (h : DW P n_ c (retQ P fn K) (env0 0 args) H) : DC P f args H K := DC.body hf hb hn (hN ▸ h)
def keepL (ks : List Nat) : Env → Env
  | [] => []
  | (k, v) :: e => if ks.contains k = true then (k, v) :: keepL ks e else keepL ks e
theorem get_keepL_out (ks : List Nat) (t : Nat) (ht : ks.contains t = false) : ∀ e : Env, get (keepL ks e) t = .any
  | [] => rfl
  | (k, v) :: e => by
    simp only [keepL]
    split
    · rename_i hk
      simp only [get]
      rw [if_neg fun h => by rw [h, hk] at ht; cases ht]
      exact get_keepL_out ks t ht e
    · exact get_keepL_out ks t ht e
theorem get_keepL (ks : List Nat) : ∀ (e : Env) (t : Nat), get (keepL ks e) t = get e t ∨ get (keepL ks e) t = .any
  | [], t => .inl rfl
  | (k, v) :: e, t => by
    by_cases ht : ks.contains t = true
    · left
      have : ∀ e : Env, get (keepL ks e) t = get e t := fun e => by
        induction e with
        | nil => rfl
        | cons x e ih =>
          obtain ⟨k', v'⟩ := x
          simp only [keepL]
          split
          · simp only [get]; split
            · rfl
            · exact ih
          · rename_i hk
            simp only [get]
            rw [if_neg fun (h : t = k') => hk (by rw [← h]; exact ht)]
            exact ih
      exact this _
    · exact .inr (get_keepL_out ks t (by simpa using ht) _)

section
variable {P : Program} {n : Nat} {Q : Exit → Env → Own → Prop} {e : Env} {H : Own}
theorem DW.regK (ks : List Nat) {id : Nat} {l : List Oper} (hd : dstB n l = true) (h : SeqD P l.toArray (Q .normal) l (keepL ks e) H) : DW P n (.region id l.toArray false) Q e H :=
  DW.weak _ H (get_keepL ks e) (List.Sublist.refl _) (DW.region hd h)

/-- A region that draws its order, in the order of the text. mv: the operations that keep their order; tm: those that are told at the state ahead of all of them. -/
def DV (P : Program) (mv tm : List Nat) (ops : Array Oper) (K : Env → Own → Prop) : Nat → List Oper → Env → Own → Prop
  | _, [], e, H => K e H
  | i, o :: rest, e, H => match o.guard with
    | none => if mv.contains i = true then DOp P o (opd e) H fun d H' => DV P mv tm ops K (i + 1) rest (putO e o.dst d) H'
        else if tm.contains i = true then ∃ d, (DOp P o (opd e) H fun d' H' => d' = d ∧ H' = H) ∧ DV P mv tm ops K (i + 1) rest (putO e o.dst d) H
        else side P o (opd e) ∧ DV P mv tm ops K (i + 1) rest (putO e o.dst (val P o (opd e))) H
    | some (j, true) => gd (gval ops e j) (if mv.contains i = true then DOp P o (opd e) H fun d H' => DV P mv tm ops K (i + 1) rest (putO e o.dst d) H'
        else if tm.contains i = true then ∃ d, (DOp P o (opd e) H fun d' H' => d' = d ∧ H' = H) ∧ DV P mv tm ops K (i + 1) rest (putO e o.dst d) H
        else side P o (opd e) ∧ DV P mv tm ops K (i + 1) rest (putO e o.dst (val P o (opd e))) H) (DV P mv tm ops K (i + 1) rest (putO e o.dst (.tup [])) H)
    | some (j, false) => gf (gval ops e j) (DV P mv tm ops K (i + 1) rest (putO e o.dst (.tup [])) H) (if mv.contains i = true then DOp P o (opd e) H fun d H' => DV P mv tm ops K (i + 1) rest (putO e o.dst d) H'
        else if tm.contains i = true then ∃ d, (DOp P o (opd e) H fun d' H' => d' = d ∧ H' = H) ∧ DV P mv tm ops K (i + 1) rest (putO e o.dst d) H
        else side P o (opd e) ∧ DV P mv tm ops K (i + 1) rest (putO e o.dst (val P o (opd e))) H)
@[congr] theorem DV_congr (P : Program) (mv tm : List Nat) (ops : Array Oper) (K : Env → Own → Prop) (i : Nat) (l : List Oper) {e e' : Env} {H H' : Own} (h : e = e') (hH : H = H') : DV P mv tm ops K i l e H = DV P mv tm ops K i l e' H' := by rw [h, hH]
/-- What stands in operation i's place. -/
def DVop (P : Program) (mv tm : List Nat) (ops : Array Oper) (K : Env → Own → Prop) (i : Nat) (o : Oper) (rest : List Oper) (e : Env) (H : Own) : Prop :=
  if mv.contains i = true then DOp P o (opd e) H fun d H' => DV P mv tm ops K (i + 1) rest (putO e o.dst d) H'
  else if tm.contains i = true then ∃ d, (DOp P o (opd e) H fun d' H' => d' = d ∧ H' = H) ∧ DV P mv tm ops K (i + 1) rest (putO e o.dst d) H
  else side P o (opd e) ∧ DV P mv tm ops K (i + 1) rest (putO e o.dst (val P o (opd e))) H

theorem gst_gval {ops : List Oper} {e : Env} {o : Oper} {j : Nat} {want b : Bool} (hg : o.guard = some (j, want)) (hb : gval ops.toArray e j = .bool b) : gst ops o (get e) = some (b == want) := by
  unfold gst
  rw [hg]
  unfold gval at hb
  simp only [List.getElem?_toArray] at hb
  simp only
  cases hd : (ops[j]?).bind (·.dst) with
  | none => rw [hd] at hb; cases hb
  | some t => rw [hd] at hb; simp only at hb ⊢; rw [hb]
theorem gst_tup {ops : List Oper} {e : Env} {o : Oper} {j : Nat} {want : Bool} {ds : List V} (hg : o.guard = some (j, want)) (hb : gval ops.toArray e j = .tup ds) : gst ops o (get e) = some false := by
  unfold gst
  rw [hg]
  unfold gval at hb
  simp only [List.getElem?_toArray] at hb
  simp only
  cases hd : (ops[j]?).bind (·.dst) with
  | none => rw [hd] at hb; cases hb
  | some t => rw [hd] at hb; simp only at hb ⊢; rw [hb]
def tV (P : Program) (tm : List Nat) (tbl : Nat → V) (k : Nat) (o : Oper) (f : Operand → V) : V := if tm.contains k = true then tbl k else val P o f
def tS (P : Program) (tm : List Nat) (H0 : Own) (tbl : Nat → V) (k : Nat) (o : Oper) (f : Operand → V) : Prop := if tm.contains k = true then (DOp P o f H0 fun d H' => d = tbl k ∧ H' = H0) else side P o f
def KF (K : Env → Own → Prop) (F : Nat → V) (H : Own) : Prop := ∃ e, get e = F ∧ K e H
theorem DV.cases {mv tm : List Nat} {ops : List Oper} {K : Env → Own → Prop} {i : Nat} {o : Oper} {rest : List Oper} (h : DV P mv tm ops.toArray K i (o :: rest) e H) :
    (gst ops o (get e) = some true ∧ DVop P mv tm ops.toArray K i o rest e H) ∨ (gst ops o (get e) = some false ∧ DV P mv tm ops.toArray K (i + 1) rest (putO e o.dst (.tup [])) H) := by
  unfold DV at h
  cases hg : o.guard with
  | none => rw [hg] at h; exact .inl ⟨by unfold gst; rw [hg], h⟩
  | some jw =>
    obtain ⟨j, want⟩ := jw
    rw [hg] at h
    cases want with
    | true =>
      simp only at h
      cases hb : gval ops.toArray e j with
      | bool b =>
        rw [gst_gval hg hb]
        rw [hb] at h
        cases b with
        | true => rw [gd_true] at h; exact .inl ⟨rfl, h⟩
        | false => rw [gd_false] at h; exact .inr ⟨rfl, h⟩
      | tup ds => rw [gst_tup hg hb]; rw [hb, gd_tup] at h; exact .inr ⟨rfl, h⟩
      | _ => rw [hb] at h; exact h.elim
    | false =>
      simp only at h
      cases hb : gval ops.toArray e j with
      | bool b =>
        rw [gst_gval hg hb]
        rw [hb] at h
        cases b with
        | true => rw [gf_true] at h; exact .inr ⟨rfl, h⟩
        | false => rw [gf_false] at h; exact .inl ⟨rfl, h⟩
      | tup ds => rw [gst_tup hg hb]; rw [hb, gf_tup] at h; exact .inr ⟨rfl, h⟩
      | _ => rw [hb] at h; exact h.elim
/-- Behind the last that is told. -/
theorem DV.rv0 {mv tm : List Nat} {ops : List Oper} {K : Env → Own → Prop} {H0 : Own} {tbl : Nat → V} : ∀ (l : List Oper) (i : Nat) (e : Env) (H : Own), (∀ k, i ≤ k → k < i + l.length → tm.contains k = false) → DV P mv tm ops.toArray K i l e H →
    RV P ops mv (tV P tm tbl) (tS P tm H0 tbl) (KF K) (fun _ => false) i l (get e) H
  | [], i, e, H, _, h => ⟨e, rfl, h⟩
  | o :: rest, i, e, H, ht, h => by
    have ht' : ∀ k, i + 1 ≤ k → k < i + 1 + rest.length → tm.contains k = false := fun k h1 h2 => ht k (by omega) (by simp; omega)
    have hti := ht i (Nat.le_refl _) (by simp)
    unfold RV
    rw [if_neg (by simp)]
    rcases h.cases with ⟨hg, h⟩ | ⟨hg, h⟩
    · rw [hg]
      simp only
      unfold DVop at h
      rw [opdF_get]
      split at h
      · rename_i hm
        rw [if_pos hm]
        exact h.mono fun d H' h => by rw [← get_putO]; exact DV.rv0 rest (i + 1) _ _ ht' h
      · rename_i hm
        rw [if_neg hm]
        rw [if_neg (by rw [hti]; exact Bool.false_ne_true)] at h
        refine ⟨by unfold tS; rw [if_neg (by rw [hti]; exact Bool.false_ne_true)]; exact h.1, ?_⟩
        have : tV P tm tbl i o (opd e) = val P o (opd e) := by unfold tV; rw [if_neg (by rw [hti]; exact Bool.false_ne_true)]
        rw [this, ← get_putO]
        exact DV.rv0 rest (i + 1) _ _ ht' h.2
    · rw [hg]
      simp only
      rw [← get_putO]
      exact DV.rv0 rest (i + 1) _ _ ht' h
theorem RV.congrT {mv tm : List Nat} {ops : List Oper} {K : (Nat → V) → Own → Prop} {H0 : Own} {tbl tbl' : Nat → V} : ∀ (l : List Oper) (i : Nat) (F : Nat → V) (H : Own), (∀ k, i ≤ k → tbl k = tbl' k) →
    RV P ops mv (tV P tm tbl) (tS P tm H0 tbl) K (fun _ => false) i l F H → RV P ops mv (tV P tm tbl') (tS P tm H0 tbl') K (fun _ => false) i l F H
  | [], _, _, _, _, h => h
  | o :: rest, i, F, H, ht, h => by
    have ih := fun F H => RV.congrT (mv := mv) (tm := tm) (ops := ops) (K := K) (H0 := H0) rest (i + 1) F H fun k hk => ht k (by omega)
    unfold RV at h ⊢
    rw [if_neg (by simp)] at h ⊢
    cases hg : gst ops o F with
    | none => rw [hg] at h; exact h.elim
    | some b =>
      rw [hg] at h
      cases b with
      | false => exact ih _ _ h
      | true =>
        simp only at h ⊢
        split
        · rename_i hm; rw [if_pos hm] at h; exact h.mono fun d H' h => ih _ _ h
        · rename_i hm
          rw [if_neg hm] at h
          have e1 : tV P tm tbl i o (opdF F) = tV P tm tbl' i o (opdF F) := by unfold tV; rw [ht i (Nat.le_refl _)]
          refine ⟨?_, by rw [← e1]; exact ih _ _ h.2⟩
          have := h.1
          unfold tS at this ⊢
          rw [← ht i (Nat.le_refl _)]
          exact this
theorem DV.rv {mv tm : List Nat} {ops : List Oper} {K : Env → Own → Prop} (hord : ∀ i m, tm.contains i = true → mv.contains m = true → m < ops.length → i < ops.length → i < m) : ∀ (l : List Oper) (i : Nat) (e : Env), i + l.length = ops.length → DV P mv tm ops.toArray K i l e H →
    ∃ tbl, RV P ops mv (tV P tm tbl) (tS P tm H tbl) (KF K) (fun _ => false) i l (get e) H
  | [], i, e, _, h => ⟨fun _ => .any, e, rfl, h⟩
  | o :: rest, i, e, hl, h => by
    have hl' : i + 1 + rest.length = ops.length := by simp at hl; omega
    rcases h.cases with ⟨hg, h⟩ | ⟨hg, h⟩
    · unfold DVop at h
      split at h
      · rename_i hm
        refine ⟨fun _ => .any, ?_⟩
        unfold RV
        rw [if_neg (by simp), hg]
        simp only
        rw [if_pos hm, opdF_get]
        refine h.mono fun d H' h => ?_
        rw [← get_putO]
        refine DV.rv0 rest (i + 1) _ _ (fun k h1 h2 => ?_) h
        cases hk : tm.contains k with
        | false => rfl
        | true => have := hord k i hk hm (by omega) (by omega); omega
      · rename_i hm
        split at h
        · rename_i ht
          obtain ⟨d, h1, h2⟩ := h
          obtain ⟨tbl, h3⟩ := DV.rv hord rest (i + 1) _ hl' h2
          refine ⟨fun k => if k = i then d else tbl k, ?_⟩
          unfold RV
          rw [if_neg (by simp), hg]
          simp only
          rw [if_neg hm, opdF_get]
          refine ⟨by unfold tS; rw [if_pos ht]; simpa using h1, ?_⟩
          have : tV P tm (fun k => if k = i then d else tbl k) i o (opd e) = d := by unfold tV; rw [if_pos ht]; simp
          rw [this, ← get_putO]
          exact RV.congrT rest (i + 1) _ _ (fun k hk => by rw [if_neg (by omega)]) h3
        · rename_i ht
          obtain ⟨tbl, h3⟩ := DV.rv hord rest (i + 1) _ hl' h.2
          refine ⟨tbl, ?_⟩
          unfold RV
          rw [if_neg (by simp), hg]
          simp only
          rw [if_neg hm, opdF_get]
          refine ⟨by unfold tS; rw [if_neg ht]; exact h.1, ?_⟩
          have : tV P tm tbl i o (opd e) = val P o (opd e) := by unfold tV; rw [if_neg ht]
          rw [this, ← get_putO]
          exact h3
    · obtain ⟨tbl, h3⟩ := DV.rv hord rest (i + 1) _ hl' h
      refine ⟨tbl, ?_⟩
      unfold RV
      rw [if_neg (by simp), hg]
      simp only
      rw [← get_putO]
      exact h3
theorem DW.draw (mv tm : List Nat) {id : Nat} {l : List Oper} (hm : P.follows .mixedOrders = true) (hd : dstB n l = true) (hB : drawB l mv tm = true) (h : DV P mv tm l.toArray (Q .normal) 0 l e H) : DW P n (.region id l.toArray true) Q e H := fun a w hs hr => by
  refine wp_region_any hm ?_
  have hok := drawOk_of hB
  obtain ⟨tbl, hrv⟩ := DV.rv (fun i m hi hm h1 h2 => (hok.first i m l[i] l[m] (by simp [h2]) (by simp [h1]) hm hi).2) l 0 e (by simp) h
  have hdr := hs.drew
  have hinv : HeadInv .any l.toArray l.length (Array.replicate l.toArray.size false) := ⟨by simp, fun j oj _ hl => (by rw [getD_replicate_false] at hl; cases hl), fun t _ ht => getD_in (by simpa using ht) (getD_replicate_false _ _)⟩
  refine RV.all (n := n) (mv := mv) (tm := tm) (H0 := H) (K := KF (Q .normal)) (val := tV P tm tbl) (side := tS P tm H tbl) (fun k o f f' hf => ?_) hok (fun k o ho hk f H' hh hs => ?_) hd (Q := _) (w0 := w) (G0 := H) (D := a.defers) (fun a' w' F' H' hd' s r x ⟨e', he, hq⟩ => ⟨hd', e', H', s, ⟨r.size, fun t => by rw [he]; exact r.slot t⟩, x, hq⟩)
    l.toArray.size (Array.replicate l.toArray.size false) (get e) H a w.drew (by simp) hinv ?_ hdr.1 (fun _ => rfl) ⟨hr.size, fun t => hdr.2.rel (hr.slot t)⟩ hdr.2 rfl
  · unfold tV tS
    split
    · exact ⟨rfl, fun h => h.congr hf⟩
    · exact val_congr o f f' hf
  · unfold tS at hs
    unfold tV
    split at hs
    · rename_i ht
      rw [if_pos ht, hh ht]
      exact hs
    · rename_i ht
      rw [if_neg ht]
      exact val_sound hs
  · exact RV.congrL (L := fun _ => false) l 0 _ _ (fun j _ => (getD_replicate_false _ _).symm) hrv
theorem DW.drawK (ks mv tm : List Nat) {id : Nat} {l : List Oper} (hm : P.follows .mixedOrders = true) (hd : dstB n l = true) (hB : drawB l mv tm = true) (h : DV P mv tm l.toArray (Q .normal) 0 l (keepL ks e) H) : DW P n (.region id l.toArray true) Q e H :=
  DW.weak _ H (get_keepL ks e) (List.Sublist.refl _) (DW.draw mv tm hm hd hB h)

/-- The operations that float, as far as they go. -/
def FD (P : Program) (mv : List Nat) (ops : Array Oper) (K : Nat → List Oper → Env → Prop) : Nat → List Oper → Env → Prop
  | i, [], e => K i [] e
  | i, o :: rest, e => match o.guard with
    | none => if mv.contains i = true then K i (o :: rest) e else side P o (opd e) ∧ FD P mv ops K (i + 1) rest (putO e o.dst (val P o (opd e)))
    | some (j, true) => gd (gval ops e j) (if mv.contains i = true then K i (o :: rest) e else side P o (opd e) ∧ FD P mv ops K (i + 1) rest (putO e o.dst (val P o (opd e)))) (FD P mv ops K (i + 1) rest (putO e o.dst (.tup [])))
    | some (j, false) => gf (gval ops e j) (FD P mv ops K (i + 1) rest (putO e o.dst (.tup []))) (if mv.contains i = true then K i (o :: rest) e else side P o (opd e) ∧ FD P mv ops K (i + 1) rest (putO e o.dst (val P o (opd e))))
@[congr] theorem FD_congr (P : Program) (mv : List Nat) (ops : Array Oper) (K : Nat → List Oper → Env → Prop) (i : Nat) (l : List Oper) {e e' : Env} (h : e = e') : FD P mv ops K i l e = FD P mv ops K i l e' := by rw [h]
theorem DV.mk {mv tm : List Nat} {ops : Array Oper} {K : Env → Own → Prop} {i : Nat} {o : Oper} {rest : List Oper} (hg : o.guard = none) (h : DVop P mv tm ops K i o rest e H) : DV P mv tm ops K i (o :: rest) e H := by unfold DV; rw [hg]; exact h
theorem DV.mkg {mv tm : List Nat} {ops : Array Oper} {K : Env → Own → Prop} {i : Nat} {o : Oper} {rest : List Oper} {j : Nat} {want : Bool} (hg : o.guard = some (j, want)) (hb : gval ops e j = .bool want) (h : DVop P mv tm ops K i o rest e H) : DV P mv tm ops K i (o :: rest) e H := by
  unfold DV; rw [hg]; cases want <;> simp only <;> rw [hb] <;> first | (rw [gd_true]; exact h) | (rw [gf_false]; exact h)
theorem DV.go (tm mv : List Nat) {ops : Array Oper} {K : Env → Own → Prop} : ∀ (l : List Oper) (i : Nat) (e : Env), FD P (mv ++ tm) ops (fun i' l' e' => DV P mv tm ops K i' l' e' H) i l e → DV P mv tm ops K i l e H
  | [], i, e, h => h
  | o :: rest, i, e, h => by
    have run : (if (mv ++ tm).contains i = true then DV P mv tm ops K i (o :: rest) e H else side P o (opd e) ∧ FD P (mv ++ tm) ops (fun i' l' e' => DV P mv tm ops K i' l' e' H) (i + 1) rest (putO e o.dst (val P o (opd e)))) →
        DV P mv tm ops K i (o :: rest) e H ∨ DVop P mv tm ops K i o rest e H := fun h => by
      split at h
      · exact .inl h
      · rename_i hm
        simp only [List.contains_append, Bool.or_eq_true, not_or] at hm
        refine .inr ?_
        unfold DVop
        rw [if_neg hm.1, if_neg hm.2]
        exact ⟨h.1, DV.go tm mv rest (i + 1) _ h.2⟩
    unfold FD at h
    cases hg : o.guard with
    | none =>
      rw [hg] at h
      rcases run h with h | h
      · exact h
      · exact DV.mk hg h
    | some jw =>
      obtain ⟨j, want⟩ := jw
      rw [hg] at h
      cases want with
      | true =>
        simp only at h
        cases hb : gval ops e j with
        | bool b =>
          rw [hb] at h
          cases b with
          | true =>
            rw [gd_true] at h
            rcases run h with h | h
            · exact h
            · exact DV.mkg hg hb h
          | false => rw [gd_false] at h; unfold DV; rw [hg]; simp only; rw [hb, gd_false]; exact DV.go tm mv rest (i + 1) _ h
        | tup ds => rw [hb, gd_tup] at h; unfold DV; rw [hg]; simp only; rw [hb, gd_tup]; exact DV.go tm mv rest (i + 1) _ h
        | _ => rw [hb] at h; exact h.elim
      | false =>
        simp only at h
        cases hb : gval ops e j with
        | bool b =>
          rw [hb] at h
          cases b with
          | true => rw [gf_true] at h; unfold DV; rw [hg]; simp only; rw [hb, gf_true]; exact DV.go tm mv rest (i + 1) _ h
          | false =>
            rw [gf_false] at h
            rcases run h with h | h
            · exact h
            · exact DV.mkg hg hb h
        | tup ds => rw [hb, gf_tup] at h; unfold DV; rw [hg]; simp only; rw [hb, gf_tup]; exact DV.go tm mv rest (i + 1) _ h
        | _ => rw [hb] at h; exact h.elim
theorem DV.nil {mv tm : List Nat} {ops : Array Oper} {K : Env → Own → Prop} {i : Nat} (h : K e H) : DV P mv tm ops K i [] e H := h
section
variable {mv tm : List Nat} {ops : Array Oper} {K : Env → Own → Prop} {i : Nat} {o : Oper} {rest : List Oper}
theorem DVop.mv_ (hm : mv.contains i = true) (h : DOp P o (opd e) H fun d H' => FD P (mv ++ tm) ops (fun i' l' e' => DV P mv tm ops K i' l' e' H') (i + 1) rest (putO e o.dst d)) : DVop P mv tm ops K i o rest e H := by
  unfold DVop; rw [if_pos hm]; exact h.mono fun d H' h => DV.go tm mv _ _ _ h
theorem DVop.tm_ (hm : mv.contains i = false) (ht : tm.contains i = true) {d : V} (h1 : DOp P o (opd e) H fun d' H' => d' = d ∧ H' = H) (h : FD P (mv ++ tm) ops (fun i' l' e' => DV P mv tm ops K i' l' e' H) (i + 1) rest (putO e o.dst d)) : DVop P mv tm ops K i o rest e H := by
  unfold DVop; rw [if_neg (by rw [hm]; exact Bool.false_ne_true), if_pos ht]; exact ⟨d, h1, DV.go tm mv _ _ _ h⟩
theorem DVop.load_ {t : TypeId} {x : Operand} {b off : Nat} (hm : mv.contains i = false) (ht : tm.contains i = true) (hop : o.op = .load t x) (hx : opd e x = .raw (.pointer (some ⟨b, off, none⟩)))
    (h : OnB H b fun cs _ => partS (ty P t) (cs.drop off) 0 ∧ FD P (mv ++ tm) ops (fun i' l' e' => DV P mv tm ops K i' l' e' H) (i + 1) rest (putO e o.dst (partV (ty P t) (cs.drop off) 0))) : DVop P mv tm ops K i o rest e H := by
  obtain ⟨cs, L1, L2, hH, h1, h2⟩ := h
  exact DVop.tm_ hm ht (DOp.load_ hop hx ⟨cs, L1, L2, hH, h1, rfl, rfl⟩) h2
theorem DVop.f_ (hm : mv.contains i = false) (h : side P o (opd e) ∧ FD P (mv ++ tm) ops (fun i' l' e' => DV P mv tm ops K i' l' e' H) (i + 1) rest (putO e o.dst (val P o (opd e)))) : DVop P mv tm ops K i o rest e H := by
  unfold DVop; rw [if_neg (by rw [hm]; exact Bool.false_ne_true)]
  split
  · exact ⟨_, val_sound h.1, DV.go tm mv _ _ _ h.2⟩
  · exact ⟨h.1, DV.go tm mv _ _ _ h.2⟩
theorem DVop.call_ {c : Operand} {args : Array Operand} {ts : Array TypeId} {k : FuncId} {first caps : List V} {d : V} (hm : mv.contains i = false) (ht : tm.contains i = true) (hop : o.op = .call { callee := .value c, args, argTypes := ts }) (hc : opd e c = .fn (.func k) first caps)
    (h1 : DC P k (first ++ args.toList.map (opd e) ++ caps) H fun d' H' => d' = d ∧ H' = H) (h : FD P (mv ++ tm) ops (fun i' l' e' => DV P mv tm ops K i' l' e' H) (i + 1) rest (putO e o.dst d)) : DVop P mv tm ops K i o rest e H :=
  DVop.tm_ hm ht (DOp.call_ hop hc h1) h
end
end
end Go.Proofs.YtnnigbnlhhikjaaDoor
