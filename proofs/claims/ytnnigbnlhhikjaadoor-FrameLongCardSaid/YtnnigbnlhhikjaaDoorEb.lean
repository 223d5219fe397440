/- The walk over data: code, regions in the order of the text, calls. No statement of the program. -/
import Derived.Test.YtnnigbnlhhikjaaDoorEa
import Derived.Tactics
namespace Go.Proofs.YtnnigbnlhhikjaaDoor
open Go.RowKit
set_option linter.unusedSimpArgs false
set_option linter.unusedVariables false

/-- What an operation comes to, whatever the frame and the world that stand for f and H. -/
def DOp (P : Program) (o : Oper) (f : Operand → V) (H : Own) (K : V → Own → Prop) : Prop :=
  ∀ (a : Act) (w : World) (next : Act → World → Prop) (Q : Exit → Act → World → Prop), Sim w H → (∀ x, x ∈ o.op.operands → R (stable w H) w (a.eval x) (f x)) →
    (∀ v w' d H', Sim w' H' → Ext w H w' H' → R (stable w' H') w' v d → K d H' → next (a.put o.dst v) w') → o.wp P a w next Q

theorem DOp.mono {P : Program} {o : Oper} {f : Operand → V} {H : Own} {K K' : V → Own → Prop} (h : DOp P o f H K) (hk : ∀ d H', K d H' → K' d H') : DOp P o f H K' :=
  fun a w next Q hs hr hn => h a w next Q hs hr fun v w' d H' s x r k => hn v w' d H' s x r (hk d H' k)

/-- What becomes of a frame whose slot is written. -/
def putO (e : Env) : Option Nat → V → Env
  | some t, d => put e t d
  | none, _ => e
theorem RE.putO {n : Nat} {w : World} {H : Own} {a : Act} {e : Env} (h : RE n w H a.tmps e) {t : Option Nat} (ht : t.all (· < n) = true) {v : Value} {d : V} (r : R (stable w H) w v d) : RE n w H (a.put t v).tmps (putO e t d) := by
  cases t with
  | none => exact h
  | some t => exact h.put (by simpa using ht) r

/-- What the guard's operation has yielded. -/
def gval (ops : Array Oper) (e : Env) (j : Nat) : V :=
  match (ops[j]?).bind (·.dst) with
  | some t => get e t
  | none => .any
/-- A test that is decided. -/
def onB : V → Bool → Prop → Prop → Prop
  | .bool b, want, x, y => if b = want then x else y
  | .tup _, _, _, y => y
  | _, _, _, _ => False

/-- A region in the order of the text. -/
def SeqD (P : Program) (ops : Array Oper) (K : Env → Own → Prop) : List Oper → Env → Own → Prop
  | [], e, H => K e H
  | o :: rest, e, H =>
    match o.guard with
    | none => DOp P o (opd e) H fun d H' => SeqD P ops K rest (putO e o.dst d) H'
    | some (j, want) => onB (gval ops e j) want (DOp P o (opd e) H fun d H' => SeqD P ops K rest (putO e o.dst d) H') (SeqD P ops K rest (putO e o.dst (.tup [])) H)

/-- All slots that are written are there. -/
def dstB (n : Nat) (ops : List Oper) : Bool := ops.all fun o => o.dst.all (· < n)

theorem wanted_of {ops : Array Oper} {n : Nat} {w : World} {H : Own} {a : Act} {e : Env} (h : RE n w H a.tmps e) {o : Oper} {j : Nat} {want b : Bool} (hg : o.guard = some (j, want)) (hb : gval ops e j = .bool b) :
    Region.wanted o (yielded ops a.tmps) = (b == want) := by
  unfold Region.wanted yielded
  rw [hg]
  unfold gval at hb
  cases hd : (ops[j]?).bind (·.dst) with
  | none => rw [hd] at hb; cases hb
  | some t =>
    rw [hd] at hb
    have hr := h.slot t
    simp only at hb
    rw [hb] at hr
    have hv : a.tmps.getD t undef = .bool b := by generalize a.tmps.getD t undef = v at hr; cases hr; rfl
    simp only [Array.getD_eq_getD_getElem?] at hv
    simp only [hd, Option.bind_some]
    cases ht : a.tmps[t]? with
    | none => rw [ht] at hv; cases hv
    | some u =>
      rw [ht] at hv
      simp only [Option.getD_some] at hv
      subst hv
      cases b <;> cases want <;> rfl

theorem wanted_not {ops : Array Oper} {n : Nat} {w : World} {H : Own} {a : Act} {e : Env} (h : RE n w H a.tmps e) {o : Oper} {j : Nat} {want : Bool} {ds : List V} (hg : o.guard = some (j, want)) (hb : gval ops e j = .tup ds) : Region.wanted o (yielded ops a.tmps) = false := by
  unfold Region.wanted
  rw [hg]
  unfold yielded
  unfold gval at hb
  cases hd : (ops[j]?).bind (·.dst) with
  | none => rw [hd] at hb; cases hb
  | some t =>
    rw [hd] at hb
    have hr := h.slot t
    simp only at hb
    rw [hb] at hr
    have hv : ∃ xs, a.tmps.getD t undef = .tuple xs := by generalize a.tmps.getD t undef = v at hr; cases hr; exact ⟨_, rfl⟩
    obtain ⟨xs, hv⟩ := hv
    simp only [Array.getD_eq_getD_getElem?] at hv
    simp only [hd, Option.bind_some]
    cases ht : a.tmps[t]? with
    | none => cases want <;> rfl
    | some u =>
      rw [ht] at hv
      simp only [Option.getD_some] at hv
      subst hv
      cases want <;> rfl

theorem SeqD.sound {P : Program} {ops : Array Oper} {K : Env → Own → Prop} {n : Nat} {Q : Exit → Act → World → Prop} : ∀ (l : List Oper) (e : Env) (H : Own) (a : Act) (w : World), dstB n l = true → SeqD P ops K l e H → Sim w H → RE n w H a.tmps e →
    (∀ a' w' e' H', a'.defers = a.defers → Sim w' H' → RE n w' H' a'.tmps e' → Ext w H w' H' → K e' H' → Q .normal a' w') → wpList P ops Q l a w
  | [], e, H, a, w, _, h, hs, hr, hq => hq a w e H rfl hs hr (.refl _ _) h
  | o :: rest, e, H, a, w, hd, h, hs, hr, hq => by
    have hd1 : o.dst.all (· < n) = true := by simp [dstB] at hd; simpa using hd.1
    have hd2 : dstB n rest = true := by simp [dstB] at hd ⊢; exact hd.2
    have run : ∀ (h : DOp P o (opd e) H fun d H' => SeqD P ops K rest (putO e o.dst d) H'), o.wp P a w (wpList P ops Q rest) Q := fun h =>
      h a w _ Q hs (fun x _ => hr.opd x) fun v w' d H' s x r k => SeqD.sound rest _ _ _ _ hd2 k s ((hr.ext x).putO hd1 r) fun a' w'' e' H'' hdf s' r' x' k' => hq a' w'' e' H'' (by rw [hdf]; cases o.dst <;> rfl) s' r' (x.trans x') k'
    have skip : ∀ (h : SeqD P ops K rest (putO e o.dst (.tup [])) H), wpList P ops Q rest (a.put o.dst undef) w := fun h =>
      SeqD.sound rest _ _ _ _ hd2 h hs (hr.putO hd1 (R.skipped _ _)) fun a' w'' e' H'' hdf s' r' x' k' => hq a' w'' e' H'' (by rw [hdf]; cases o.dst <;> rfl) s' r' x' k'
    unfold wpList
    unfold SeqD at h
    cases hg : o.guard with
    | none =>
      rw [hg] at h
      have hw : Region.wanted o (yielded ops a.tmps) = true := by unfold Region.wanted; rw [hg]
      rw [if_pos hw]
      exact .inl (run h)
    | some jw =>
      obtain ⟨j, want⟩ := jw
      rw [hg] at h
      simp only at h
      cases hb : gval ops e j with
      | bool b =>
        rw [hb] at h
        have hw := wanted_of hr hg hb
        unfold onB at h
        simp only at h
        rw [hw]
        by_cases hbw : b = want
        · rw [if_pos hbw] at h
          rw [if_pos (by simp [hbw])]
          exact .inl (run h)
        · rw [if_neg hbw] at h
          rw [if_neg (by simp [hbw])]
          exact skip h
      | tup ds =>
        rw [hb] at h
        rw [wanted_not hr hg hb, if_neg Bool.false_ne_true]
        exact skip h
      | _ => rw [hb] at h; exact h.elim

/-- The walk of a code over data. -/
def DW (P : Program) (n : Nat) (c : Code) (Q : Exit → Env → Own → Prop) (e : Env) (H : Own) : Prop :=
  ∀ a w, Sim w H → RE n w H a.tmps e → c.wp P (fun x a' w' => a'.defers = a.defers ∧ ∃ e' H', Sim w' H' ∧ RE n w' H' a'.tmps e' ∧ Ext w H w' H' ∧ Q x e' H') a w

section
variable {P : Program} {n : Nat} {Q : Exit → Env → Own → Prop} {e : Env} {H : Own}
theorem DW.mono {c : Code} {Q' : Exit → Env → Own → Prop} (h : DW P n c Q e H) (hq : ∀ x e H, Q x e H → Q' x e H) : DW P n c Q' e H :=
  fun a w hs hr => wp_mono (h a w hs hr) fun x a' w' ⟨hd, e', H', s, r, ex, q⟩ => ⟨hd, e', H', s, r, ex, hq _ _ _ q⟩
theorem DW.skip (h : Q .normal e H) : DW P n .skip Q e H := fun a w hs hr => wp_skip ⟨rfl, e, H, hs, hr, .refl _ _, h⟩
theorem DW.label {l : Nat} (h : Q .normal e H) : DW P n (.label l) Q e H := fun a w hs hr => wp_label ⟨rfl, e, H, hs, hr, .refl _ _, h⟩
theorem DW.exit {id : Nat} (h : Q (.exit id) e H) : DW P n (.exit id) Q e H := fun a w hs hr => wp_exit ⟨rfl, e, H, hs, hr, .refl _ _, h⟩
theorem DW.ret (h : Q .ret e H) : DW P n .ret Q e H := fun a w hs hr => wp_ret ⟨rfl, e, H, hs, hr, .refl _ _, h⟩
/-- What is asked behind the first of two. -/
def thenD (next : Env → Own → Prop) (Q : Exit → Env → Own → Prop) : Exit → Env → Own → Prop
  | .normal, e, H => next e H
  | x, e, H => Q x e H
theorem DW.seq {x y : Code} (h : DW P n x (thenD (DW P n y Q) Q) e H) : DW P n (.seq x y) Q e H := fun a w hs hr => by
  refine wp_seq (wp_mono (h a w hs hr) fun ex a1 w1 ⟨hd, e1, H1, s, r, x1, q⟩ => ?_)
  cases ex with
  | normal =>
    refine wp_mono (q a1 w1 s r) fun ex a2 w2 ⟨hd2, e2, H2, s2, r2, x2, q2⟩ => ?_
    exact ⟨hd2.trans hd, e2, H2, s2, r2, x1.trans x2, q2⟩
  | _ => exact ⟨hd, e1, H1, s, r, x1, q⟩
theorem DW.cond {c : Operand} {x y : Code} {b : Bool} (hc : opd e c = .bool b) (ht : b = true → DW P n x Q e H) (hf : b = false → DW P n y Q e H) : DW P n (.cond c x y) Q e H := fun a w hs hr => by
  have hv := hr.opd c
  rw [hc] at hv
  have hv : a.eval c = .bool b := by generalize a.eval c = v at hv; cases hv; rfl
  exact wp_cond_split hv (fun h => ht h a w hs hr) (fun h => hf h a w hs hr)
def blockD (id : Nat) (Q : Exit → Env → Own → Prop) : Exit → Env → Own → Prop
  | .exit id', e, H => if id' = id then Q .normal e H else Q (.exit id') e H
  | x, e, H => Q x e H
theorem DW.block {id : Nat} {c : Code} (h : DW P n c (blockD id Q) e H) : DW P n (.block id c) Q e H := fun a w hs hr => by
  refine wp_block (wp_mono (h a w hs hr) fun ex a1 w1 ⟨hd, e1, H1, s, r, x1, q⟩ => ?_)
  cases ex with
  | exit id' =>
    simp only [Exit.inBlock, blockD] at q ⊢
    by_cases hid : id' = id
    · rw [if_pos hid] at q; rw [if_pos hid]; exact ⟨hd, e1, H1, s, r, x1, q⟩
    · rw [if_neg hid] at q; rw [if_neg hid]; exact ⟨hd, e1, H1, s, r, x1, q⟩
  | _ => exact ⟨hd, e1, H1, s, r, x1, q⟩
/-- A loop: what holds at each round's head, and what each round lowers. -/
theorem DW.loop {c : Code} (I : Env → Own → Prop) (m : Env → Own → Nat) (h0 : I e H)
    (round : ∀ e H, I e H → DW P n c (thenD (fun e' H' => I e' H' ∧ m e' H' < m e H) Q) e H) : DW P n (.loop c) Q e H := fun a w hs hr => by
  intro b k cs
  have key : ∀ N e1 H1 a1 w1, m e1 H1 = N → I e1 H1 → Sim w1 H1 → RE n w1 H1 a1.tmps e1 → Ext w H w1 H1 → a1.defers = a.defers →
      ∃ x a' w', (a'.defers = a.defers ∧ ∃ e' H', Sim w' H' ∧ RE n w' H' a'.tmps e' ∧ Ext w H w' H' ∧ Q x e' H') ∧ Arrives P (lone (b.at a1 (.code c :: .inLoop c :: k)) cs w1) b k cs x a' w' := by
    intro N
    induction N using Nat.strongRecOn with
    | _ N ih =>
      intro e1 H1 a1 w1 hN hI hs1 hr1 hx1 hd1
      obtain ⟨x, a2, w2, ⟨hd2, e2, H2, s2, r2, x2, q2⟩, harr⟩ := round e1 H1 hI a1 w1 hs1 hr1 b (.inLoop c :: k) cs
      cases x with
      | normal =>
        obtain ⟨x', a3, w3, hq3, harr3⟩ := ih (m e2 H2) (hN ▸ q2.2) e2 H2 a2 w2 rfl q2.1 s2 r2 (hx1.trans x2) (hd2.trans hd1)
        exact ⟨x', a3, w3, hq3, .of_steps (Steps.trans harr (.one step_inLoop)) harr3⟩
      | exit id => exact ⟨_, a2, w2, ⟨hd2.trans hd1, e2, H2, s2, r2, hx1.trans x2, q2⟩, .pass (x := .inLoop c) rfl (fun _ _ => .inl (by simp)) harr⟩
      | goto l => exact ⟨_, a2, w2, ⟨hd2.trans hd1, e2, H2, s2, r2, hx1.trans x2, q2⟩, .pass (x := .inLoop c) rfl (fun _ _ => .inl (by simp)) harr⟩
      | ret => exact ⟨_, a2, w2, ⟨hd2.trans hd1, e2, H2, s2, r2, hx1.trans x2, q2⟩, .pass (x := .inLoop c) rfl (fun _ _ => .inl (by simp)) harr⟩
      | panic ch => exact ⟨_, a2, w2, ⟨hd2.trans hd1, e2, H2, s2, r2, hx1.trans x2, q2⟩, .pass (x := .inLoop c) rfl (fun _ _ => .inl (by simp)) harr⟩
      | outgrown => exact ⟨_, a2, w2, ⟨hd2.trans hd1, e2, H2, s2, r2, hx1.trans x2, q2⟩, .pass (x := .inLoop c) rfl (fun _ _ => .inl (by simp)) harr⟩
  obtain ⟨x, a', w', hq, harr⟩ := key _ e H a w rfl h0 hs hr (.refl _ _) rfl
  exact ⟨x, a', w', hq, .of_steps (.one step_loop) harr⟩
/-- Slots are forgotten; what is owned is let go. -/
theorem DW.weak {c : Code} (e' : Env) (H' : Own) (he : ∀ t, get e' t = get e t ∨ get e' t = .any) (hH : H'.Sublist H) (h : DW P n c Q e' H') : DW P n c Q e H := fun a w hs hr =>
  wp_mono (h a w (hs.drop hH) ((hr.ext (Ext.drop fun x hx => hH.subset hx)).weak he)) fun x a1 w1 ⟨hd, e1, H1, s, r, x1, q⟩ => ⟨hd, e1, H1, s, r, (Ext.drop fun x hx => hH.subset hx).trans x1, q⟩
/-- A region in the order of the text. -/
theorem DW.region {id : Nat} {l : List Oper} (hd : dstB n l = true) (h : SeqD P l.toArray (Q .normal) l e H) : DW P n (.region id l.toArray false) Q e H := fun a w hs hr =>
  wp_region_list (SeqD.sound l e H a w hd h hs hr fun a' w' e' H' hd' s r x k => ⟨hd', e', H', s, r, x, k⟩)
end

/-- May a function be entered? -/
def enterB (P : Program) (f : FuncId) : Bool :=
  match P.funcs[f]? with
  | some fn => fn.body.isSome && fn.name != "runtime.NumGoroutine"
  | none => false
/-- What a call comes to. -/
def DC (P : Program) (f : FuncId) (args : List V) (H : Own) (K : V → Own → Prop) : Prop :=
  enterB P f = true ∧ ∀ (xs : Array Value) (w : World), Sim w H → xs.size = args.length → (∀ k, k < args.length → R (stable w H) w (xs.getD k undef) (args.getD k .any)) →
    Calls P f xs w fun x w' => ∃ v d H', x = .returned v ∧ Sim w' H' ∧ Ext w H w' H' ∧ R (stable w' H') w' v d ∧ K d H'
theorem DC.mono {P : Program} {f : FuncId} {args : List V} {H : Own} {K K' : V → Own → Prop} (h : DC P f args H K) (hk : ∀ d H', K d H' → K' d H') : DC P f args H K' :=
  ⟨h.1, fun xs w hs hn hr => (h.2 xs w hs hn hr).mono fun x w' ⟨v, d, H', he, s, ex, r, k⟩ => ⟨v, d, H', he, s, ex, r, hk _ _ k⟩⟩
/-- What is owned is let go ahead of a call. -/
theorem DC.weak {P : Program} {f : FuncId} {args : List V} {H H' : Own} {K : V → Own → Prop} (hH : H'.Sublist H) (h : DC P f args H' K) : DC P f args H K :=
  ⟨h.1, fun xs w hs hn hr => (h.2 xs w (hs.drop hH) hn fun k hk => (Ext.drop fun x hx => hH.subset hx).rel (hr k hk)).mono fun x w' ⟨v, d, H1, he, s, ex, r, k⟩ => ⟨v, d, H1, he, s, (Ext.drop fun x hx => hH.subset hx).trans ex, r, k⟩⟩

/-- The frame at the beginning. -/
def env0 : Nat → List V → Env
  | _, [] => []
  | k, d :: l => (k, d) :: env0 (k + 1) l
theorem get_env0_lt : ∀ (l : List V) (k t : Nat), t < k → get (env0 k l) t = .any
  | [], _, _, _ => rfl
  | d :: l, k, t, h => by simp only [env0, get, if_neg (Nat.ne_of_lt h)]; exact get_env0_lt l (k + 1) t (Nat.lt_succ_of_lt h)
theorem get_env0 : ∀ (l : List V) (k t : Nat), get (env0 k l) (k + t) = l.getD t .any
  | [], _, _ => rfl
  | d :: l, k, 0 => by simp [env0, get]
  | d :: l, k, t + 1 => by
    have := get_env0 l (k + 1) t
    simp only [env0, get, if_neg (show k + (t + 1) ≠ k by omega), List.getD_cons_succ]
    rw [← this, show k + 1 + t = k + (t + 1) by omega]
/-- The results of a function whose results lie in slots. -/
def retV (e : Env) : List ResultVar → Option (List V)
  | [] => some []
  | .tmp t :: l => (retV e l).map (get e t :: ·)
  | .cell _ _ :: _ => none
/-- Results out of slots and cells. -/
inductive RetR (P : Program) (e : Env) (H : Own) : List ResultVar → List V → Prop
  | nil : RetR P e H [] []
  | tmp {t : Nat} {l : List ResultVar} {ds : List V} (h : RetR P e H l ds) : RetR P e H (.tmp t :: l) (get e t :: ds)
  | cell {a : Nat} {t : TypeId} {l : List ResultVar} {d : V} {ds : List V} (h1 : ∀ w v, Sim w H → R (stable w H) w v (get e a) → ∃ u, (do loadVar t (← asAddr v) : Sem Value).run P w = .ok u w ∧ R (stable w H) w u d) (h : RetR P e H l ds) : RetR P e H (.cell a t :: l) (d :: ds)
theorem RetR.of {P : Program} {e : Env} {H : Own} : ∀ {l : List ResultVar} {ds : List V}, retV e l = some ds → RetR P e H l ds
  | [], ds, h => by have : ds = [] := by simpa [retV] using h.symm
                    subst this; exact .nil
  | .tmp t :: l, ds, h => by
    cases h' : retV e l with
    | none => simp [retV, h'] at h
    | some ds' =>
      have hds : ds = get e t :: ds' := by simpa [retV, h'] using h.symm
      subst hds
      exact .tmp (RetR.of h')
  | .cell _ _ :: _, ds, h => by simp [retV] at h
def one_ : List V → V
  | [d] => d
  | l => .tup l
/-- A result out of its slot. -/
def resRun (tmps : Array Value) : ResultVar → Sem Value
  | .tmp t => pure (tmps.getD t undef)
  | .cell a t => do loadVar t (← asAddr (tmps.getD a undef))
theorem retV_run {P : Program} {w : World} {n : Nat} {H : Own} {tmps : Array Value} {e : Env} (hs : Sim w H) (hr : RE n w H tmps e) : ∀ (l : List ResultVar) (ds : List V), RetR P e H l ds →
    ∃ vs : List Value, (l.mapM (m := Sem) (resRun tmps)).run P w = .ok vs w ∧ vs.length = ds.length ∧ ∀ k, k < ds.length → R (stable w H) w (vs.getD k undef) (ds.getD k .any)
  | [], _, .nil => ⟨[], by simp [Sem.run, pure], rfl, fun k hk => absurd hk (Nat.not_lt_zero _)⟩
  | .cell a t :: l, _, .cell hc h' => by
      obtain ⟨vs, h1, h2, h3⟩ := retV_run (P := P) hs hr l _ h'
      obtain ⟨u, u1, u2⟩ := hc w _ hs (hr.slot a)
      refine ⟨u :: vs, ?_, by simp [h2], fun k hk => ?_⟩
      · rw [List.mapM_cons, Sem.run_bind]
        show ((do loadVar t (← asAddr (tmps.getD a undef)) : Sem Value).run P w).andThen _ = _
        rw [u1]
        simp only [Result.andThen, Sem.run_bind, h1, Sem.run_pure]
      · cases k with
        | zero => simpa using u2
        | succ k => simpa using h3 k (by simpa using hk)
  | .tmp t :: l, _, .tmp h' => by
      obtain ⟨vs, h1, h2, h3⟩ := retV_run (P := P) hs hr l _ h'
      refine ⟨tmps.getD t undef :: vs, ?_, by simp [h2], fun k hk => ?_⟩
      · rw [List.mapM_cons, Sem.run_bind]
        show ((Sem.pure _).run P w).andThen _ = _
        simp only [Sem.run_pure', Result.andThen, Sem.run_bind, h1, Sem.run_pure]
      · cases k with
        | zero => simpa using hr.slot t
        | succ k => simpa using h3 k (by simpa using hk)
theorem results_run {P : Program} {w : World} {n : Nat} {H : Own} {tmps : Array Value} {e : Env} (hs : Sim w H) (hr : RE n w H tmps e) (fn : Func) (ds : List V) (h : RetR P e H fn.results.toList ds) :
    ∃ v, (results fn tmps).run P w = .ok v w ∧ R (stable w H) w v (one_ ds) := by
  obtain ⟨vs, h1, h2, h3⟩ := retV_run (P := P) hs hr _ ds h
  have e1 : (fn.results.mapM (m := Sem) (resRun tmps)).run P w = .ok vs.toArray w := by
    rw [Array.mapM_eq_mapM_toList]
    simp [h1]
  have e2 : (results fn tmps).run P w = .ok (if h : vs.toArray.size = 1 then vs.toArray[0] else .tuple vs.toArray) w := by
    show ((fn.results.mapM (m := Sem) (resRun tmps) >>= fun vs => pure (if h : vs.size = 1 then vs[0] else .tuple vs) : Sem Value)).run P w = _
    rw [Sem.run_bind, e1]
    rfl
  refine ⟨_, e2, ?_⟩
  match ds, vs, h2, h3 with
  | [d], [v], _, h3 => simpa [one_] using h3 0 (by simp)
  | [], [], _, _ => exact .tup _ _ rfl (fun k hk => absurd hk (Nat.not_lt_zero _))
  | d :: d' :: ds, v :: v' :: vs, h2, h3 =>
    simp only [one_, List.size_toArray, List.length_cons]
    rw [dif_neg (by omega)]
    exact .tup _ _ (by simpa using h2) (fun k hk => by simpa [Array.getD_eq_getD_getElem?, List.getD_eq_getElem?_getD] using h3 k hk)

/-- What is asked of a body's end. -/
def retQ (P : Program) (fn : Func) (K : V → Own → Prop) : Exit → Env → Own → Prop
  | .normal, e, H | .ret, e, H => ∃ ds, RetR P e H fn.results.toList ds ∧ K (one_ ds) H
  | _, _, _ => False
theorem DC.body {P : Program} {f : FuncId} {fn : Func} {c : Code} {args : List V} {H : Own} {K : V → Own → Prop} (hf : P.funcs[f]? = some fn) (hb : fn.body = some c) (hn : (fn.name != "runtime.NumGoroutine") = true)
    (h : DW P (args.length + (fn.ntmps - args.length)) c (retQ P fn K) (env0 0 args) H) : DC P f args H K := by
  refine ⟨by unfold enterB; rw [hf]; simp only [hb, Option.isSome_some, Bool.true_and]; exact hn, fun xs w hs hx hr => ?_⟩
  refine calls_of_wp hf hb ?_
  refine wp_mono (h { tmps := xs ++ Array.replicate (fn.ntmps - xs.size) undef, defers := [] } w hs ⟨by simp [hx], fun t => ?_⟩) fun x a' w' ⟨hd, e', H', s, r, ex, q⟩ => ?_
  · rcases Nat.lt_or_ge t args.length with ht | ht
    · have := get_env0 args 0 t
      rw [Nat.zero_add] at this
      rw [this]
      have : (xs ++ Array.replicate (fn.ntmps - xs.size) undef).getD t undef = xs.getD t undef := by
        simp only [Array.getD_eq_getD_getElem?, Array.getElem?_append]
        rw [if_pos (by omega)]
      rw [this]
      exact hr t ht
    · have := get_env0 args 0 t
      rw [Nat.zero_add] at this
      rw [this, List.getD_eq_getElem?_getD, List.getElem?_eq_none ht]
      exact .any _
  · have done : (∃ ds, RetR P e' H' fn.results.toList ds ∧ K (one_ ds) H') → a'.defers = [] ∧ ∃ v, (results fn a'.tmps).run P w' = .ok v w' ∧ ∃ v' d H'', Ending.returned v = .returned v' ∧ Sim w' H'' ∧ Ext w H w' H'' ∧ R (stable w' H'') w' v' d ∧ K d H'' := fun ⟨ds, h1, h2⟩ => by
      obtain ⟨v, g1, g2⟩ := results_run (P := P) s r fn ds h1
      exact ⟨hd, v, g1, v, _, H', rfl, s, ex, g2, h2⟩
    cases x with
    | normal => exact done q
    | ret => exact done q
    | _ => exact q.elim
end Go.Proofs.YtnnigbnlhhikjaaDoor
