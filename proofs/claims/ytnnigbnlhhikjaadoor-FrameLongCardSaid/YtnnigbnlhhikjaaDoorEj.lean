/- How a body is walked over data. No statement of the program. -/
import Derived.Test.YtnnigbnlhhikjaaDoorEi
namespace Go.Proofs.YtnnigbnlhhikjaaDoor
open Go.RowKit
set_option linter.unusedSimpArgs false
set_option linter.unusedVariables false
set_option linter.unusedSectionVars false

/-- Does an operation only yield? own: the slots of those boxes and lists that are to be owned. -/
def isF (own : List Nat) (o : Oper) (f : Operand → V) : Bool :=
  match o.op with
  | .move _ | .assign _ | .pick .. | .binOp .. | .unOp .. | .nilCheck _ | .fieldAddr .. | .field .. | .indexAddr .. | .index .. | .extract .. | .build .. | .makeFunc .. => true
  | .slice _ _ _ _ none => true
  | .load _ x => match f x with
    | .sp _ => true
    | _ => false
  | .convert .. | .box .. | .buildSlice .. => match o.dst with
    | some d => !own.contains d
    | none => false
  | .call { callee := .builtin .len, .. } | .call { callee := .builtin .max, .. } | .call { callee := .builtin .min, .. } => true
  | _ => false
/-- A test, decided or not. -/
def gd : V → Prop → Prop → Prop
  | .bool b, x, y => if b = true then x else y
  | .tup _, _, y => y
  | _, _, _ => False
def gf : V → Prop → Prop → Prop
  | .bool b, x, y => if b = true then x else y
  | .tup _, x, _ => x
  | _, _, _ => False
theorem gd_tup (l : List V) (x y : Prop) : gd (.tup l) x y = y := rfl
theorem gf_tup (l : List V) (x y : Prop) : gf (.tup l) x y = x := rfl
theorem gf_true (x y : Prop) : gf (.bool true) x y = x := by simp [gf]
theorem gf_false (x y : Prop) : gf (.bool false) x y = y := by simp [gf]
@[congr] theorem gf_congr {v v' : V} (x y : Prop) (h : v = v') : gf v x y = gf v' x y := by rw [h]
theorem gd_true (x y : Prop) : gd (.bool true) x y = x := by simp [gd]
theorem gd_false (x y : Prop) : gd (.bool false) x y = y := by simp [gd]
@[congr] theorem gd_congr {v v' : V} (x y : Prop) (h : v = v') : gd v x y = gd v' x y := by rw [h]
theorem gd_cases {b : Bool} {x y : Prop} (ht : b = true → gd (.bool b) x y) (hf : b = false → gd (.bool b) x y) : gd (.bool b) x y := by
  cases b
  · exact hf rfl
  · exact ht rfl

/-- The operations that only yield, as far as they go. -/
def FV (P : Program) (own : List Nat) (ops : Array Oper) (K : List Oper → Env → Prop) : List Oper → Env → Prop
  | [], e => K [] e
  | o :: rest, e => match o.guard with
    | none => if isF own o (opd e) = true then side P o (opd e) ∧ FV P own ops K rest (putO e o.dst (val P o (opd e))) else K (o :: rest) e
    | some (j, true) => gd (gval ops e j) (if isF own o (opd e) = true then side P o (opd e) ∧ FV P own ops K rest (putO e o.dst (val P o (opd e))) else K (o :: rest) e) (FV P own ops K rest (putO e o.dst (.tup [])))
    | some (j, false) => gf (gval ops e j) (FV P own ops K rest (putO e o.dst (.tup []))) (if isF own o (opd e) = true then side P o (opd e) ∧ FV P own ops K rest (putO e o.dst (val P o (opd e))) else K (o :: rest) e)

section
variable {P : Program} {own : List Nat} {ops : Array Oper} {K : Env → Own → Prop} {e : Env} {H : Own}
theorem SeqD.one {o : Oper} {rest : List Oper} (hs : side P o (opd e)) (h : SeqD P ops K rest (putO e o.dst (val P o (opd e))) H) : DOp P o (opd e) H fun d H' => SeqD P ops K rest (putO e o.dst d) H' :=
  (val_sound hs).mono fun d H' ⟨hd, hH⟩ => by subst hd; subst hH; exact h
theorem SeqD.go : ∀ (l : List Oper) (e : Env), FV P own ops (fun l' e' => SeqD P ops K l' e' H) l e → SeqD P ops K l e H
  | [], e, h => h
  | o :: rest, e, h => by
    have run : (if isF own o (opd e) = true then side P o (opd e) ∧ FV P own ops (fun l' e' => SeqD P ops K l' e' H) rest (putO e o.dst (val P o (opd e))) else SeqD P ops K (o :: rest) e H) → (SeqD P ops K (o :: rest) e H ∨ DOp P o (opd e) H fun d H' => SeqD P ops K rest (putO e o.dst d) H') := fun h => by
      split at h
      · exact .inr (SeqD.one h.1 (SeqD.go rest _ h.2))
      · exact .inl h
    unfold FV at h
    cases hg : o.guard with
    | none =>
      rw [hg] at h
      rcases run h with h | h
      · exact h
      · unfold SeqD; rw [hg]; exact h
    | some jw =>
      obtain ⟨j, want⟩ := jw
      rw [hg] at h
      cases want with
      | true =>
        simp only at h
        cases hb : gval ops e j with
        | bool b =>
          rw [hb] at h
          cases b with
          | true =>
            rw [gd_true] at h
            rcases run h with h | h
            · exact h
            · unfold SeqD; rw [hg]; simp only; rw [hb]; unfold onB; simp only [if_true]; exact h
          | false =>
            rw [gd_false] at h
            unfold SeqD; rw [hg]; simp only; rw [hb]; unfold onB; simp only [Bool.false_eq_true, if_false]; exact SeqD.go rest _ h
        | tup ds => rw [hb, gd_tup] at h; unfold SeqD; rw [hg]; simp only; rw [hb]; unfold onB; simp only; exact SeqD.go rest _ h
        | _ => rw [hb] at h; exact h.elim
      | false =>
        simp only at h
        cases hb : gval ops e j with
        | bool b =>
          rw [hb] at h
          cases b with
          | true =>
            rw [gf_true] at h
            unfold SeqD; rw [hg]; simp only; rw [hb]; unfold onB; simp only [Bool.true_eq_false, if_false]; exact SeqD.go rest _ h
          | false =>
            rw [gf_false] at h
            rcases run h with h | h
            · exact h
            · unfold SeqD; rw [hg]; simp only; rw [hb]; unfold onB; simp only [if_true]; exact h
        | tup ds => rw [hb, gf_tup] at h; unfold SeqD; rw [hg]; simp only; rw [hb]; unfold onB; simp only; exact SeqD.go rest _ h
        | _ => rw [hb] at h; exact h.elim
theorem SeqD.nil (h : K e H) : SeqD P ops K [] e H := h
theorem SeqD.op {o : Oper} {rest : List Oper} (hg : o.guard = none) (h : DOp P o (opd e) H fun d H' => SeqD P ops K rest (putO e o.dst d) H') : SeqD P ops K (o :: rest) e H := by unfold SeqD; rw [hg]; exact h
theorem SeqD.opF (own : List Nat) {o : Oper} {rest : List Oper} (hg : o.guard = none) (h : DOp P o (opd e) H fun d H' => FV P own ops (fun l' e' => SeqD P ops K l' e' H') rest (putO e o.dst d)) : SeqD P ops K (o :: rest) e H := by
  unfold SeqD; rw [hg]; exact h.mono fun d H' h => SeqD.go _ _ h
theorem SeqD.opgF (own : List Nat) {o : Oper} {rest : List Oper} {j : Nat} {want : Bool} (hg : o.guard = some (j, want)) (hb : gval ops e j = .bool want) (h : DOp P o (opd e) H fun d H' => FV P own ops (fun l' e' => SeqD P ops K l' e' H') rest (putO e o.dst d)) : SeqD P ops K (o :: rest) e H := by
  unfold SeqD; rw [hg]; simp only; rw [hb]; unfold onB; simp only [if_true]; exact h.mono fun d H' h => SeqD.go _ _ h
theorem SeqD.opg {o : Oper} {rest : List Oper} {j : Nat} {want : Bool} (hg : o.guard = some (j, want)) (hb : gval ops e j = .bool want) (h : DOp P o (opd e) H fun d H' => SeqD P ops K rest (putO e o.dst d) H') : SeqD P ops K (o :: rest) e H := by
  unfold SeqD; rw [hg]; simp only; rw [hb]; unfold onB; simp only [if_true]; exact h
end

/-- The rest of a body. -/
def Next (P : Program) (n : Nat) (y : Code) (Q : Exit → Env → Own → Prop) (e : Env) (H : Own) : Prop := DW P n y Q e H
@[congr] theorem Next_congr (P : Program) (n : Nat) (y : Code) (Q : Exit → Env → Own → Prop) {e e' : Env} {H H' : Own} (h : e = e') (hH : H = H') : Next P n y Q e H = Next P n y Q e' H' := by rw [h, hH]
@[congr] theorem DW_congr (P : Program) (n : Nat) (y : Code) (Q : Exit → Env → Own → Prop) {e e' : Env} {H H' : Own} (h : e = e') (hH : H = H') : DW P n y Q e H = DW P n y Q e' H' := by rw [h, hH]
@[congr] theorem SeqD_congr (P : Program) (ops : Array Oper) (K : Env → Own → Prop) (l : List Oper) {e e' : Env} {H H' : Own} (h : e = e') (hH : H = H') : SeqD P ops K l e H = SeqD P ops K l e' H' := by rw [h, hH]
@[congr] theorem FV_congr (P : Program) (own : List Nat) (ops : Array Oper) (K : List Oper → Env → Prop) (l : List Oper) {e e' : Env} (h : e = e') : FV P own ops K l e = FV P own ops K l e' := by rw [h]
@[congr] theorem thenD_congr (next : Env → Own → Prop) (Q : Exit → Env → Own → Prop) (x : Exit) {e e' : Env} {H H' : Own} (h : e = e') (hH : H = H') : thenD next Q x e H = thenD next Q x e' H' := by rw [h, hH]
@[congr] theorem blockD_congr (id : Nat) (Q : Exit → Env → Own → Prop) (x : Exit) {e e' : Env} {H H' : Own} (h : e = e') (hH : H = H') : blockD id Q x e H = blockD id Q x e' H' := by rw [h, hH]
@[congr] theorem retQ_congr (P : Program) (fn : Func) (K : V → Own → Prop) (x : Exit) {e e' : Env} {H H' : Own} (h : e = e') (hH : H = H') : retQ P fn K x e H = retQ P fn K x e' H' := by rw [h, hH]
section
variable {P : Program} {n : Nat} {Q : Exit → Env → Own → Prop} {e : Env} {H : Own} {next : Env → Own → Prop} {id id' : Nat}
theorem Next.go {y : Code} (h : DW P n y Q e H) : Next P n y Q e H := h
theorem DW.sq {x y : Code} (h : DW P n x (thenD (Next P n y Q) Q) e H) : DW P n (.seq x y) Q e H := DW.seq h
theorem then_n (h : next e H) : thenD next Q .normal e H := h
theorem then_x (h : Q (.exit id) e H) : thenD next Q (.exit id) e H := h
theorem then_r (h : Q .ret e H) : thenD next Q .ret e H := h
theorem blk_n (h : Q .normal e H) : blockD id Q .normal e H := h
theorem blk_r (h : Q .ret e H) : blockD id Q .ret e H := h
theorem blk_x (h : Q .normal e H) : blockD id Q (.exit id) e H := by simp only [blockD, if_true]; exact h
theorem blk_y (hn : id' ≠ id) (h : Q (.exit id') e H) : blockD id Q (.exit id') e H := by simp only [blockD, if_neg hn]; exact h
theorem ret_r {fn : Func} {K : V → Own → Prop} {ds : List V} (hd : retV e fn.results.toList = some ds) (h : K (one_ ds) H) : retQ P fn K .ret e H := ⟨ds, RetR.of hd, h⟩
theorem ret_n {fn : Func} {K : V → Own → Prop} {ds : List V} (hd : retV e fn.results.toList = some ds) (h : K (one_ ds) H) : retQ P fn K .normal e H := ⟨ds, RetR.of hd, h⟩
theorem DW.ct {c : Operand} {x y : Code} (hc : opd e c = .bool true) (h : DW P n x Q e H) : DW P n (.cond c x y) Q e H := DW.cond hc (fun _ => h) (fun h => nomatch h)
theorem DW.cf {c : Operand} {x y : Code} (hc : opd e c = .bool false) (h : DW P n y Q e H) : DW P n (.cond c x y) Q e H := DW.cond hc (fun h => nomatch h) (fun _ => h)

theorem DW.drop1 {c : Code} {y : Ent} (h : DW P n c Q e H) : DW P n c Q e (y :: H) := DW.weak e H (fun _ => .inl rfl) (List.sublist_cons_self _ _) h
/-- What is owned at the end. -/
def Drop (Q : Env → Own → Prop) (e : Env) (H : Own) : Prop := Q e H
/-- Slots that count no more. -/
def keep (m : Nat) : Env → Env
  | [] => []
  | (k, v) :: e => if k < m then (k, v) :: keep m e else keep m e
theorem get_keep (m : Nat) : ∀ (e : Env) (t : Nat), get (keep m e) t = get e t ∨ get (keep m e) t = .any
  | [], t => .inl rfl
  | (k, v) :: e, t => by
    simp only [keep]
    split
    · simp only [get]
      split
      · exact .inl rfl
      · exact get_keep m e t
    · simp only [get]
      split
      · rename_i h1 h2
        subst h2
        right
        have : ∀ e : Env, ∀ t, ¬ t < m → get (keep m e) t = .any := fun e => by
          induction e with
          | nil => intro t _; rfl
          | cons x e ih =>
            intro t ht
            obtain ⟨k', v'⟩ := x
            simp only [keep]
            split
            · rename_i hk; simp only [get]; rw [if_neg (by omega)]; exact ih t ht
            · exact ih t ht
        exact this e t h1
      · exact get_keep m e t
theorem Next.keep (m : Nat) {y : Code} (h : DW P n y Q (keep m e) H) : Next P n y Q e H := DW.weak _ H (get_keep m e) (List.Sublist.refl _) h
end
/-- A smaller frame. -/
def Sub : Env → Env → Prop
  | [], _ => True
  | (k, v) :: E, e => get e k = v ∧ Sub E e
theorem Sub.get : ∀ {E e : Env}, Sub E e → ∀ t, get E t = get e t ∨ get E t = .any
  | [], _, _, _ => .inr rfl
  | (k, v) :: E, e, h, t => by
    simp only [Go.Proofs.YtnnigbnlhhikjaaDoor.get]
    split
    · rename_i hk; subst hk; exact .inl h.1.symm
    · exact Sub.get h.2 t
section
variable {P : Program} {n : Nat} {Q : Exit → Env → Own → Prop} {e : Env} {H : Own}
/-- A loop, its frame told by x. -/
theorem DW.loopX {X : Type} {c : Code} (I : X → Prop) (E : X → Env) (G : X → Own) (m : X → Nat) (x0 : X) (h0 : I x0) (he : Sub (E x0) e) (hH : (G x0).Sublist H)
    (round : ∀ x, I x → DW P n c (thenD (fun e' H' => ∃ x', I x' ∧ m x' < m x ∧ Sub (E x') e' ∧ (G x').Sublist H') Q) (E x) (G x)) : DW P n (.loop c) Q e H := by
  intro a w hs hr b k cs
  have key : ∀ N x a1 w1, m x = N → I x → Sim w1 (G x) → RE n w1 (G x) a1.tmps (E x) → Ext w H w1 (G x) → a1.defers = a.defers →
      ∃ y a' w', (a'.defers = a.defers ∧ ∃ e' H', Sim w' H' ∧ RE n w' H' a'.tmps e' ∧ Ext w H w' H' ∧ Q y e' H') ∧ Arrives P (lone (b.at a1 (.code c :: .inLoop c :: k)) cs w1) b k cs y a' w' := by
    intro N
    induction N using Nat.strongRecOn with
    | _ N ih =>
      intro x a1 w1 hN hI hs1 hr1 hx1 hd1
      obtain ⟨y, a2, w2, ⟨hd2, e2, H2, s2, r2, x2, q2⟩, harr⟩ := round x hI a1 w1 hs1 hr1 b (.inLoop c :: k) cs
      cases y with
      | normal =>
        obtain ⟨x', i', lt', se, sh⟩ := q2
        have hx3 : Ext w2 H2 w2 (G x') := Ext.drop fun z hz => sh.subset hz
        obtain ⟨y', a3, w3, hq3, harr3⟩ := ih (m x') (hN ▸ lt') x' a2 w2 rfl i' (s2.drop sh) ((r2.ext hx3).weak se.get) ((hx1.trans x2).trans hx3) (hd2.trans hd1)
        exact ⟨y', a3, w3, hq3, .of_steps (Steps.trans harr (.one step_inLoop)) harr3⟩
      | exit id => exact ⟨_, a2, w2, ⟨hd2.trans hd1, e2, H2, s2, r2, hx1.trans x2, q2⟩, .pass (x := .inLoop c) rfl (fun _ _ => .inl (by simp)) harr⟩
      | goto l => exact ⟨_, a2, w2, ⟨hd2.trans hd1, e2, H2, s2, r2, hx1.trans x2, q2⟩, .pass (x := .inLoop c) rfl (fun _ _ => .inl (by simp)) harr⟩
      | ret => exact ⟨_, a2, w2, ⟨hd2.trans hd1, e2, H2, s2, r2, hx1.trans x2, q2⟩, .pass (x := .inLoop c) rfl (fun _ _ => .inl (by simp)) harr⟩
      | panic ch => exact ⟨_, a2, w2, ⟨hd2.trans hd1, e2, H2, s2, r2, hx1.trans x2, q2⟩, .pass (x := .inLoop c) rfl (fun _ _ => .inl (by simp)) harr⟩
      | outgrown => exact ⟨_, a2, w2, ⟨hd2.trans hd1, e2, H2, s2, r2, hx1.trans x2, q2⟩, .pass (x := .inLoop c) rfl (fun _ _ => .inl (by simp)) harr⟩
  have hx0 : Ext w H w (G x0) := Ext.drop fun z hz => hH.subset hz
  obtain ⟨y, a', w', hq, harr⟩ := key _ x0 a w rfl h0 (hs.drop hH) ((hr.ext hx0).weak he.get) hx0 rfl
  exact ⟨y, a', w', hq, .of_steps (.one step_loop) harr⟩
theorem DW.sub {c : Code} (e' : Env) (he : Sub e' e) (h : DW P n c Q e' H) : DW P n c Q e H := DW.weak e' H he.get (List.Sublist.refl _) h
/-- What is owned counts as it is from here on. -/
theorem DW.freeze {c : Code} (t b : Nat) {cs : List V} (ht : get e t = .raw (.pointer (some ⟨b, 0, none⟩))) {L1 L2 : Own} (hH : H = L1 ++ .blk b cs :: L2) (h : DW P n c Q (put e t (.sp cs)) (L1 ++ L2)) : DW P n c Q e H := by
  subst hH
  intro a w hs hr
  have hsub : (L1 ++ L2).Sublist (L1 ++ .blk b cs :: L2) := List.Sublist.append_left (List.sublist_cons_self _ _) _
  have hs' := hs.drop hsub
  have hx : Ext w (L1 ++ .blk b cs :: L2) w (L1 ++ L2) := Ext.drop fun x hx => hsub.subset hx
  obtain ⟨xs, T, fr, h1, h2, h3, h4, h5⟩ := blk_of hs
  have hst : ∀ k, k < cs.length → stable w (L1 ++ L2) ⟨b, k, none⟩ := fun k hk => by
    refine ⟨by rw [(h5 k hk).1]; rfl, fun x hx ho => ?_⟩
    have hap := hs.apart
    rw [List.pairwise_append, List.pairwise_cons] at hap
    obtain ⟨p1, ⟨p2, p3⟩, p4⟩ := hap
    rcases List.mem_append.1 hx with hx | hx
    · exact p4 x hx (.blk b cs) (by simp) b (Ent.touch ho) rfl
    · exact p2 x hx b rfl (Ent.touch ho)
  have hre : RE n w (L1 ++ L2) a.tmps (put e t (.sp cs)) := by
    refine ⟨hr.size, fun u => ?_⟩
    by_cases hu : u = t
    · subst hu
      rw [get_put_same]
      have hv := hr.slot u
      rw [ht] at hv
      generalize a.tmps.getD u undef = v at hv
      cases hv
      refine .sp _ _ rfl (fun k hk => by simpa using hst k hk) (fun k hk => ?_)
      simp only [Nat.zero_add]
      rw [cellAt, (h5 k hk).1]
      exact hx.rel (h4 k hk)
    · rw [get_put_ne _ _ _ _ hu]; exact hx.rel (hr.slot u)
  exact wp_mono (h a w hs' hre) fun x a1 w1 ⟨hd, e1, H1, s, r, x1, q⟩ => ⟨hd, e1, H1, s, r, hx.trans x1, q⟩
end
/-- An element of a list that is told by a function. -/
theorem getD_enc {α : Type} [Inhabited α] (enc : α → V) (l : List α) (i : Nat) (h : i < l.length) : (l.map enc).getD i .any = enc (l.getD i default) := by
  simp [List.getD_eq_getElem?_getD, h]
end Go.Proofs.YtnnigbnlhhikjaaDoor
