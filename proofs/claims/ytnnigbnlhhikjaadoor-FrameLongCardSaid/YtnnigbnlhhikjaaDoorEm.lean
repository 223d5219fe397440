/- What is owned, in another order; calls and loops that touch but a part of it; slices that are made. No statement of the program. -/
import Derived.Test.YtnnigbnlhhikjaaDoorEk
import Derived.Laws.MakeOwn
namespace Go.Proofs.YtnnigbnlhhikjaaDoor
open Go.RowKit
set_option linter.unusedSimpArgs false
set_option linter.unusedVariables false
set_option linter.unusedSectionVars false

section
variable {P : Program} {own mv : List Nat} {ops : Array Oper} {e : Env}
theorem opd_tmp (t : Nat) : opd e (.tmp t) = get e t := rfl
theorem opd_const (v : Value) : opd e (.const v) = ofConst v := rfl
theorem opd_global (g : Nat) : opd e (.global g) = .raw (.pointer (some ⟨g, 0, none⟩)) := rfl
theorem opd_func (f : FuncId) : opd e (.func f) = .fn (.func f) [] [] := rfl
theorem get_nil (t : Nat) : get [] t = .any := rfl
theorem get_cons (k : Nat) (v : V) (e : Env) (t : Nat) : get ((k, v) :: e) t = if t = k then v else get e t := rfl
theorem put_nil (t : Nat) (x : V) : put [] t x = [(t, x)] := rfl
theorem put_cons (k : Nat) (v : V) (e : Env) (t : Nat) (x : V) : put ((k, v) :: e) t x = if t = k then (k, x) :: e else (k, v) :: put e t x := rfl
theorem putO_some (e : Env) (t : Nat) (x : V) : putO e (some t) x = put e t x := rfl
theorem putO_none (e : Env) (x : V) : putO e none x = e := rfl
theorem keepL_nil (ks : List Nat) : keepL ks [] = [] := rfl
theorem keepL_cons (ks : List Nat) (k : Nat) (v : V) (e : Env) : keepL ks ((k, v) :: e) = if ks.contains k = true then (k, v) :: keepL ks e else keepL ks e := rfl
theorem FV_nil (K : List Oper → Env → Prop) : FV P own ops K [] e = K [] e := rfl
/-- An operation that is asked for if v. -/
def FVr (P : Program) (own : List Nat) (ops : Array Oper) (K : List Oper → Env → Prop) (o : Oper) (rest : List Oper) (e : Env) : Prop :=
  if isF own o (opd e) = true then side P o (opd e) ∧ FV P own ops K rest (putO e o.dst (val P o (opd e))) else K (o :: rest) e
def FVg (P : Program) (own : List Nat) (ops : Array Oper) (K : List Oper → Env → Prop) (o : Oper) (rest : List Oper) (e : Env) (v : V) : Bool → Prop
  | true => gd v (FVr P own ops K o rest e) (FV P own ops K rest (putO e o.dst (.tup [])))
  | false => gf v (FV P own ops K rest (putO e o.dst (.tup []))) (FVr P own ops K o rest e)
section
variable (K : List Oper → Env → Prop) (o : Oper) (rest : List Oper)
theorem FVr_eq : FVr P own ops K o rest e = if isF own o (opd e) = true then side P o (opd e) ∧ FV P own ops K rest (putO e o.dst (val P o (opd e))) else K (o :: rest) e := rfl
theorem FVg_tt : FVg P own ops K o rest e (.bool true) true = FVr P own ops K o rest e := by simp only [FVg, gd_true]
theorem FVg_ff : FVg P own ops K o rest e (.bool false) false = FVr P own ops K o rest e := by simp only [FVg, gf_false]
theorem FVg_tf : FVg P own ops K o rest e (.bool true) false = FV P own ops K rest (putO e o.dst (.tup [])) := by simp only [FVg, gf_true]
theorem FVg_ft : FVg P own ops K o rest e (.bool false) true = FV P own ops K rest (putO e o.dst (.tup [])) := by simp only [FVg, gd_false]
theorem FVg_tup (l : List V) (want : Bool) : FVg P own ops K o rest e (.tup l) want = FV P own ops K rest (putO e o.dst (.tup [])) := by cases want <;> rfl
theorem FVg_cases {K : List Oper → Env → Prop} {o : Oper} {rest : List Oper} {b want : Bool} (ht : b = true → FVg P own ops K o rest e (.bool b) want) (hf : b = false → FVg P own ops K o rest e (.bool b) want) : FVg P own ops K o rest e (.bool b) want := by
  cases b
  · exact hf rfl
  · exact ht rfl
theorem FV_cons : FV P own ops K (o :: rest) e = match o.guard with
    | none => FVr P own ops K o rest e
    | some (j, want) => FVg P own ops K o rest e (gval ops e j) want := by
  conv => lhs; unfold FV
  cases o.guard with
  | none => rfl
  | some jw => obtain ⟨j, want⟩ := jw; cases want <;> rfl
end
@[congr] theorem FVr_congr (P : Program) (own : List Nat) (ops : Array Oper) (K : List Oper → Env → Prop) (o : Oper) (rest : List Oper) {e e' : Env} (h : e = e') : FVr P own ops K o rest e = FVr P own ops K o rest e' := by rw [h]
@[congr] theorem FVg_congr (P : Program) (own : List Nat) (ops : Array Oper) (K : List Oper → Env → Prop) (o : Oper) (rest : List Oper) {e e' : Env} {v v' : V} (want : Bool) (h : e = e') (hv : v = v') : FVg P own ops K o rest e v want = FVg P own ops K o rest e' v' want := by rw [h, hv]
theorem FD_nil (K : Nat → List Oper → Env → Prop) (i : Nat) : FD P mv ops K i [] e = K i [] e := rfl
def FDr (P : Program) (mv : List Nat) (ops : Array Oper) (K : Nat → List Oper → Env → Prop) (i : Nat) (o : Oper) (rest : List Oper) (e : Env) : Prop :=
  if mv.contains i = true then K i (o :: rest) e else side P o (opd e) ∧ FD P mv ops K (i + 1) rest (putO e o.dst (val P o (opd e)))
def FDg (P : Program) (mv : List Nat) (ops : Array Oper) (K : Nat → List Oper → Env → Prop) (i : Nat) (o : Oper) (rest : List Oper) (e : Env) (v : V) : Bool → Prop
  | true => gd v (FDr P mv ops K i o rest e) (FD P mv ops K (i + 1) rest (putO e o.dst (.tup [])))
  | false => gf v (FD P mv ops K (i + 1) rest (putO e o.dst (.tup []))) (FDr P mv ops K i o rest e)
section
variable (K : Nat → List Oper → Env → Prop) (i : Nat) (o : Oper) (rest : List Oper)
theorem FDr_eq : FDr P mv ops K i o rest e = if mv.contains i = true then K i (o :: rest) e else side P o (opd e) ∧ FD P mv ops K (i + 1) rest (putO e o.dst (val P o (opd e))) := rfl
theorem FDg_tt : FDg P mv ops K i o rest e (.bool true) true = FDr P mv ops K i o rest e := by simp only [FDg, gd_true]
theorem FDg_ff : FDg P mv ops K i o rest e (.bool false) false = FDr P mv ops K i o rest e := by simp only [FDg, gf_false]
theorem FDg_tf : FDg P mv ops K i o rest e (.bool true) false = FD P mv ops K (i + 1) rest (putO e o.dst (.tup [])) := by simp only [FDg, gf_true]
theorem FDg_ft : FDg P mv ops K i o rest e (.bool false) true = FD P mv ops K (i + 1) rest (putO e o.dst (.tup [])) := by simp only [FDg, gd_false]
theorem FDg_tup (l : List V) (want : Bool) : FDg P mv ops K i o rest e (.tup l) want = FD P mv ops K (i + 1) rest (putO e o.dst (.tup [])) := by cases want <;> rfl
theorem FDg_cases {K : Nat → List Oper → Env → Prop} {i : Nat} {o : Oper} {rest : List Oper} {b want : Bool} (ht : b = true → FDg P mv ops K i o rest e (.bool b) want) (hf : b = false → FDg P mv ops K i o rest e (.bool b) want) : FDg P mv ops K i o rest e (.bool b) want := by
  cases b
  · exact hf rfl
  · exact ht rfl
theorem FD_cons : FD P mv ops K i (o :: rest) e = match o.guard with
    | none => FDr P mv ops K i o rest e
    | some (j, want) => FDg P mv ops K i o rest e (gval ops e j) want := by
  conv => lhs; unfold FD
  cases o.guard with
  | none => rfl
  | some jw => obtain ⟨j, want⟩ := jw; cases want <;> rfl
end
@[congr] theorem FDr_congr (P : Program) (mv : List Nat) (ops : Array Oper) (K : Nat → List Oper → Env → Prop) (i : Nat) (o : Oper) (rest : List Oper) {e e' : Env} (h : e = e') : FDr P mv ops K i o rest e = FDr P mv ops K i o rest e' := by rw [h]
@[congr] theorem FDg_congr (P : Program) (mv : List Nat) (ops : Array Oper) (K : Nat → List Oper → Env → Prop) (i : Nat) (o : Oper) (rest : List Oper) {e e' : Env} {v v' : V} (want : Bool) (h : e = e') (hv : v = v') : FDg P mv ops K i o rest e v want = FDg P mv ops K i o rest e' v' want := by rw [h, hv]
end
theorem stable_perm {w : World} {H H' : Own} (h : H.Perm H') : stable w H = stable w H' := by
  funext a
  exact propext ⟨fun ha => ⟨ha.1, fun e he => ha.2 e (h.mem_iff.2 he)⟩, fun ha => ⟨ha.1, fun e he => ha.2 e (h.mem_iff.1 he)⟩⟩
theorem Sim.perm {w : World} {H H' : Own} (h : H.Perm H') (hs : Sim w H) : Sim w H' where
  holds e he := by rw [← stable_perm h]; exact hs.holds e (h.mem_iff.2 he)
  disj := h.pairwise hs.disj fun {x y} hxy a hy hx => hxy a hx hy
  apart := h.pairwise hs.apart fun {x y} hxy b hy hx => hxy b hx hy
theorem Ext.perm {w : World} {H H' : Own} (h : H.Perm H') : Ext w H w H' := Ext.drop fun e he => h.mem_iff.2 he
/-- A part of what is owned. -/
def SubP (G H : Own) : Prop := ∃ L : Own, L.Perm G ∧ L.Sublist H
theorem Sim.sub {w : World} {G H : Own} (h : SubP G H) (hs : Sim w H) : Sim w G := by obtain ⟨L, h1, h2⟩ := h; exact (hs.drop h2).perm h1
theorem Ext.sub {w : World} {G H : Own} (h : SubP G H) : Ext w H w G := by obtain ⟨L, h1, h2⟩ := h; exact Ext.drop fun e he => h2.subset (h1.mem_iff.2 he)
/-- An entry, and what else there is. -/
def Out (H : Own) (e : Ent) (G : Own → Prop) : Prop := ∃ F, H.Perm (e :: F) ∧ G F
theorem Out.here {H : Own} {e : Ent} {G : Own → Prop} (h : G H) : Out (e :: H) e G := ⟨H, List.Perm.refl _, h⟩
theorem Out.next {H : Own} {e y : Ent} {G : Own → Prop} (h : Out H e fun F => G (y :: F)) : Out (y :: H) e G := by
  obtain ⟨F, h1, h2⟩ := h
  exact ⟨y :: F, (h1.cons y).trans (List.Perm.swap e y F), h2⟩
def Pull (H : Own) (es : Own) (G : Own → Prop) : Prop := ∃ F, H.Perm (es ++ F) ∧ G F
theorem Pull.nil {H : Own} {G : Own → Prop} (h : G H) : Pull H [] G := ⟨H, List.Perm.refl _, h⟩
theorem Pull.cons {H : Own} {e : Ent} {es : Own} {G : Own → Prop} (h : Out H e fun F => Pull F es G) : Pull H (e :: es) G := by
  obtain ⟨F, h1, F', h2, h3⟩ := h
  exact ⟨F', h1.trans (h2.cons e), h3⟩
/-- Entries, and what else there is, told. -/
def Took (H : Own) (e : Ent) (F : Own) : Prop := H.Perm (e :: F)
theorem Took.here {H : Own} {e : Ent} : Took (e :: H) e H := List.Perm.refl _
theorem Took.next {H F : Own} {e y : Ent} (h : Took H e F) : Took (y :: H) e (y :: F) := (List.Perm.cons y h).trans (List.Perm.swap e y F)
def Pulled (H es F : Own) : Prop := H.Perm (es ++ F)
theorem Pulled.nil {H : Own} : Pulled H [] H := List.Perm.refl _
theorem Pulled.cons {H F G es : Own} {e : Ent} (h : Took H e F) (t : Pulled F es G) : Pulled H (e :: es) G := h.trans (List.Perm.cons e t)
theorem SubP.nil {H : Own} : SubP [] H := ⟨[], List.Perm.refl _, List.nil_sublist _⟩
theorem SubP.refl {H : Own} : SubP H H := ⟨H, List.Perm.refl _, List.Sublist.refl _⟩
theorem SubP.eq {G H : Own} (h : H = G) : SubP G H := h ▸ .refl
theorem SubP.drop {G H : Own} {y : Ent} (h : SubP G H) : SubP G (y :: H) := by obtain ⟨L, h1, h2⟩ := h; exact ⟨L, h1, h2.cons y⟩
theorem SubP.perm {G H H' : Own} (hp : H.Perm H') (h : SubP G H') : SubP G H := by
  obtain ⟨L, h1, h2⟩ := h
  obtain ⟨L', h3, h4⟩ := List.exists_perm_sublist h2 hp.symm
  exact ⟨L', h3.trans h1, h4⟩
theorem SubP.pick {G H : Own} {e : Ent} (h : Out H e fun L => SubP G L) : SubP (e :: G) H := by
  obtain ⟨F, h1, L, h2, h3⟩ := h
  exact SubP.perm h1 ⟨e :: L, h2.cons e, h3.cons_cons e⟩

/-- A datum that says no more. -/
def le (d d' : V) : Prop := ∀ (S : Addr → Prop) (w : World) (v : Value), R S w v d → R S w v d'
theorem le.rfl_ {d : V} : le d d := fun _ _ _ h => h
theorem le.of_eq {d d' : V} (h : d = d') : le d d' := h ▸ le.rfl_
theorem le.gs {v : Value} {l l' : List V} (h : l = l') : le (.gs v l) (.sl l') := fun S w u r => by subst h; cases r with | gs v l r => exact r
/-- Arguments that say no more. -/
inductive Les : List V → List V → Prop
  | nil : Les [] []
  | cons {a b : V} {l m : List V} (h : le a b) (t : Les l m) : Les (a :: l) (b :: m)
theorem Les.len {l m : List V} (h : Les l m) : l.length = m.length := by induction h with | nil => rfl | cons _ _ ih => simp [ih]
theorem Les.at {l m : List V} (h : Les l m) (k : Nat) : le (l.getD k .any) (m.getD k .any) := by
  induction h generalizing k with
  | nil => exact le.rfl_
  | cons h t ih => cases k with
    | zero => exact h
    | succ k => exact ih k
theorem DC.args {P : Program} {f : FuncId} {args args' : List V} {H : Own} {K : V → Own → Prop} (ha : Les args args') (h : DC P f args' H K) : DC P f args H K :=
  ⟨h.1, fun xs w hs hn hr => h.2 xs w hs (hn.trans ha.len) fun k hk => ha.at k _ _ _ (hr k (by rw [ha.len]; exact hk))⟩
theorem DC.perm {P : Program} {f : FuncId} {args : List V} {H H' : Own} {K : V → Own → Prop} (hp : H.Perm H') (h : DC P f args H' K) : DC P f args H K :=
  ⟨h.1, fun xs w hs hn hr => (h.2 xs w (hs.perm hp) hn fun k hk => (Ext.perm hp).rel (hr k hk)).mono fun x w' ⟨v, d, H1, he, s, ex, r, k⟩ => ⟨v, d, H1, he, s, (Ext.perm hp).trans ex, r, k⟩⟩
/-- A call that leaves what is owned as it was. -/
theorem DC.keep {P : Program} {f : FuncId} {args : List V} {H H' : Own} {K : V → Prop} (hp : H.Perm H') (h : DC P f args H' fun d G => K d ∧ G = H') : DC P f args H fun d G => K d ∧ G = H :=
  ⟨h.1, fun xs w hs hn hr => (h.2 xs w (hs.perm hp) hn fun k hk => (Ext.perm hp).rel (hr k hk)).mono fun x w' ⟨v, d, H1, he, s, ex, r, k, hk⟩ => by
    subst hk
    have hx : Ext w H w' H := ((Ext.perm hp).trans ex).trans (Ext.perm hp.symm)
    exact ⟨v, d, H, he, s.perm hp.symm, hx, (Ext.perm hp.symm).rel r, k, rfl⟩⟩
/-- What is owned at the end may be less, and in another order. -/
theorem DC.sub {P : Program} {f : FuncId} {args : List V} {H : Own} {K : V → Own → Prop} (h : DC P f args H fun d H' => ∃ d' G, le d d' ∧ K d' G ∧ SubP G H') : DC P f args H K :=
  ⟨h.1, fun xs w hs hn hr => (h.2 xs w hs hn hr).mono fun x w' ⟨v, d, H1, he, s, ex, r, d', G, hl, k, hG⟩ => ⟨v, d', G, he, s.sub hG, ex.trans (Ext.sub hG), hl _ _ _ ((Ext.sub hG).rel r), k⟩⟩
theorem DC.bodyS {P : Program} {f : FuncId} {fn : Func} {c : Code} {args : List V} {H : Own} {K : V → Own → Prop} (n_ : Nat) (hf : P.funcs[f]? = some fn) (hb : fn.body = some c) (hn : (fn.name != "runtime.NumGoroutine") = true)
    (hN : args.length + (fn.ntmps - args.length) = n_) (h : DW P n_ c (retQ P fn fun d H' => ∃ d' G, le d d' ∧ K d' G ∧ SubP G H') (env0 0 args) H) : DC P f args H K := DC.sub (DC.bodyN n_ hf hb hn hN h)
section
variable {P : Program} {o : Oper} {f : Operand → V} {H : Own} {K : V → Own → Prop}
theorem DOp.callp_ {c : Operand} {args : Array Operand} {ts : Array TypeId} {k : FuncId} {first caps args' : List V} {es : Own} {F : Own} {A : Prop} {K' : V → Own → Prop} (hop : o.op = .call { callee := .value c, args, argTypes := ts }) (hc : f c = .fn (.func k) first caps)
    (hl : Les (first ++ args.toList.map f ++ caps) args') (hq : Pulled H es F) (h : A → DC P k args' (es ++ F) K') (hp : A ∧ ∀ d H1, K' d H1 → K d H1) : DOp P o f H K :=
  DOp.call_ hop hc (DC.args hl ((DC.perm hq (h hp.1)).mono hp.2))
/-- A call that but looks. -/
theorem DOp.callq_ {c : Operand} {args : Array Operand} {ts : Array TypeId} {k : FuncId} {first caps args' : List V} {es F : Own} {A : Prop} {K' : V → Prop} (hop : o.op = .call { callee := .value c, args, argTypes := ts }) (hc : f c = .fn (.func k) first caps)
    (hl : Les (first ++ args.toList.map f ++ caps) args') (hq : Pulled H es F) (h : A → DC P k args' (es ++ F) fun d G => K' d ∧ G = es ++ F) (hp : A ∧ ∀ d, K' d → K d H) : DOp P o f H K :=
  DOp.call_ hop hc (DC.args hl ((DC.keep hq (h hp.1)).mono fun d G ⟨hd, hG⟩ => by subst hG; exact hp.2 d hd))

theorem AppS_iff {P : Program} {sT xT : TypeId} {l xs : List V} : AppS P sT xT l xs ↔ (ty P sT).kind = 4 ∧ (ty P (ty P sT).elem).kind ≠ 0 ∧ (ty P (ty P sT).elem).kind ≠ 11 ∧ (ty P xT).kind ≠ 0 ∧ (ty P xT).kind ≠ 11 ∧ (ty P xT).kind ≠ 2 ∧ 0 < (ty P (ty P sT).elem).size ∧
    (ty P (ty P sT).elem).zero.length = (ty P (ty P sT).elem).size ∧ (l.length + xs.length) * (ty P (ty P sT).elem).bytes ≤ 140737488355328 ∧ l.length + xs.length ≤ 4611686018427387904 ∧ (∀ y ∈ l, y.n = (ty P (ty P sT).elem).size) ∧ ∀ y ∈ xs, y.n = (ty P (ty P sT).elem).size ∧ y.cs.all V.one = true :=
  ⟨fun ⟨a, b, c, d, e, f, g, h, i, j, k, l⟩ => ⟨a, b, c, d, e, f, g, h, i, j, k, l⟩, fun ⟨a, b, c, d, e, f, g, h, i, j, k, l⟩ => ⟨a, b, c, d, e, f, g, h, i, j, k, l⟩⟩
theorem dropD (cs : List V) (off k : Nat) : (cs.drop off).getD k .any = cs.getD (off + k) .any := by simp [List.getD_eq_getElem?_getD, List.getElem?_drop]
theorem lay_cons (x : V) (l d : List V) (i : Nat) : layV (x :: l) (i + 1) d = x :: layV l i d := by simp [layV, Nat.add_right_comm]
theorem lay_len (cs d : List V) (off : Nat) : (layV cs off d).length = min off cs.length + d.length + (cs.length - (off + d.length)) := by simp [layV]; omega
theorem lay_zero (x y : V) (l d : List V) : layV (x :: l) 0 (y :: d) = y :: layV l 0 d := by simp [layV]
theorem lay_nil (l : List V) : layV l 0 [] = l := by simp [layV]
theorem getD_el (cs : List V) (k : Nat) (h : k < cs.length) : cs.getD k .any = cs[k] := by simp [List.getD_eq_getElem?_getD, h]
/-- Rows of cells, one behind another. -/
def flt {α : Type} (g : α → List V) (l : List α) : List V := (l.map g).flatten
section
variable {α : Type} {g : α → List V} {n : Nat}
theorem flt_len (hw : ∀ a, (g a).length = n) : ∀ l : List α, (flt g l).length = l.length * n
  | [] => by simp [flt]
  | a :: l => by
    have := flt_len hw l
    simp only [flt, List.map_cons, List.flatten_cons, List.length_append] at this ⊢
    rw [this, hw, List.length_cons, Nat.add_mul]; omega
theorem flt_at [Inhabited α] (hw : ∀ a, (g a).length = n) : ∀ (l : List α) (i k : Nat), i < l.length → k < n → (flt g l).getD (i * n + k) .any = (g (l.getD i default)).getD k .any
  | [], i, k, h, _ => absurd h (Nat.not_lt_zero _)
  | a :: l, 0, k, h, hk => by
    simp only [flt, List.map_cons, List.flatten_cons, Nat.zero_mul, Nat.zero_add, List.getD_cons_zero]
    simp only [List.getD_eq_getElem?_getD]
    rw [List.getElem?_append_left (by rw [hw]; exact hk)]
  | a :: l, i + 1, k, h, hk => by
    have := flt_at hw l i k (by simpa using h) hk
    simp only [flt, List.map_cons, List.flatten_cons, List.getD_cons_succ] at this ⊢
    rw [← this]
    simp only [List.getD_eq_getElem?_getD]
    rw [List.getElem?_append_right (by rw [hw, Nat.add_mul]; omega), hw, show (i + 1) * n + k - n = i * n + k by rw [Nat.add_mul]; omega]
theorem flt_row [Inhabited α] (hw : ∀ a, (g a).length = n) (l : List α) (i : Nat) (h : i < l.length) : ((flt g l).drop (i * n)).take n = g (l.getD i default) := by
  apply List.ext_getElem
  · rw [List.length_take, List.length_drop, flt_len hw, hw]
    have : (i + 1) * n ≤ l.length * n := Nat.mul_le_mul_right _ h
    rw [Nat.add_mul] at this
    omega
  · intro k h1 h2
    have hk : k < n := by rw [hw] at h2; exact h2
    have := flt_at hw l i k h hk
    have e : i * n + k < (flt g l).length := by
      rw [flt_len hw]
      calc i * n + k < i * n + n := by omega
        _ = (i + 1) * n := by rw [Nat.add_mul]; omega
        _ ≤ l.length * n := Nat.mul_le_mul_right _ h
    rw [List.getElem_take, List.getElem_drop, ← getD_el _ _ e, ← getD_el _ _ h2]
    exact this
theorem flt_set (hw : ∀ a, (g a).length = n) : ∀ (l : List α) (i : Nat) (x : α), i < l.length → layV (flt g l) (i * n) (g x) = flt g (l.set i x)
  | [], i, x, h => absurd h (Nat.not_lt_zero _)
  | a :: l, 0, x, h => by
    simp only [layV, flt, List.map_cons, List.flatten_cons, Nat.zero_mul, List.take_zero, List.nil_append, Nat.zero_add, List.set_cons_zero]
    rw [show (g x).length = (g a).length by rw [hw, hw], List.drop_left]
  | a :: l, i + 1, x, h => by
    have ih := flt_set hw l i x (by simpa using h)
    have e : (i + 1) * n = (g a).length + i * n := by rw [hw, Nat.add_mul]; omega
    simp only [layV, flt, List.map_cons, List.flatten_cons, List.set_cons_succ] at ih ⊢
    rw [e, List.take_append, Nat.add_sub_cancel_left, List.take_of_length_le (by omega), Nat.add_assoc, List.drop_append, List.drop_eq_nil_of_le (by omega), Nat.add_sub_cancel_left, ← ih]
    simp
end
/-- What lies behind a slice's end. -/
def OnT (H : Own) (v : Value) (G : Nat → (Ent → Own) → Prop) : Prop := ∃ sz, On H (.tail sz v) (G sz)
theorem OnT.here {H : Own} {sz : Nat} {v : Value} {G : Nat → (Ent → Own) → Prop} (h : G sz fun x => x :: H) : OnT (.tail sz v :: H) v G := ⟨sz, On.here h⟩
theorem OnT.next {H : Own} {v : Value} {y : Ent} {G : Nat → (Ent → Own) → Prop} (h : OnT H v fun sz C => G sz fun x => y :: C x) : OnT (y :: H) v G := by
  obtain ⟨sz, h⟩ := h
  exact ⟨sz, On.next h⟩
theorem DOp.appz_ {P : Program} {o : Oper} {f : Operand → V} {H : Own} {K : V → Own → Prop} {s x : Operand} {sT xT : TypeId} {v : Value} {l xs : List V} (hop : o.op = .call { callee := .builtin .append, args := #[s, x], argTypes := #[sT, xT] }) (hfs : f s = .gs v l) (hfx : srcL (f x) = some xs)
    (h : OnT H v fun sz C => ((ty P (ty P sT).elem).size = sz ∧ AppS P sT xT l xs) ∧ ∀ v', K (.gs v' (l ++ xs)) (C (.tail sz v'))) : DOp P o f H K := by
  obtain ⟨sz, L1, L2, rfl, ⟨rfl, hA⟩, hk⟩ := h
  exact DOp.append_ (d := .any) hop hfs hfx ⟨L1, L2, rfl, hA, hk⟩
theorem rep_flt {α : Type} (g : α → List V) (z : α) (n : Nat) : (List.replicate n (g z)).flatten = flt g (List.replicate n z) := by simp [flt]
theorem rep_flat (z : List V) (n k : Nat) (h : k < n * z.length) : ((List.replicate n z).flatten).getD k .any = z.getD (k % z.length) .any := by
  induction n generalizing k with
  | zero => simp at h
  | succ n ih =>
    rw [List.replicate_succ, List.flatten_cons]
    by_cases hk : k < z.length
    · rw [Nat.mod_eq_of_lt hk]
      simp only [List.getD_eq_getElem?_getD]
      rw [List.getElem?_append_left hk]
    · have h2 : k - z.length < n * z.length := by rw [Nat.add_mul] at h; omega
      have := ih _ h2
      simp only [List.getD_eq_getElem?_getD] at this ⊢
      rw [List.getElem?_append_right (by omega), this, ← Nat.mod_eq_sub_mod (by omega)]
/-- A slice that is made, owned as a block. -/
theorem made_cells {t : TypeId} {n : Nat} {w : World} (hk : (ty P t).kind ≠ 0) (hk' : (ty P t).kind ≠ 11) (hz : (ty P t).zero.length = (ty P t).size) (hp : 0 < (ty P t).size) {S : Addr → Prop} :
    ∃ i z, P.info? t = some i ∧ i.zero = some z ∧ i.size = (ty P t).size ∧ i.bytes = (ty P t).bytes ∧ (madeCells z.cells (n * i.size)).size = ((List.replicate n (ty P t).zero).flatten).length ∧
      ∀ k, k < ((List.replicate n (ty P t).zero).flatten).length → R S w ((madeCells z.cells (n * i.size)).getD k undef) (((List.replicate n (ty P t).zero).flatten).getD k .any) := by
  obtain ⟨i, d, hi, _, _, hs, hb, hzz⟩ := ty_info (P := P) (t := t) rfl hk hk'
  cases hiz : i.zero with
  | none => rw [hiz] at hzz; simp [hzz] at hz; omega
  | some z =>
    obtain ⟨z1, z2⟩ := zero_rel (P := P) (S := S) (w := w) hi hiz hzz
    have hl : ((List.replicate n (ty P t).zero).flatten).length = n * (ty P t).size := by simp [hz]
    refine ⟨i, z, hi, hiz, hs.symm, hb.symm, by rw [size_madeCells, hl, hs], fun k hk => ?_⟩
    rw [hl] at hk
    rw [rep_flat _ _ _ (by rw [hz]; exact hk), hz]
    have hm : k % (ty P t).size < (ty P t).size := Nat.mod_lt _ hp
    have := z2 (k % (ty P t).size) (by omega)
    have e : (madeCells z.cells (n * i.size)).getD k undef = z.cells.getD (k % (ty P t).size) undef := by
      have hsz : z.cells.size = (ty P t).size := z1.trans hz
      rw [← hs]
      simp [madeCells, Array.getD_eq_getD_getElem?, hk, hsz, hm]
    rw [e]; exact this
theorem DOp.make_ {t : TypeId} {l c : Operand} {k k' : IntKind} {n m : Int} (hop : o.op = .makeSlice t l c) (hl : f l = .int k n) (hc : f c = .int k' m)
    (h : (m = n ∧ (ty P t).kind = 4 ∧ (ty P (ty P t).elem).kind ≠ 0 ∧ (ty P (ty P t).elem).kind ≠ 11 ∧ (ty P (ty P t).elem).zero.length = (ty P (ty P t).elem).size ∧ 0 < (ty P (ty P t).elem).size ∧ 0 ≤ n ∧ (ty P (ty P t).elem).bytes * n ≤ 281474976710656 ∧ n ≤ 9223372036854775807) ∧
      ∀ b, K (.raw (.slice (some ⟨b, 0, none⟩) n.toNat n.toNat)) (.blk b (List.replicate n.toNat (ty P (ty P t).elem).zero).flatten :: H)) : DOp P o f H K := by
  obtain ⟨⟨rfl, h1, h2, h3, h4, h5, h6, h7, h8⟩, h⟩ := h
  refine DOp.step fun a w hs hr => ?_
  have hlv := hr l (by simp [hop, Op.operands])
  have hcv := hr c (by simp [hop, Op.operands])
  rw [hl] at hlv
  rw [hc] at hcv
  have hlv : a.eval l = .int k m := by generalize a.eval l = v at hlv; cases hlv; rfl
  have hcv : a.eval c = .int k' m := by generalize a.eval c = v at hcv; cases hcv; rfl
  obtain ⟨i, z, i1, i2, i3, i4, i5, i6⟩ := made_cells (n := m.toNat) (w := w) (S := stable w H) h2 h3 h4 h5
  refine ⟨_, _, _, _, ?_, Sim.addBlk hs (madeCells z.cells (m.toNat * i.size)) (ty P t).elem _ i5 i6, .raw _, h _⟩
  unfold execOp
  rw [hop]
  simp [hlv, hcv, run_make w t (ty P t).elem i z (und_slice h1) i1 i2 k k' m m h6 (Int.le_refl _) (by rw [i4]; exact h7) h8]
/-- An empty slice with room. -/
theorem DOp.make0_ {t : TypeId} {l c : Operand} {k k' : IntKind} {m : Int} (hop : o.op = .makeSlice t l c) (hl : f l = .int k 0) (hc : f c = .int k' m)
    (h : ((ty P t).kind = 4 ∧ (ty P (ty P t).elem).kind ≠ 0 ∧ (ty P (ty P t).elem).kind ≠ 11 ∧ (ty P (ty P t).elem).zero.length = (ty P (ty P t).elem).size ∧ 0 < (ty P (ty P t).elem).size ∧ 0 ≤ m ∧ (ty P (ty P t).elem).bytes * m ≤ 281474976710656 ∧ m ≤ 9223372036854775807) ∧
      ∀ v, K (.gs v []) (.tail (ty P (ty P t).elem).size v :: H)) : DOp P o f H K := by
  obtain ⟨⟨h1, h2, h3, h4, h5, h6, h7, h8⟩, h⟩ := h
  refine DOp.step fun a w hs hr => ?_
  have hlv := hr l (by simp [hop, Op.operands])
  have hcv := hr c (by simp [hop, Op.operands])
  rw [hl] at hlv
  rw [hc] at hcv
  have hlv : a.eval l = .int k 0 := by generalize a.eval l = v at hlv; cases hlv; rfl
  have hcv : a.eval c = .int k' m := by generalize a.eval c = v at hcv; cases hcv; rfl
  obtain ⟨i, z, i1, i2, i3, i4, i5, i6⟩ := made_cells (P := P) (n := m.toNat) (w := w) (S := stable w H) h2 h3 h4 h5
  have hadd := hs.add (w' := w.alloc (.cells (madeCells z.cells (m.toNat * i.size)) (ty P t).elem)) (e1 := .tail (ty P (ty P t).elem).size (.slice (some ⟨w.heap.size, 0, none⟩) 0 m.toNat)) rfl rfl rfl (by simp) (fun b hb => Below.heap_alloc w _ b hb) (fun b hb => Nat.le_of_eq hb.symm) (fun _ =>
    ⟨rfl, Nat.zero_le _, _, _, (0, 0), heap_alloc_new w _, .inl rfl, by simp only [size_madeCells, i3, Nat.zero_add]; exact Nat.le_refl _⟩)
  refine ⟨_, _, .gs (.slice (some ⟨w.heap.size, 0, none⟩) 0 m.toNat) [], _, ?_, hadd, .gs _ _ (.sl _ 0 _ [] (ty P (ty P t).elem).size rfl (Nat.zero_le _) (fun _ => rfl) (fun _ _ h => absurd rfl h) (fun _ h => absurd h (Nat.not_lt_zero _)) (fun _ _ _ _ h => absurd h (Nat.not_lt_zero _)) (fun _ _ _ _ h => absurd h (Nat.not_lt_zero _))), h _⟩
  unfold execOp
  rw [hop]
  have := run_make w t (ty P t).elem i z (und_slice h1) i1 i2 k k' 0 m (Int.le_refl _) h6 (by rw [i4]; exact h7) h8
  simp [hlv, hcv, this]
end
section
variable {P : Program} {n : Nat} {Q : Exit → Env → Own → Prop} {e : Env} {H : Own}
/-- A loop that touches but a part of what is owned. -/
theorem DW.loopS {X : Type} {c : Code} (I : X → Prop) (E : X → Env) (G : X → Own) (m : X → Nat) (x0 : X) (h0 : I x0) (he : Sub (E x0) e) (hH : SubP (G x0) H)
    (round : ∀ x, I x → DW P n c (thenD (fun e' H' => ∃ x', I x' ∧ m x' < m x ∧ Sub (E x') e' ∧ SubP (G x') H') Q) (E x) (G x)) : DW P n (.loop c) Q e H := by
  intro a w hs hr b k cs
  have key : ∀ N x a1 w1, m x = N → I x → Sim w1 (G x) → RE n w1 (G x) a1.tmps (E x) → Ext w H w1 (G x) → a1.defers = a.defers →
      ∃ y a' w', (a'.defers = a.defers ∧ ∃ e' H', Sim w' H' ∧ RE n w' H' a'.tmps e' ∧ Ext w H w' H' ∧ Q y e' H') ∧ Arrives P (lone (b.at a1 (.code c :: .inLoop c :: k)) cs w1) b k cs y a' w' := by
    intro N
    induction N using Nat.strongRecOn with
    | _ N ih =>
      intro x a1 w1 hN hI hs1 hr1 hx1 hd1
      obtain ⟨y, a2, w2, ⟨hd2, e2, H2, s2, r2, x2, q2⟩, harr⟩ := round x hI a1 w1 hs1 hr1 b (.inLoop c :: k) cs
      cases y with
      | normal =>
        obtain ⟨x', i', lt', se, sh⟩ := q2
        have hx3 : Ext w2 H2 w2 (G x') := Ext.sub sh
        obtain ⟨y', a3, w3, hq3, harr3⟩ := ih (m x') (hN ▸ lt') x' a2 w2 rfl i' (s2.sub sh) ((r2.ext hx3).weak se.get) ((hx1.trans x2).trans hx3) (hd2.trans hd1)
        exact ⟨y', a3, w3, hq3, .of_steps (Steps.trans harr (.one step_inLoop)) harr3⟩
      | exit id => exact ⟨_, a2, w2, ⟨hd2.trans hd1, e2, H2, s2, r2, hx1.trans x2, q2⟩, .pass (x := .inLoop c) rfl (fun _ _ => .inl (by simp)) harr⟩
      | goto l => exact ⟨_, a2, w2, ⟨hd2.trans hd1, e2, H2, s2, r2, hx1.trans x2, q2⟩, .pass (x := .inLoop c) rfl (fun _ _ => .inl (by simp)) harr⟩
      | ret => exact ⟨_, a2, w2, ⟨hd2.trans hd1, e2, H2, s2, r2, hx1.trans x2, q2⟩, .pass (x := .inLoop c) rfl (fun _ _ => .inl (by simp)) harr⟩
      | panic ch => exact ⟨_, a2, w2, ⟨hd2.trans hd1, e2, H2, s2, r2, hx1.trans x2, q2⟩, .pass (x := .inLoop c) rfl (fun _ _ => .inl (by simp)) harr⟩
      | outgrown => exact ⟨_, a2, w2, ⟨hd2.trans hd1, e2, H2, s2, r2, hx1.trans x2, q2⟩, .pass (x := .inLoop c) rfl (fun _ _ => .inl (by simp)) harr⟩
  have hx0 : Ext w H w (G x0) := Ext.sub hH
  obtain ⟨y, a', w', hq, harr⟩ := key _ x0 a w rfl h0 (hs.sub hH) ((hr.ext hx0).weak he.get) hx0 rfl
  exact ⟨y, a', w', hq, .of_steps (.one step_loop) harr⟩
theorem DW.loopP {X : Type} {c : Code} (I : X → Prop) (E : X → Env) (G : X → Own) (m : X → Nat) (x0 : X) (h0 : I x0) (he : Sub (E x0) e)
    (hp : Pull H (G x0) fun F => ∀ x, I x → DW P n c (thenD (fun e' H' => ∃ x', I x' ∧ m x' < m x ∧ Sub (E x') e' ∧ SubP (G x' ++ F) H') Q) (E x) (G x ++ F)) : DW P n (.loop c) Q e H := by
  obtain ⟨F, h1, h2⟩ := hp
  exact DW.loopS I E (fun x => G x ++ F) m x0 h0 he (SubP.perm h1 .refl) h2
theorem DW.tail0 (sz : Nat) {c : Code} (h : DW P n c Q e (.tail sz (.slice none 0 0) :: H)) : DW P n c Q e H := fun a w hs hr => by
  obtain ⟨g1, g2⟩ := hs.tail0 sz
  exact wp_mono (h a w g1 (hr.ext g2)) fun x a1 w1 ⟨hd, e1, H1, s, r, x1, q⟩ => ⟨hd, e1, H1, s, r, g2.trans x1, q⟩
theorem DVop.callq_ {mv tm : List Nat} {ops : Array Oper} {K : Env → Own → Prop} {i : Nat} {o : Oper} {rest : List Oper} {c : Operand} {args : Array Operand} {ts : Array TypeId} {k : FuncId} {first caps args' : List V} {es F : Own} {A : Prop} {d : V}
    (hm : mv.contains i = false) (ht : tm.contains i = true) (hop : o.op = .call { callee := .value c, args, argTypes := ts }) (hc : opd e c = .fn (.func k) first caps)
    (hl : Les (first ++ args.toList.map (opd e) ++ caps) args') (hq : Pulled H es F) (h1 : A → DC P k args' (es ++ F) fun d' H' => d' = d ∧ H' = es ++ F)
    (hp : A ∧ FD P (mv ++ tm) ops (fun i' l' e' => DV P mv tm ops K i' l' e' H) (i + 1) rest (putO e o.dst d)) : DVop P mv tm ops K i o rest e H :=
  DVop.call_ hm ht hop hc (DC.args hl (DC.keep hq (h1 hp.1))) hp.2
end
end Go.Proofs.YtnnigbnlhhikjaaDoor
