/- A region that draws its order, over data: walked once, in the order of the text. Operations that look at no memory that changes float; the others are in one order by the edges. No statement of the program. -/
import Derived.Test.YtnnigbnlhhikjaaDoorEb
import Derived.StillTail
namespace Go.Proofs.YtnnigbnlhhikjaaDoor
open Go.RowKit
set_option linter.unusedSimpArgs false
set_option linter.unusedVariables false
set_option linter.unusedSectionVars false

/-- Operation k comes behind operation j, by the edges. -/
def AfterN (ops : Array Oper) : Nat → Nat → Nat → Prop
  | 0, k, j => Region.waitsFor .any ops k j = true
  | f + 1, k, j => ∃ m, Region.waitsFor .any ops k m = true ∧ AfterN ops f m j
def After (ops : Array Oper) (k j : Nat) : Prop := ∃ f, AfterN ops f k j
theorem After.one {ops : Array Oper} {k j : Nat} (h : Region.waitsFor .any ops k j = true) : After ops k j := ⟨0, h⟩
theorem After.step {ops : Array Oper} {k m j : Nat} (h : Region.waitsFor .any ops k m = true) (h' : After ops m j) : After ops k j := h'.elim fun f hf => ⟨f + 1, m, h, hf⟩

/-- All that each operation comes behind, as bits. -/
def maskOf (acc : List Nat) (o : Oper) : Nat := o.after.toList.foldr (fun e s => if Region.binds .any e then s ||| 2 ^ e.on ||| acc.getD e.on 0 else s) 0
def masks (ops : List Oper) : List Nat := ops.foldl (fun acc o => acc ++ [maskOf acc o]) []
theorem maskOf_bit {acc : List Nat} {o : Oper} {i : Nat} (h : (maskOf acc o).testBit i = true) : ∃ e ∈ o.after.toList, Region.binds .any e = true ∧ (e.on = i ∨ (acc.getD e.on 0).testBit i = true) := by
  unfold maskOf at h
  generalize o.after.toList = l at h
  induction l with
  | nil => simp at h
  | cons e l ih =>
    simp only [List.foldr_cons] at h
    split at h
    · rename_i hb
      simp only [Nat.testBit_or, Bool.or_eq_true, Nat.testBit_two_pow, decide_eq_true_eq] at h
      rcases h with (h | h) | h
      · obtain ⟨e', h1, h2⟩ := ih h; exact ⟨e', List.mem_cons_of_mem _ h1, h2⟩
      · exact ⟨e, List.mem_cons_self, hb, .inl h⟩
      · exact ⟨e, List.mem_cons_self, hb, .inr h⟩
    · obtain ⟨e', h1, h2⟩ := ih h; exact ⟨e', List.mem_cons_of_mem _ h1, h2⟩
theorem masks_after (ops : List Oper) : ∀ (l pre : List Oper) (acc : List Nat), pre ++ l = ops → acc.length = pre.length → (∀ j i, (acc.getD j 0).testBit i = true → After ops.toArray j i) →
    ∀ j i, ((l.foldl (fun acc o => acc ++ [maskOf acc o]) acc).getD j 0).testBit i = true → After ops.toArray j i
  | [], _, _, _, _, h => h
  | o :: l, pre, acc, he, hl, h => by
    refine masks_after ops l (pre ++ [o]) (acc ++ [maskOf acc o]) (by simp [he]) (by simp [hl]) fun j i hb => ?_
    rcases Nat.lt_or_ge j acc.length with hj | hj
    · rw [List.getD_eq_getElem?_getD, List.getElem?_append_left hj, ← List.getD_eq_getElem?_getD] at hb
      exact h j i hb
    · by_cases hj' : j = acc.length
      · subst hj'
        rw [List.getD_eq_getElem?_getD, List.getElem?_append_right (Nat.le_refl _)] at hb
        simp only [Nat.sub_self, List.getElem?_cons_zero, Option.getD_some] at hb
        obtain ⟨e, h1, h2, h3⟩ := maskOf_bit hb
        have ho : ops.toArray[acc.length]? = some o := by rw [hl]; subst he; simp
        have hw : Region.waitsFor .any ops.toArray acc.length e.on = true := by
          unfold Region.waitsFor
          rw [ho]
          simp only [Array.any_eq_true']
          exact ⟨e, by simpa using h1, by simp [h2]⟩
        rcases h3 with h3 | h3
        · subst h3; exact .one hw
        · exact .step hw (h _ _ h3)
      · rw [List.getD_eq_getElem?_getD, List.getElem?_eq_none (by simp; omega)] at hb
        simp at hb
theorem after_of_masks {ops : List Oper} {j i : Nat} (h : ((masks ops).getD j 0).testBit i = true) : After ops.toArray j i :=
  masks_after ops ops [] [] rfl rfl (fun j i h => by simp at h) j i h

/-- The slots that an operation names: those that it reads, its guard's. -/
def tmpsOf (l : List Operand) : List Nat := l.filterMap fun | .tmp t => some t | _ => none
def readsOf (ops : List Oper) (o : Oper) : List Nat :=
  tmpsOf o.op.operands.toList ++ (match o.guard with | some (j, _) => ((ops[j]?).bind (·.dst)).toList | none => [])
/-- Two operations that touch one another's slots. -/
def clash (ops : List Oper) (a b : Oper) : Bool :=
  (match a.dst with | some d => (readsOf ops b).contains d || b.dst == some d | none => false) || (match b.dst with | some d => (readsOf ops a).contains d | none => false)
/-- What is asked of a region's edges; mv: the operations that must keep their order; tm: those that come ahead of all of them. -/
def drawB (ops : List Oper) (mv tm : List Nat) : Bool :=
  let ms := masks ops
  (ops.zipIdx.all fun (o, k) => o.after.all fun e => !Region.binds .any e || decide (e.on < k)) &&
  (ops.zipIdx.all fun (b, j) => (ops.zipIdx.take j).all fun (a, i) => (ms.getD j 0).testBit i || (!clash ops a b && !(mv.contains i && mv.contains j))) &&
  (ops.zipIdx.all fun (_, j) => (ops.zipIdx.all fun (_, i) => !(mv.contains j && tm.contains i) || (ms.getD j 0).testBit i && decide (i < j)))

structure DrawOk (ops : List Oper) (mv tm : List Nat) : Prop where
  up : ∀ k o, ops[k]? = some o → ∀ e ∈ o.after, Region.binds .any e = true → e.on < k
  pair : ∀ i j a b, i < j → ops[i]? = some a → ops[j]? = some b → After ops.toArray j i ∨ (clash ops a b = false ∧ ¬ (mv.contains i = true ∧ mv.contains j = true))
  first : ∀ i j a b, ops[i]? = some a → ops[j]? = some b → mv.contains j = true → tm.contains i = true → After ops.toArray j i ∧ i < j
theorem drawOk_of {ops : List Oper} {mv tm : List Nat} (h : drawB ops mv tm = true) : DrawOk ops mv tm := by
  simp only [drawB, Bool.and_eq_true] at h
  obtain ⟨⟨h1, h2⟩, h3⟩ := h
  refine ⟨fun k o ho e he hb => ?_, fun i j a b hij hi hj => ?_, fun i j a b hi hj hm ht => ?_⟩
  · have := List.all_eq_true.1 h1 (o, k) (by rw [List.mem_iff_getElem?]; exact ⟨k, by simp [ho]⟩)
    simp only [Array.all_eq_true_iff_forall_mem, Bool.or_eq_true, Bool.not_eq_true', decide_eq_true_eq] at this
    exact (this e he).resolve_left (by simp [hb])
  · have := List.all_eq_true.1 h2 (b, j) (by rw [List.mem_iff_getElem?]; exact ⟨j, by simp [hj]⟩)
    have := List.all_eq_true.1 this (a, i) (by rw [List.mem_iff_getElem?]; exact ⟨i, by rw [List.getElem?_take, if_pos hij]; simp [hi]⟩)
    simp only [Bool.or_eq_true, Bool.and_eq_true, Bool.not_eq_true', Bool.and_eq_false_iff] at this
    rcases this with h | ⟨h, h'⟩
    · exact .inl (after_of_masks h)
    · refine .inr ⟨h, fun ⟨x, y⟩ => ?_⟩
      rw [x, y] at h'
      rcases h' with h' | h' <;> cases h'
  · have := List.all_eq_true.1 h3 (b, j) (by rw [List.mem_iff_getElem?]; exact ⟨j, by simp [hj]⟩)
    have := List.all_eq_true.1 this (a, i) (by rw [List.mem_iff_getElem?]; exact ⟨i, by simp [hi]⟩)
    simp only [hm, ht, Bool.and_self, Bool.not_true, Bool.false_or, Bool.and_eq_true, decide_eq_true_eq] at this
    exact ⟨after_of_masks this.1, this.2⟩

/-- Slots as a function. -/
def putF (F : Nat → V) : Option Nat → V → Nat → V
  | some t, d => fun u => if u = t then d else F u
  | none, _ => F
def opdF (F : Nat → V) : Operand → V
  | .tmp t => F t
  | .const v => ofConst v
  | .global g => .raw (.pointer (some ⟨g, 0, none⟩))
  | .func f => .fn (.func f) [] []
theorem opdF_get (e : Env) : opdF (get e) = opd e := by funext x; cases x <;> rfl
theorem get_putO (e : Env) (t : Option Nat) (d : V) : get (putO e t d) = putF (get e) t d := by
  funext u
  cases t with
  | none => rfl
  | some t =>
    simp only [putO, putF]
    split
    · rename_i h; subst h; exact get_put_same e u d
    · rename_i h; exact get_put_ne e t u d h
theorem putF_comm {F : Nat → V} {s t : Option Nat} {c d : V} (h : s = none ∨ t = none ∨ s ≠ t) : putF (putF F s c) t d = putF (putF F t d) s c := by
  cases s with
  | none => rfl
  | some s =>
    cases t with
    | none => rfl
    | some t =>
      have hne : s ≠ t := by
        rcases h with h | h | h
        · cases h
        · cases h
        · exact fun e => h (by rw [e])
      funext u
      simp only [putF]
      by_cases h1 : u = t
      · subst h1; rw [if_pos rfl, if_neg (Ne.symm hne), if_pos rfl]
      · by_cases h2 : u = s
        · subst h2; rw [if_neg h1, if_pos rfl, if_pos rfl]
        · rw [if_neg h1, if_neg h2, if_neg h2, if_neg h1]
theorem putF_at {F : Nat → V} {t : Option Nat} {d : V} {u : Nat} (h : t ≠ some u) : putF F t d u = F u := by
  cases t with
  | none => rfl
  | some t => simp only [putF]; rw [if_neg fun e => h (by rw [e])]

structure RF (n : Nat) (w : World) (H : Own) (tmps : Array Value) (F : Nat → V) : Prop where
  size : tmps.size = n
  slot : ∀ t, R (stable w H) w (tmps.getD t undef) (F t)
theorem RF.opd {n : Nat} {w : World} {H : Own} {a : Act} {F : Nat → V} (h : RF n w H a.tmps F) (x : Operand) : R (stable w H) w (a.eval x) (opdF F x) := by
  cases x with
  | tmp t => exact h.slot t
  | const v => exact R.const _ _ v
  | global g => exact .raw _
  | func f => exact .fn _ _ _ _ _ rfl (fun _ h => absurd h (Nat.not_lt_zero _)) rfl (fun _ h => absurd h (Nat.not_lt_zero _))
theorem RF.ext {n : Nat} {w w' : World} {H H' : Own} {tmps : Array Value} {F : Nat → V} (h : RF n w H tmps F) (x : Ext w H w' H') : RF n w' H' tmps F := ⟨h.size, fun t => x.rel (h.slot t)⟩
theorem RF.put {n : Nat} {w : World} {H : Own} {a : Act} {F : Nat → V} (h : RF n w H a.tmps F) {t : Option Nat} (ht : t.all (· < n) = true) {v : Value} {d : V} (r : R (stable w H) w v d) : RF n w H (a.put t v).tmps (putF F t d) := by
  cases t with
  | none => exact h
  | some t =>
    refine ⟨by simpa [Act.put] using h.size, fun u => ?_⟩
    have ht' : t < n := by simpa using ht
    simp only [putF]
    by_cases hu : u = t
    · subst hu
      have : (a.put (some u) v).tmps.getD u undef = v := by
        have := h.size; simp [Act.put, Array.getD_eq_getD_getElem?, Array.getElem?_setIfInBounds, this, ht']
      rw [this, if_pos rfl]; exact r
    · have : (a.put (some t) v).tmps.getD u undef = a.tmps.getD u undef := by
        simp [Act.put, Array.getD_eq_getD_getElem?, Array.getElem?_setIfInBounds, Ne.symm hu]
      rw [this, if_neg hu]; exact h.slot u

/-- Is an operation carried out? -/
def gst (ops : List Oper) (o : Oper) (F : Nat → V) : Option Bool :=
  match o.guard with
  | none => some true
  | some (j, want) => match (ops[j]?).bind (·.dst) with
    | some t => match F t with
      | .bool b => some (b == want)
      | .tup _ => some false
      | _ => none
    | none => none
theorem gst_wanted {ops : List Oper} {n : Nat} {w : World} {H : Own} {a : Act} {F : Nat → V} (h : RF n w H a.tmps F) {o : Oper} {b : Bool} (hg : gst ops o F = some b) : Region.wanted o (yielded ops.toArray a.tmps) = b := by
  unfold gst at hg
  unfold Region.wanted yielded
  cases hgd : o.guard with
  | none => rw [hgd] at hg; injection hg
  | some jw =>
    obtain ⟨j, want⟩ := jw
    rw [hgd] at hg
    simp only at hg ⊢
    simp only [List.getElem?_toArray]
    cases hd : (ops[j]?).bind (·.dst) with
    | none => rw [hd] at hg; cases hg
    | some t =>
      rw [hd] at hg
      simp only at hg
      have hr := h.slot t
      cases hF : F t with
      | bool c =>
        rw [hF] at hr hg
        simp only [Option.some.injEq] at hg
        have hv : a.tmps.getD t undef = .bool c := by generalize a.tmps.getD t undef = v at hr; cases hr; rfl
        simp only [Array.getD_eq_getD_getElem?] at hv
        simp only [hd, Option.bind_some]
        cases ht : a.tmps[t]? with
        | none => rw [ht] at hv; cases hv
        | some u =>
          rw [ht] at hv
          simp only [Option.getD_some] at hv
          subst hv
          rw [← hg]
          cases c <;> cases want <;> rfl
      | tup ds =>
        rw [hF] at hr hg
        simp only [Option.some.injEq] at hg
        have hv : ∃ xs, a.tmps.getD t undef = .tuple xs := by generalize a.tmps.getD t undef = v at hr; cases hr; exact ⟨_, rfl⟩
        obtain ⟨xs, hv⟩ := hv
        simp only [Array.getD_eq_getD_getElem?] at hv
        simp only [hd, Option.bind_some]
        rw [← hg]
        cases ht : a.tmps[t]? with
        | none => cases want <;> rfl
        | some u =>
          rw [ht] at hv
          simp only [Option.getD_some] at hv
          subst hv
          cases want <;> rfl
      | _ => rw [hF] at hg; cases hg

theorem DOp.congr {P : Program} {o : Oper} {f f' : Operand → V} {H : Own} {K : V → Own → Prop} (hf : ∀ x, x ∈ o.op.operands → f x = f' x) (h : DOp P o f H K) : DOp P o f' H K :=
  fun a w next Q hs hr hn => h a w next Q hs (fun x hx => by rw [hf x hx]; exact hr x hx) hn

/-- Whatever an operation comes to, it comes to something. -/
theorem wp_some {P : Program} {o : Oper} {a : Act} {w : World} {X : Prop} (h : o.wp P a w (fun _ _ => X) (fun _ _ _ => False)) : X := by
  unfold Oper.wp at h
  generalize (execOp a.eval o).run P w = r at h
  cases r with
  | ok x w' =>
    cases x <;> simp only [Oper.upon] at h
    case value v => exact h
    case skip => exact h
    case defer d => exact h
    case enter f args =>
      obtain ⟨e, w'', fr, hR, _⟩ := h []
      cases e with
      | returned v => exact hR
      | panicked c => exact hR.elim
      | outgrown => exact hR.elim fun _ ⟨_, h⟩ => h.elim
    case row r args =>
      obtain ⟨v, w'', hR, _⟩ := h (default : Frame) []
      exact hR
  | halt x w' => cases x <;> simp only [Oper.upon] at h

section
variable {P : Program} {ops : List Oper} {mv tm : List Nat} {H0 : Own} {val : Nat → Oper → (Operand → V) → V} {side : Nat → Oper → (Operand → V) → Prop} {K : (Nat → V) → Own → Prop} {n : Nat}

/-- The walk over data, those operations left out that are listed. -/
def RV (P : Program) (ops : List Oper) (mv : List Nat) (val : Nat → Oper → (Operand → V) → V) (side : Nat → Oper → (Operand → V) → Prop) (K : (Nat → V) → Own → Prop) (L : Nat → Bool) : Nat → List Oper → (Nat → V) → Own → Prop
  | _, [], F, H => K F H
  | k, o :: rest, F, H =>
    if L k = true then RV P ops mv val side K L (k + 1) rest F H
    else match gst ops o F with
      | some true =>
        if mv.contains k = true then DOp P o (opdF F) H fun d H' => RV P ops mv val side K L (k + 1) rest (putF F o.dst d) H'
        else side k o (opdF F) ∧ RV P ops mv val side K L (k + 1) rest (putF F o.dst (val k o (opdF F))) H
      | some false => RV P ops mv val side K L (k + 1) rest (putF F o.dst (.tup [])) H
      | none => False

theorem RV.congrL {L L' : Nat → Bool} : ∀ (l : List Oper) (k : Nat) (F : Nat → V) (H : Own), (∀ j, k ≤ j → L j = L' j) → RV P ops mv val side K L k l F H → RV P ops mv val side K L' k l F H
  | [], _, _, _, _, h => h
  | o :: rest, k, F, H, he, h => by
    have ih := fun F H => RV.congrL rest (k + 1) F H fun j hj => he j (by omega)
    unfold RV at h ⊢
    rw [← he k (Nat.le_refl _)]
    split
    · rename_i hl; rw [if_pos hl] at h; exact ih _ _ h
    · rename_i hl
      rw [if_neg hl] at h
      cases hg : gst ops o F with
      | none => rw [hg] at h; exact h.elim
      | some b =>
        rw [hg] at h
        cases b with
        | false => exact ih _ _ h
        | true =>
          simp only at h ⊢
          split
          · rename_i hm; rw [if_pos hm] at h; exact h.mono fun d H' h => ih _ _ h
          · rename_i hm; rw [if_neg hm] at h; exact ⟨h.1, ih _ _ h.2⟩

/-- Two operations that do not touch one another's slots. -/
structure Free (ops : List Oper) (a b : Oper) : Prop where
  ops1 : ∀ (F : Nat → V) d x, x ∈ b.op.operands → opdF (putF F a.dst d) x = opdF F x
  ops2 : ∀ (F : Nat → V) d x, x ∈ a.op.operands → opdF (putF F b.dst d) x = opdF F x
  gst1 : ∀ (F : Nat → V) d, gst ops b (putF F a.dst d) = gst ops b F
  gst2 : ∀ (F : Nat → V) d, gst ops a (putF F b.dst d) = gst ops a F
  put : ∀ (F : Nat → V) c d, putF (putF F a.dst c) b.dst d = putF (putF F b.dst d) a.dst c
theorem free_reads {ops : List Oper} {a b : Oper} (h : ∀ d, a.dst = some d → (readsOf ops b).contains d = false) (F : Nat → V) (c : V) :
    (∀ x, x ∈ b.op.operands → opdF (putF F a.dst c) x = opdF F x) ∧ gst ops b (putF F a.dst c) = gst ops b F := by
  refine ⟨fun x hx => ?_, ?_⟩
  · cases x with
    | tmp t =>
      simp only [opdF]
      refine putF_at fun e => ?_
      have := h t e
      have hm : t ∈ readsOf ops b := List.mem_append_left _ (List.mem_filterMap.2 ⟨.tmp t, by simpa using hx, rfl⟩)
      simp only [List.contains_eq_mem, decide_eq_false_iff_not] at this
      exact this hm
    | _ => rfl
  · unfold gst
    cases hg : b.guard with
    | none => rfl
    | some jw =>
      obtain ⟨j, want⟩ := jw
      simp only
      cases hd : (ops[j]?).bind (·.dst) with
      | none => rfl
      | some t =>
        have : putF F a.dst c t = F t := putF_at fun e => by
          have := h t e
          have hm : t ∈ readsOf ops b := List.mem_append_right _ (by rw [hg]; simp [hd])
          simp only [List.contains_eq_mem, decide_eq_false_iff_not] at this
          exact this hm
        simp only [this]
theorem free_of {ops : List Oper} {a b : Oper} (h : clash ops a b = false) : Free ops a b := by
  unfold clash at h
  simp only [Bool.or_eq_false_iff] at h
  obtain ⟨h1, h2⟩ := h
  have r1 : ∀ d, a.dst = some d → (readsOf ops b).contains d = false := fun d hd => by rw [hd] at h1; simp only [Bool.or_eq_false_iff] at h1; exact h1.1
  have r2 : ∀ d, b.dst = some d → (readsOf ops a).contains d = false := fun d hd => by rw [hd] at h2; exact h2
  refine ⟨fun F d => (free_reads r1 F d).1, fun F d => (free_reads r2 F d).1, fun F d => (free_reads r1 F d).2, fun F d => (free_reads r2 F d).2, fun F c d => putF_comm ?_⟩
  cases ha : a.dst with
  | none => exact .inl rfl
  | some s =>
    rw [ha] at h1
    simp only [Bool.or_eq_false_iff, beq_eq_false_iff_ne] at h1
    exact .inr (.inr fun e => h1.2 e.symm)

variable (hval : ∀ k o f f', (∀ x, x ∈ o.op.operands → f x = f' x) → val k o f = val k o f' ∧ (side k o f → side k o f'))
include hval
theorem Free.val1 (k : Nat) {a b : Oper} (h : Free ops a b) (F : Nat → V) (d : V) : val k b (opdF (putF F a.dst d)) = val k b (opdF F) := (hval k b _ _ fun x hx => h.ops1 F d x hx).1
theorem Free.side1 (k : Nat) {a b : Oper} (h : Free ops a b) (F : Nat → V) (d : V) : side k b (opdF (putF F a.dst d)) → side k b (opdF F) := (hval k b _ _ fun x hx => h.ops1 F d x hx).2
theorem Free.val2 (k : Nat) {a b : Oper} (h : Free ops a b) (F : Nat → V) (d : V) : val k a (opdF (putF F b.dst d)) = val k a (opdF F) := (hval k a _ _ fun x hx => h.ops2 F d x hx).1
theorem Free.side2 (k : Nat) {a b : Oper} (h : Free ops a b) (F : Nat → V) (d : V) : side k a (opdF F) → side k a (opdF (putF F b.dst d)) := (hval k a _ _ fun x hx => (h.ops2 F d x hx).symm).2

/-- What operation j, taken first, leaves: d is what it yields. -/
theorem RV.pull {L : Nat → Bool} {j : Nat} {oj : Oper} (hj : L j = false) (hun : ∀ i oi, i < j → ops[i]? = some oi → L i = false → Free ops oi oj) :
    ∀ (l : List Oper) (k : Nat) (F : Nat → V) (H : Own) (d : V), (∀ i, i < l.length → l[i]? = ops[k + i]?) → k ≤ j → j < k + l.length → l[j - k]? = some oj →
      (gst ops oj F = some false → d = .tup []) → (gst ops oj F = some true → mv.contains j = false ∧ d = val j oj (opdF F)) →
      RV P ops mv val side K L k l F H → RV P ops mv val side K (fun i => L i || i == j) k l (putF F oj.dst d) H
  | [], k, F, H, d, _, h1, h2, _, _, _, _ => by simp at h2; omega
  | o :: rest, k, F, H, d, hl, hkj, hjk, hoj, hd0, hd1, h => by
    have h0 : ops[k]? = some o := by simpa using (hl 0 (by simp)).symm
    have hl' : ∀ i, i < rest.length → rest[i]? = ops[k + 1 + i]? := fun i hi => by have := hl (i + 1) (by simp; omega); simpa [Nat.add_assoc, Nat.add_comm 1 i] using this
    unfold RV at h ⊢
    by_cases hk : k = j
    · subst hk
      have ho : o = oj := by simpa using hoj
      subst ho
      rw [if_pos (by simp)]
      rw [if_neg (by simp [hj])] at h
      have hc : ∀ {F H}, RV P ops mv val side K L (k + 1) rest F H → RV P ops mv val side K (fun i => L i || i == k) (k + 1) rest F H := fun {F H} h =>
        RV.congrL rest _ _ _ (fun i hi => by simp; omega) h
      cases hg : gst ops o F with
      | none => rw [hg] at h; exact h.elim
      | some b =>
        rw [hg] at h
        cases b with
        | false => rw [hd0 hg]; exact hc h
        | true =>
          obtain ⟨hm, hd⟩ := hd1 hg
          simp only [hm, Bool.false_eq_true, if_false] at h
          rw [hd]
          exact hc h.2
    · have hlt : k < j := by omega
      have hjk' : j < k + 1 + rest.length := by simp at hjk; omega
      have hoj' : rest[j - (k + 1)]? = some oj := by
        have : j - k = (j - (k + 1)) + 1 := by omega
        rw [this] at hoj
        simpa using hoj
      have hneq : (k == j) = false := by simp; omega
      simp only [hneq, Bool.or_false]
      by_cases hlk : L k = true
      · rw [if_pos hlk] at h ⊢
        exact RV.pull hj hun rest (k + 1) F H d hl' (by omega) hjk' hoj' hd0 hd1 h
      · rw [if_neg hlk] at h ⊢
        have fr := hun k o hlt h0 (by simpa using hlk)
        rw [fr.gst2]
        have ih := fun F' H' (e1 : gst ops oj F' = gst ops oj F) (e2 : val j oj (opdF F') = val j oj (opdF F)) => RV.pull hj hun rest (k + 1) F' H' d hl' (by omega) hjk' hoj' (fun h => hd0 (e1 ▸ h)) (fun h => by rw [e2]; exact hd1 (e1 ▸ h))
        cases hg : gst ops o F with
        | none => rw [hg] at h; exact h.elim
        | some b =>
          rw [hg] at h
          cases b with
          | false =>
            simp only at h ⊢
            rw [← fr.put]
            exact ih _ _ (fr.gst1 _ _) (fr.val1 hval _ _ _) h
          | true =>
            simp only at h ⊢
            split
            · rename_i hm
              rw [if_pos hm] at h
              refine (h.congr fun x hx => (fr.ops2 F d x hx).symm).mono fun d' H' h => ?_
              rw [← fr.put]
              exact ih _ _ (fr.gst1 _ _) (fr.val1 hval _ _ _) h
            · rename_i hm
              rw [if_neg hm] at h
              refine ⟨fr.side2 hval _ _ _ h.1, ?_⟩
              rw [fr.val2 hval k, ← fr.put]
              exact ih _ _ (fr.gst1 _ _) (fr.val1 hval _ _ _) h.2
/-- What a mover, taken first, comes to. -/
theorem RV.pullM {L : Nat → Bool} {j : Nat} {oj : Oper} (hj : L j = false) (hm : mv.contains j = true) (hun : ∀ i oi, i < j → ops[i]? = some oi → L i = false → Free ops oi oj ∧ mv.contains i = false) :
    ∀ (l : List Oper) (k : Nat) (F : Nat → V) (H : Own), (∀ i, i < l.length → l[i]? = ops[k + i]?) → k ≤ j → j < k + l.length → l[j - k]? = some oj → gst ops oj F = some true →
      RV P ops mv val side K L k l F H → DOp P oj (opdF F) H fun d H' => RV P ops mv val side K (fun i => L i || i == j) k l (putF F oj.dst d) H'
  | [], k, F, H, _, h1, h2, _, _, _ => by simp at h2; omega
  | o :: rest, k, F, H, hl, hkj, hjk, hoj, hgj, h => by
    have h0 : ops[k]? = some o := by simpa using (hl 0 (by simp)).symm
    have hl' : ∀ i, i < rest.length → rest[i]? = ops[k + 1 + i]? := fun i hi => by have := hl (i + 1) (by simp; omega); simpa [Nat.add_assoc, Nat.add_comm 1 i] using this
    by_cases hk : k = j
    · subst hk
      have ho : o = oj := by simpa using hoj
      subst ho
      unfold RV at h
      rw [if_neg (by simp [hj]), hgj] at h
      simp only [hm, if_true] at h
      refine h.mono fun d H' h => ?_
      unfold RV
      rw [if_pos (by simp)]
      exact RV.congrL rest _ _ _ (fun i hi => by simp; omega) h
    · have hlt : k < j := by omega
      have hjk' : j < k + 1 + rest.length := by simp at hjk; omega
      have hoj' : rest[j - (k + 1)]? = some oj := by
        have : j - k = (j - (k + 1)) + 1 := by omega
        rw [this] at hoj
        simpa using hoj
      have hneq : (k == j) = false := by simp; omega
      unfold RV at h
      by_cases hlk : L k = true
      · rw [if_pos hlk] at h
        refine (RV.pullM hj hm hun rest (k + 1) F H hl' (by omega) hjk' hoj' hgj h).mono fun d H' h => ?_
        unfold RV
        rw [if_pos (by simp [hlk])]
        exact h
      · rw [if_neg hlk] at h
        obtain ⟨fr, hmk⟩ := hun k o hlt h0 (by simpa using hlk)
        cases hg : gst ops o F with
        | none => rw [hg] at h; exact h.elim
        | some b =>
          rw [hg] at h
          cases b with
          | false =>
            simp only at h
            refine ((RV.pullM hj hm hun rest (k + 1) _ H hl' (by omega) hjk' hoj' (by rw [fr.gst1]; exact hgj) h).congr fun x hx => fr.ops1 F _ x hx).mono fun d H' h => ?_
            unfold RV
            rw [if_neg (by simp [hlk]; omega), fr.gst2, hg]
            simp only
            rw [← fr.put]
            exact h
          | true =>
            simp only [hmk, Bool.false_eq_true, if_false] at h
            refine ((RV.pullM hj hm hun rest (k + 1) _ H hl' (by omega) hjk' hoj' (by rw [fr.gst1]; exact hgj) h.2).congr fun x hx => fr.ops1 F _ x hx).mono fun d H' h' => ?_
            unfold RV
            rw [if_neg (by simp [hlk]; omega), fr.gst2, hg]
            simp only [hmk, Bool.false_eq_true, if_false]
            refine ⟨fr.side2 hval _ _ _ h.1, ?_⟩
            rw [fr.val2 hval k, ← fr.put]
            exact h'

variable (hok : DrawOk ops mv tm) (hfl : ∀ k o, ops[k]? = some o → mv.contains k = false → ∀ f H, (tm.contains k = true → H = H0) → side k o f → DOp P o f H fun d H' => d = val k o f ∧ H' = H) (hdst : dstB n ops = true)
include hok hfl hdst
theorem dst_of (k : Nat) (o : Oper) (h : ops[k]? = some o) : o.dst.all (· < n) = true := by
  have := List.all_eq_true.1 hdst o (List.mem_of_getElem? h)
  simpa using this
/-- What is known of operation j ahead of its turn. -/
theorem RV.known {L : Nat → Bool} {j : Nat} {oj : Oper} (hj : L j = false) (hun : ∀ i oi, i < j → ops[i]? = some oi → L i = false → Free ops oi oj) :
    ∀ (l : List Oper) (k : Nat) (F : Nat → V) (H : Own) (a : Act) (w : World), (∀ i, i < l.length → l[i]? = ops[k + i]?) → k ≤ j → j < k + l.length → l[j - k]? = some oj →
      Sim w H → (∀ i, k ≤ i → i < ops.length → tm.contains i = true → L i = false → H = H0) → RF n w H a.tmps F → RV P ops mv val side K L k l F H → (∃ b, gst ops oj F = some b) ∧ (gst ops oj F = some true → mv.contains j = false → side j oj (opdF F))
  | [], k, F, H, a, w, _, h1, h2, _, _, _, _, _ => by simp at h2; omega
  | o :: rest, k, F, H, a, w, hl, hkj, hjk, hoj, hs, hi, hr, h => by
    have h0 : ops[k]? = some o := by simpa using (hl 0 (by simp)).symm
    have hl' : ∀ i, i < rest.length → rest[i]? = ops[k + 1 + i]? := fun i hi => by have := hl (i + 1) (by simp; omega); simpa [Nat.add_assoc, Nat.add_comm 1 i] using this
    have hdo := dst_of hval hok hfl hdst k o h0
    have hko : k < ops.length := (List.getElem?_eq_some_iff.1 h0).1
    have hnx : ∀ i, k + 1 ≤ i → i < ops.length → tm.contains i = true → L i = false → H = H0 := fun i h => hi i (by omega)
    unfold RV at h
    by_cases hk : k = j
    · subst hk
      have ho : o = oj := by simpa using hoj
      subst ho
      rw [if_neg (by simp [hj])] at h
      cases hg : gst ops o F with
      | none => rw [hg] at h; exact h.elim
      | some b =>
        rw [hg] at h
        refine ⟨⟨b, rfl⟩, fun hb hm => ?_⟩
        injection hb with hb
        subst hb
        simp only [hm, Bool.false_eq_true, if_false] at h
        exact h.1
    · have hlt : k < j := by omega
      have hjk' : j < k + 1 + rest.length := by simp at hjk; omega
      have hoj' : rest[j - (k + 1)]? = some oj := by
        have : j - k = (j - (k + 1)) + 1 := by omega
        rw [this] at hoj
        simpa using hoj
      by_cases hlk : L k = true
      · rw [if_pos hlk] at h
        exact RV.known hj hun rest (k + 1) F H a w hl' (by omega) hjk' hoj' hs hnx hr h
      · rw [if_neg hlk] at h
        have fr := hun k o hlt h0 (by simpa using hlk)
        have back : ∀ d, ((∃ b, gst ops oj (putF F o.dst d) = some b) ∧ (gst ops oj (putF F o.dst d) = some true → mv.contains j = false → side j oj (opdF (putF F o.dst d)))) →
            (∃ b, gst ops oj F = some b) ∧ (gst ops oj F = some true → mv.contains j = false → side j oj (opdF F)) := fun d ⟨x, y⟩ => by
          rw [fr.gst1] at x y
          exact ⟨x, fun h1 h2 => fr.side1 hval _ _ _ (y h1 h2)⟩
        cases hg : gst ops o F with
        | none => rw [hg] at h; exact h.elim
        | some b =>
          rw [hg] at h
          cases b with
          | false => exact back _ (RV.known hj hun rest (k + 1) _ H (a.put o.dst undef) w hl' (by omega) hjk' hoj' hs hnx (hr.put hdo (R.skipped _ _)) h)
          | true =>
            simp only at h
            split at h
            · rename_i hm
              refine wp_some (P := P) (o := o) (a := a) (w := w) (h a w _ _ hs (fun x _ => hr.opd x) fun v w' d H' s x r k' => ?_)
              exact back _ (RV.known hj hun rest (k + 1) _ H' _ w' hl' (by omega) hjk' hoj' s (fun i h1 h2 h3 _ => by
                have := (hok.first i k ops[i] o (by simp [h2]) h0 hm h3).2
                omega) ((hr.ext x).put hdo r) k')
            · rename_i hm
              refine wp_some (P := P) (o := o) (a := a) (w := w) (hfl k o h0 (by simpa using hm) _ H (fun ht => hi k (Nat.le_refl _) hko ht (by simpa using hlk)) h.1 a w _ _ hs (fun x _ => hr.opd x) fun v w' d H' s x r ⟨hd, hH⟩ => ?_)
              subst hd
              subst hH
              exact back _ (RV.known hj hun rest (k + 1) _ H' _ w' hl' (by omega) hjk' hoj' s hnx ((hr.ext x).put hdo r) h.2)

theorem closed_after {listed : Array Bool} (inv : HeadInv .any ops.toArray ops.length listed) : ∀ (f i j : Nat), listed.getD i false = true → AfterN ops.toArray f i j → listed.getD j false = true
  | 0, i, j, hi, h => by
    obtain ⟨oj, hoj, e, he, hb, hon⟩ := Region.waitsFor_spec h
    have := inv.closed i oj hoj hi e he hb
    rwa [hon] at this
  | f + 1, i, j, hi, ⟨m, h1, h2⟩ => by
    obtain ⟨oj, hoj, e, he, hb, hon⟩ := Region.waitsFor_spec h1
    have := inv.closed i oj hoj hi e he hb
    exact closed_after inv f m j (hon ▸ this) h2
theorem ready_after {listed : Array Bool} (inv : HeadInv .any ops.toArray ops.length listed) {i j : Nat} (hi : i ∈ Region.ready .any ops.toArray listed) (h : After ops.toArray i j) : listed.getD j false = true := by
  obtain ⟨f, hf⟩ := h
  have one : ∀ j, Region.waitsFor .any ops.toArray i j = true → listed.getD j false = true := fun j h => by
    obtain ⟨_, oi, hoi, hall⟩ := mem_ready.1 hi
    obtain ⟨oj, hoj, e, he, hb, hon⟩ := Region.waitsFor_spec h
    have : oj = oi := Option.some.inj (hoj.symm.trans hoi)
    subst this
    have := hall e he hb
    rwa [hon] at this
  cases f with
  | zero => exact one j hf
  | succ f =>
    obtain ⟨m, h1, h2⟩ := hf
    exact closed_after hval hok hfl hdst inv f m j (one m h1) h2
theorem RV.done {L : Nat → Bool} : ∀ (l : List Oper) (k : Nat) (F : Nat → V) (H : Own), (∀ j, k ≤ j → j < k + l.length → L j = true) → RV P ops mv val side K L k l F H → K F H
  | [], _, _, _, _, h => h
  | o :: rest, k, F, H, hL, h => by
    unfold RV at h
    rw [if_pos (hL k (Nat.le_refl _) (by simp))] at h
    exact RV.done rest (k + 1) F H (fun j h1 h2 => hL j (by omega) (by simp; omega)) h
theorem count_less {listed : Array Bool} {i : Nat} (h : listed.getD i true = false) : (listed.setIfInBounds i true).toList.count false + 1 = listed.toList.count false := by
  have hlt : i < listed.size := by
    rcases Nat.lt_or_ge i listed.size with h' | h'
    · exact h'
    · simp [Array.getElem?_eq_none h'] at h
  have h0 : listed.toList[i]'(by simpa using hlt) = false := by simpa [hlt] using h
  have hpos : 0 < listed.toList.count false := List.count_pos_iff.2 (h0 ▸ List.getElem_mem _)
  have hc := List.count_set (a := true) (b := false) (l := listed.toList) (i := i) (by simpa using hlt)
  rw [h0] at hc
  rw [Array.toList_setIfInBounds, hc]
  simp only [BEq.rfl, if_true, show ((true == false) = true) = False by simp, if_false, Nat.add_zero]
  omega
theorem first_un {listed : Array Bool} (hs : listed.size = ops.length) : ∀ m, (∀ j, j < m → listed.getD j false = true) ∨ ∃ k, k < m ∧ listed.getD k false = false ∧ ∀ j, j < k → listed.getD j false = true
  | 0 => .inl fun j hj => by omega
  | m + 1 => by
    rcases first_un hs m with h | ⟨k, h1, h2, h3⟩
    · cases hm : listed.getD m false with
      | true =>
        refine .inl fun j hj => ?_
        rcases Nat.lt_or_ge j m with h' | h'
        · exact h j h'
        · rw [show j = m by omega]; exact hm
      | false => exact .inr ⟨m, by omega, hm, h⟩
    · exact .inr ⟨k, by omega, h2, h3⟩

theorem RV.all {Q : Exit → Act → World → Prop} {w0 : World} {G0 : Own} {D : List Deferred} (hQ : ∀ a' w' F' H', a'.defers = D → Sim w' H' → RF n w' H' a'.tmps F' → Ext w0 G0 w' H' → K F' H' → Q .normal a' w') :
    ∀ (c : Nat) (listed : Array Bool) (F : Nat → V) (H : Own) (a : Act) (w : World), listed.toList.count false = c → HeadInv .any ops.toArray ops.length listed → RV P ops mv val side K (fun k => listed.getD k false) 0 ops F H →
      Sim w H → ((∀ i, i < ops.length → mv.contains i = true → listed.getD i false = false) → H = H0) → RF n w H a.tmps F → Ext w0 G0 w H → a.defers = D → wpAny P .any ops.toArray Q c listed a w := by
  intro c
  induction c with
  | zero =>
    intro listed F H a w hc inv h hs hi hr hx hD
    have hall : ∀ j, listed.getD j true = true := fun j => by
      cases hj : listed.getD j true with
      | true => rfl
      | false => have := count_less hval hok hfl hdst hj; omega
    refine ⟨?_, ?_⟩
    · cases hrd : Region.ready .any ops.toArray listed with
      | nil => rfl
      | cons i l =>
        have : i ∈ Region.ready .any ops.toArray listed := by rw [hrd]; exact List.mem_cons_self
        have := (mem_ready.1 this).1
        rw [hall] at this
        cases this
    · refine hQ a w F H hD hs hr hx (RV.done hval hok hfl hdst ops 0 F H (fun j _ hj => ?_) h)
      have h1 := hall j
      have h2 : j < listed.size := by rw [inv.size]; simpa using hj
      simp [h2] at h1 ⊢
      exact h1
  | succ c ih =>
    intro listed F H a w hc inv h hs hi hr hx hD
    have hsz : listed.size = ops.length := by simpa using inv.size
    refine ⟨fun h0 => ?_, fun i hi' => ?_⟩
    · rcases first_un hval hok hfl hdst hsz ops.length with hall | ⟨k, hk, hkf, hlow⟩
      · exfalso
        have : listed.toList.count false = 0 := List.count_eq_zero.2 fun hm => by
          obtain ⟨j, hj, e⟩ := List.getElem_of_mem hm
          have hj' : j < listed.size := by simpa using hj
          have := hall j (by omega)
          simp [hj'] at this
          simp at e
          rw [this] at e
          cases e
        omega
      · exfalso
        have hkl : k < listed.size := by omega
        have : k ∈ Region.ready .any ops.toArray listed := mem_ready.2 ⟨getD_in hkl hkf, ops[k], by simp [hk], fun e he hb => hlow _ (hok.up k _ (by simp [hk]) e he hb)⟩
        rw [h0] at this
        cases this
    · obtain ⟨hun, oi, hoi, _⟩ := mem_ready.1 hi'
      have hoi' : ops[i]? = some oi := by simpa using hoi
      have hilt : i < ops.length := (List.getElem?_eq_some_iff.1 hoi').1
      have hlf : listed.getD i false = false := getD_both hun
      have inv' := inv.set hi' (by simpa using hilt)
      have hc' : (listed.setIfInBounds i true).toList.count false = c := by have := count_less hval hok hfl hdst hun; omega
      have hpair : ∀ k ok, k < i → ops[k]? = some ok → listed.getD k false = false → Free ops ok oi ∧ ¬ (mv.contains k = true ∧ mv.contains i = true) := fun k ok hk hok' hkf => by
        rcases hok.pair k i ok oi hk hok' hoi' with h' | ⟨h1, h2⟩
        · rw [ready_after hval hok hfl hdst inv hi' h'] at hkf; cases hkf
        · exact ⟨free_of h1, h2⟩
      have hLc : ∀ {F H}, RV P ops mv val side K (fun k => listed.getD k false || k == i) 0 ops F H → RV P ops mv val side K (fun k => (listed.setIfInBounds i true).getD k false) 0 ops F H := fun {F H} h =>
        RV.congrL ops 0 F H (fun j _ => by
          by_cases hji : j = i
          · subst hji
            have : j < listed.size := by omega
            simp [this]
          · have : (j == i) = false := by simpa using hji
            rw [this, Bool.or_false, getD_set_ne false (Ne.symm hji)]) h
      have htm : ∀ k, k < ops.length → tm.contains k = true → listed.getD k false = false → H = H0 := fun k hk ht hkf => hi fun m hm hmv => by
        cases hlm : listed.getD m false with
        | false => rfl
        | true =>
          obtain ⟨f, hf⟩ := (hok.first k m ops[k] ops[m] (by simp [hk]) (by simp [hm]) hmv ht).1
          rw [closed_after hval hok hfl hdst inv f m k hlm hf] at hkf
          cases hkf
      have hback : ∀ m, (listed.setIfInBounds i true).getD m false = false → listed.getD m false = false ∧ m ≠ i := fun m h => by
        by_cases hmi : m = i
        · subst hmi
          have : m < listed.size := by omega
          simp [this] at h
        · rw [getD_set_ne false (Ne.symm hmi)] at h
          exact ⟨h, hmi⟩
      obtain ⟨⟨b, hb⟩, hside⟩ := RV.known hval hok hfl hdst (L := fun k => listed.getD k false) hlf (fun k ok h1 h2 h3 => (hpair k ok h1 h2 h3).1) ops 0 F H a w (fun k _ => by simp) (Nat.zero_le _) (by simpa using hilt) (by simpa using hoi') hs (fun k _ hk ht hkf => htm k hk ht hkf) hr h
      have hw := gst_wanted hr hb
      have hdi := dst_of hval hok hfl hdst i oi hoi'
      unfold wpOp
      rw [hoi]
      simp only [hw]
      cases b with
      | false =>
        simp only [Bool.false_eq_true, if_false]
        refine ih _ (putF F oi.dst (.tup [])) H _ w hc' inv' (hLc ?_) hs (fun hh => hi fun m hm hmv => (hback m (hh m hm hmv)).1) (hr.put hdi (R.skipped _ _)) hx (by rw [← hD]; cases oi.dst <;> rfl)
        exact RV.pull hval hlf (fun k ok h1 h2 h3 => (hpair k ok h1 h2 h3).1) ops 0 F H _ (fun k _ => by simp) (Nat.zero_le _) (by simpa using hilt) (by simpa using hoi') (fun _ => rfl) (fun h' => by rw [hb] at h'; cases h') h
      | true =>
        simp only [if_true]
        refine .inl ?_
        cases hm : mv.contains i with
        | true =>
          refine RV.pullM hval hlf hm (fun k ok h1 h2 h3 => ?_) ops 0 F H (fun k _ => by simp) (Nat.zero_le _) (by simpa using hilt) (by simpa using hoi') hb h a w _ _ hs (fun x _ => hr.opd x) fun v w' d H' s x r k' => ?_
          · obtain ⟨g1, g2⟩ := hpair k ok h1 h2 h3
            refine ⟨g1, ?_⟩
            cases hmk : mv.contains k with
            | true => exact absurd ⟨hmk, hm⟩ g2
            | false => rfl
          · exact ih _ _ H' _ w' hc' inv' (hLc k') s (fun hh => absurd rfl (hback i (hh i hilt hm)).2) ((hr.ext x).put hdi r) (hx.trans x) (by rw [← hD]; cases oi.dst <;> rfl)
        | false =>
          refine hfl i oi hoi' hm _ H (fun ht => htm i hilt ht hlf) (hside hb hm) a w _ _ hs (fun x _ => hr.opd x) fun v w' d H' s x r ⟨hd, hH⟩ => ?_
          subst hd
          subst hH
          refine ih _ _ H' _ w' hc' inv' (hLc ?_) s (fun hh => hi fun m hm hmv => (hback m (hh m hm hmv)).1) ((hr.ext x).put hdi r) (hx.trans x) (by rw [← hD]; cases oi.dst <;> rfl)
          exact RV.pull hval hlf (fun k ok h1 h2 h3 => (hpair k ok h1 h2 h3).1) ops 0 F H' _ (fun k _ => by simp) (Nat.zero_le _) (by simpa using hilt) (by simpa using hoi') (fun h' => by rw [hb] at h'; cases h') (fun _ => ⟨hm, rfl⟩) h
end
end Go.Proofs.YtnnigbnlhhikjaaDoor
