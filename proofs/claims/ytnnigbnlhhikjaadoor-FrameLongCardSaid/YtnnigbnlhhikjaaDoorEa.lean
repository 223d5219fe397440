/- Values as data: what a value of memory stands for (V), what is owned and may still be written (Ent), and what outlasts every step. No statement of the program. -/
import Derived.Test.YtnnigbnlhhikjaaDoorRows
import Derived.WalkKit
import Derived.Orders
import Derived.Calls
import Derived.Below
import Derived.Laws.World
import Derived.Laws.Rows
import Derived.Laws.AppendOwn
namespace Go.Proofs.YtnnigbnlhhikjaaDoor
open Go.RowKit
set_option linter.unusedSimpArgs false
set_option linter.unusedVariables false

/-- What a value stands for. -/
inductive V where
  | any
  | bool (b : Bool)
  | int (k : IntKind) (n : Int)
  | str (s : List UInt8)
  | raw (v : Value)
  | sl (l : List V)
  | gs (v : Value) (l : List V)
  | sp (cs : List V)
  | agg (cs : List V)
  | tup (vs : List V)
  | fn (f : Fn) (first captured : List V)
  | ar (v : Value) (n : Nat)
  | ep (v : Value) (k : Nat)
  deriving Inhabited

/-- The k-th cell of a value. -/
def V.cell : V → Nat → V
  | .agg cs, k => cs.getD k .any
  | v, 0 => v
  | _, _ => .any
/-- How many cells. -/
def V.n : V → Nat
  | .agg cs => cs.length
  | _ => 1
def V.cs : V → List V
  | .agg cs => cs
  | v => [v]
def cellAt (w : World) (a : Addr) : Value := (w.cell? a).getD undef
def bs (s : List UInt8) : ByteArray := ⟨s.toArray⟩

/-- The value v of the world w stands for the datum d; the cells of S stay as they are. -/
inductive R (S : Addr → Prop) (w : World) : Value → V → Prop
  | any (v) : R S w v .any
  | bool (b) : R S w (.bool b) (.bool b)
  | int (k n) : R S w (.int k n) (.int k n)
  | str (s) : R S w (.string (bs s)) (.str s)
  | raw (v) : R S w v (.raw v)
  | sl (a : Option Addr) (n cap : Nat) (l : List V) (sz : Nat) (hn : n = l.length) (hc : n ≤ cap) (ha : a = none → l = [])
      (h1 : ∀ b, a = some b → l ≠ [] → b.spot = none) (h2 : ∀ i, i < l.length → (l.getD i .any).n = sz) (h3 : ∀ b i k, a = some b → i < l.length → k < sz → S ⟨b.block, b.off + i * sz + k, none⟩)
      (h4 : ∀ b i k, a = some b → i < l.length → k < sz → R S w (cellAt w ⟨b.block, b.off + i * sz + k, none⟩) ((l.getD i .any).cell k)) : R S w (.slice a n cap) (.sl l)
  | gs (v l) (h : R S w v (.sl l)) : R S w v (.gs v l)
  | sp (b : Addr) (cs : List V) (h1 : b.spot = none) (h3 : ∀ k, k < cs.length → S ⟨b.block, b.off + k, none⟩)
      (h4 : ∀ k, k < cs.length → R S w (cellAt w ⟨b.block, b.off + k, none⟩) (cs.getD k .any)) : R S w (.pointer (some b)) (.sp cs)
  | agg (xs : Array Value) (cs : List V) (hn : xs.size = cs.length) (h : ∀ k, k < cs.length → R S w (xs.getD k undef) (cs.getD k .any)) : R S w (.agg xs) (.agg cs)
  | tup (xs : Array Value) (cs : List V) (hn : xs.size = cs.length) (h : ∀ k, k < cs.length → R S w (xs.getD k undef) (cs.getD k .any)) : R S w (.tuple xs) (.tup cs)
  | fn (f) (xs ys : Array Value) (cs ds : List V) (hn : xs.size = cs.length) (h : ∀ k, k < cs.length → R S w (xs.getD k undef) (cs.getD k .any))
      (hm : ys.size = ds.length) (h' : ∀ k, k < ds.length → R S w (ys.getD k undef) (ds.getD k .any)) : R S w (.func f xs ys) (.fn f cs ds)
  | ar (a : Option Addr) (n cap : Nat) (hc : n ≤ cap) (ha : a = none → cap = 0) : R S w (.slice a n cap) (.ar (.slice a n cap) n)
  | ep (b : Addr) (n cap k : Nat) : R S w (.pointer (some (b.add k))) (.ep (.slice (some b) n cap) k)

theorem R.mono {S S' : Addr → Prop} {w w' : World} {v : Value} {d : V} (h : R S w v d) (hs : ∀ a, S a → S' a ∧ w'.cell? a = w.cell? a) : R S' w' v d := by
  have hc : ∀ a, S a → cellAt w' a = cellAt w a := fun a ha => by unfold cellAt; rw [(hs a ha).2]
  induction h with
  | any v => exact .any v
  | bool b => exact .bool b
  | int k n => exact .int k n
  | str s => exact .str s
  | raw v => exact .raw v
  | sl a n cap l sz hn hcp ha h1 h2 h3 h4 ih =>
    exact .sl a n cap l sz hn hcp ha h1 h2 (fun b i k hb hi hk => (hs _ (h3 b i k hb hi hk)).1) (fun b i k hb hi hk => by rw [hc _ (h3 b i k hb hi hk)]; exact ih b i k hb hi hk)
  | gs v l _ ih => exact .gs v l ih
  | sp b cs h1 h3 h4 ih => exact .sp b cs h1 (fun k hk => (hs _ (h3 k hk)).1) (fun k hk => by rw [hc _ (h3 k hk)]; exact ih k hk)
  | agg xs cs hn h ih => exact .agg xs cs hn ih
  | tup xs cs hn h ih => exact .tup xs cs hn ih
  | fn f xs ys cs ds hn h hm h' ih ih' => exact .fn f xs ys cs ds hn ih hm ih'
  | ar a n cap hc ha => exact .ar a n cap hc ha
  | ep b n cap k => exact .ep b n cap k

/-- What is owned: a whole block; what lies behind a slice's end, up to its capacity; a block that holds no cells (a map). -/
inductive Ent where
  | blk (b : Nat) (cs : List V)
  | tail (sz : Nat) (v : Value)
  | map (r : Nat) (m : List (V × V))
  | arr (sz : Nat) (v : Value) (cs : List V)
  | know (b : Nat) (cs : List V)
  | siter (r : Nat) (s : List UInt8) (pos : Nat)
  | miter (r : Nat) (m : Option Nat) (since : Nat) (seen : List Nat) (stepped : Nat)
abbrev Own := List Ent

def Ent.owns : Ent → Addr → Prop
  | .blk b _, a => a.block = b
  | .tail sz (.slice (some p) n cap), a => a.block = p.block ∧ p.off + n * sz ≤ a.off ∧ a.off < p.off + cap * sz
  | .tail _ _, _ => False
  | .map r _, a => a.block = r
  | .arr sz (.slice (some p) n cap) _, a => a.block = p.block ∧ p.off ≤ a.off ∧ a.off < p.off + cap * sz
  | .arr _ _ _, _ => False
  | .know _ _, _ => False
  | .siter r _ _, a => a.block = r
  | .miter r _ _ _ _, a => a.block = r

/-- The blocks that may turn. -/
def Ent.touches : Ent → Nat → Prop
  | .blk b _, k => k = b
  | .tail _ (.slice (some p) _ _), k => k = p.block
  | .tail _ _, _ => False
  | .map r _, k => k = r
  | .arr _ (.slice (some p) _ _) _, k => k = p.block
  | .arr _ _ _, _ => False
  | .know _ _, _ => False
  | .siter r _ _, k => k = r
  | .miter r _ _ _ _, k => k = r
theorem Ent.touch {e : Ent} {a : Addr} (h : e.owns a) : e.touches a.block := by
  unfold Ent.owns at h
  unfold Ent.touches
  split at h
  · exact h
  · exact h.1
  · exact h.elim
  · exact h
  · exact h.1
  · exact h.elim
  · exact h.elim
  · exact h
  · exact h
/-- No cell of this part of a block is frozen. -/
def free (fr : Nat × Nat) (_lo hi : Nat) : Prop := fr.1 = fr.2 ∨ hi ≤ fr.1
theorem free.at {fr : Nat × Nat} {lo hi : Nat} (h : free fr lo hi) (k : Nat) (_h1 : lo ≤ k) (h2 : k < hi) : ¬ (fr.1 ≤ k ∧ k < fr.2) := by
  unfold free at h; omega

/-- The cells that stay as they are. -/
def stable (w : World) (H : Own) (a : Addr) : Prop := (w.cell? a).isSome = true ∧ ∀ e ∈ H, ¬ e.owns a

def Ent.holds (S : Addr → Prop) (w : World) : Ent → Prop
  | .blk b cs => ∃ xs T fr, w.heap[b]? = some (.cells xs T fr) ∧ free fr 0 xs.size ∧ xs.size = cs.length ∧ ∀ k, k < cs.length → R S w (xs.getD k undef) (cs.getD k .any)
  | .tail sz (.slice (some p) n cap) => p.spot = none ∧ n ≤ cap ∧ ∃ xs T fr, w.heap[p.block]? = some (.cells xs T fr) ∧ free fr (p.off + n * sz) (p.off + cap * sz) ∧ p.off + cap * sz ≤ xs.size
  | .tail _ (.slice none n cap) => n = 0 ∧ cap = 0
  | .tail _ _ => False
  | .map r m => ∃ es : Array MapEntry, ∃ clock, w.heap[r]? = some (.map es clock) ∧ es.size = m.length ∧
      (∀ k, k < m.length → R S w (es.getD k default).key (m.getD k (.any, .any)).1 ∧ R S w (es.getD k default).val (m.getD k (.any, .any)).2) ∧
      (∀ i j, i < j → j < es.size → (es.getD i default).born < (es.getD j default).born) ∧ ∀ i, i < es.size → (es.getD i default).born < clock
  | .arr sz (.slice (some p) n cap) cs => p.spot = none ∧ n ≤ cap ∧ cs.length = n * sz ∧ ∃ xs T fr, w.heap[p.block]? = some (.cells xs T fr) ∧ free fr p.off (p.off + cap * sz) ∧ p.off + cap * sz ≤ xs.size ∧ ∀ k, k < cs.length → R S w (xs.getD (p.off + k) undef) (cs.getD k .any)
  | .arr _ (.slice none n cap) cs => n = 0 ∧ cap = 0 ∧ cs = []
  | .arr _ _ _ => False
  | .know b cs => ∀ k, k < cs.length → S ⟨b, k, none⟩ ∧ R S w (cellAt w ⟨b, k, none⟩) (cs.getD k .any)
  | .siter r s pos => w.heap[r]? = some (.stringIter (bs s) pos)
  | .miter r m since seen st => w.heap[r]? = some (.mapIter m since seen.toArray st)

theorem Ent.holds_mono {S S' : Addr → Prop} {w w' : World} {e : Ent} (h : e.holds S w) (hs : ∀ a, S a → S' a ∧ w'.cell? a = w.cell? a)
    (hb : ∀ b, e.touches b → w'.heap[b]? = w.heap[b]?) : e.holds S' w' := by
  cases e with
  | blk b cs =>
    obtain ⟨xs, T, fr, h1, h2, h3, h4⟩ := h
    exact ⟨xs, T, fr, (hb b rfl).trans h1, h2, h3, fun k hk => (h4 k hk).mono hs⟩
  | tail sz v =>
    cases v with
    | slice a n cap =>
      cases a with
      | none => exact h
      | some p =>
        obtain ⟨h1, h2, xs, T, fr, h3, h4⟩ := h
        exact ⟨h1, h2, xs, T, fr, (hb p.block rfl).trans h3, h4⟩
    | _ => exact h
  | map r m =>
    obtain ⟨es, c, h1, h2, h3, h4⟩ := h
    exact ⟨es, c, (hb r rfl).trans h1, h2, fun k hk => ⟨((h3 k hk).1).mono hs, ((h3 k hk).2).mono hs⟩, h4⟩
  | arr sz v cs =>
    cases v with
    | slice a n cap =>
      cases a with
      | none => exact h
      | some p =>
        obtain ⟨h1, h2, h3, xs, T, fr, g1, g2, g3, g4⟩ := h
        exact ⟨h1, h2, h3, xs, T, fr, (hb p.block rfl).trans g1, g2, g3, fun k hk => (g4 k hk).mono hs⟩
    | _ => exact h
  | know b cs => exact fun k hk => ⟨(hs _ (h k hk).1).1, by rw [cellAt, (hs _ (h k hk).1).2]; exact (h k hk).2.mono hs⟩
  | siter r s pos => exact (hb r rfl).trans h
  | miter r m since seen st => exact (hb r rfl).trans h

/-- The world w, with what is owned. -/
structure Sim (w : World) (H : Own) : Prop where
  holds : ∀ e ∈ H, e.holds (stable w H) w
  disj : H.Pairwise (fun e f => ∀ a, e.owns a → ¬ f.owns a)
  apart : H.Pairwise (fun e f => ∀ b, e.touches b → ¬ f.touches b)

/-- What every step keeps. -/
structure Ext (w : World) (H : Own) (w' : World) (H' : Own) : Prop where
  os : w'.os = w.os
  tape : w'.tape = w.tape
  output : w'.output = w.output
  size : w.heap.size ≤ w'.heap.size
  cells : ∀ a, stable w H a → stable w' H' a ∧ w'.cell? a = w.cell? a
  full : ∀ b, b < w.heap.size → (∀ e ∈ H, ¬ e.touches b) → w'.heap[b]? = w.heap[b]? ∧ ∀ e ∈ H', ¬ e.touches b

theorem Ext.refl (w : World) (H : Own) : Ext w H w H := ⟨rfl, rfl, rfl, Nat.le_refl _, fun _ h => ⟨h, rfl⟩, fun _ _ h => ⟨rfl, h⟩⟩
theorem Ext.trans {w w1 w2 : World} {H H1 H2 : Own} (h : Ext w H w1 H1) (k : Ext w1 H1 w2 H2) : Ext w H w2 H2 :=
  ⟨k.os.trans h.os, k.tape.trans h.tape, k.output.trans h.output, Nat.le_trans h.size k.size,
    fun a ha => let ⟨s, c⟩ := h.cells a ha; let ⟨s', c'⟩ := k.cells a s; ⟨s', c'.trans c⟩,
    fun b hb hn => let ⟨s, c⟩ := h.full b hb hn; let ⟨s', c'⟩ := k.full b (Nat.lt_of_lt_of_le hb h.size) c; ⟨s'.trans s, c'⟩⟩
theorem Ext.rel {w w' : World} {H H' : Own} (h : Ext w H w' H') {v : Value} {d : V} (r : R (stable w H) w v d) : R (stable w' H') w' v d := r.mono h.cells
theorem Ext.below {w w' : World} {H' : Own} (h : Ext w [] w' H') : Below w.heap.size w w' := ⟨h.os, h.tape, h.output, h.size, fun b hb => (h.full b hb (by simp)).1⟩

theorem stable.lt {w : World} {H : Own} {a : Addr} (h : stable w H a) : a.block < w.heap.size := by
  obtain ⟨v, hv⟩ := Option.isSome_iff_exists.1 h.1
  exact World.block_lt_of_cell? w a hv

/-- What is owned may be let go. -/
theorem stable.drop {w : World} {H H' : Own} (hs : ∀ e ∈ H', e ∈ H) {a : Addr} (h : stable w H a) : stable w H' a := ⟨h.1, fun e he => h.2 e (hs e he)⟩
theorem Ext.drop {w : World} {H H' : Own} (hs : ∀ e ∈ H', e ∈ H) : Ext w H w H' :=
  ⟨rfl, rfl, rfl, Nat.le_refl _, fun _ h => ⟨h.drop hs, rfl⟩, fun _ _ h => ⟨rfl, fun e he => h e (hs e he)⟩⟩
theorem Sim.drop {w : World} {H H' : Own} (h : Sim w H) (hs : H'.Sublist H) : Sim w H' where
  holds e he := by
    exact Ent.holds_mono (h.holds e (hs.subset he)) (fun a ha => ⟨ha.drop fun e he => hs.subset he, rfl⟩) (fun _ _ => rfl)
  disj := h.disj.sublist hs
  apart := h.apart.sublist hs

/-- The i-th slot of a frame. -/
abbrev Env := List (Nat × V)
def get : Env → Nat → V
  | [], _ => .any
  | (k, v) :: e, t => if t = k then v else get e t
def put : Env → Nat → V → Env
  | [], t, x => [(t, x)]
  | (k, v) :: e, t, x => if t = k then (k, x) :: e else (k, v) :: put e t x
theorem get_put_same : ∀ (e : Env) (t : Nat) (x : V), get (put e t x) t = x
  | [], t, x => by simp [put, get]
  | (k, v) :: e, t, x => by
    unfold put
    split
    · rename_i h; subst h; simp [get]
    · rename_i h; simp only [get, if_neg h]; exact get_put_same e t x
theorem get_put_ne : ∀ (e : Env) (t u : Nat) (x : V), u ≠ t → get (put e t x) u = get e u
  | [], t, u, x, h => by simp [put, get, h]
  | (k, v) :: e, t, u, x, h => by
    unfold put
    split
    · rename_i h'; subst h'; simp [get, h]
    · simp only [get]; rw [get_put_ne e t u x h]

/-- A constant's datum. -/
def ofConst1 : Value → V
  | .bool b => .bool b
  | .int k n => .int k n
  | .string s => .str s.data.toList
  | .slice none 0 0 => .gs (.slice none 0 0) []
  | v => .raw v
def ofConst : Value → V
  | .agg cs => .agg (cs.toList.map ofConst1)
  | v => ofConst1 v
/-- What an operand stands for. -/
def opd (e : Env) : Operand → V
  | .tmp t => get e t
  | .const v => ofConst v
  | .global g => .raw (.pointer (some ⟨g, 0, none⟩))
  | .func f => .fn (.func f) [] []

theorem R.nil (S : Addr → Prop) (w : World) : R S w (.slice none 0 0) (.gs (.slice none 0 0) []) :=
  .gs _ _ (.sl none 0 0 [] 0 rfl (Nat.le_refl _) (fun _ => rfl) (fun _ h _ => nomatch h) (fun _ h => absurd h (Nat.not_lt_zero _)) (fun _ _ _ h => nomatch h) (fun _ _ _ h => nomatch h))
/-- What an operation that is not carried out leaves. -/
theorem R.skipped (S : Addr → Prop) (w : World) : R S w undef (.tup []) := .tup #[] [] rfl (fun _ h => absurd h (Nat.not_lt_zero _))
theorem R.const1 (S : Addr → Prop) (w : World) (v : Value) : R S w v (ofConst1 v) := by
  unfold ofConst1
  split
  · exact .bool _
  · exact .int _ _
  · rename_i s
    have : s = bs s.data.toList := by cases s; rfl
    exact this ▸ .str _
  · exact R.nil S w
  · exact .raw _
theorem R.const (S : Addr → Prop) (w : World) (v : Value) : R S w v (ofConst v) := by
  unfold ofConst
  split
  · rename_i cs
    refine .agg _ _ (by simp) (fun k hk => ?_)
    have hk' : k < cs.size := by simpa using hk
    have := R.const1 S w cs[k]
    simpa [Array.getD_eq_getD_getElem?, hk', List.getD_eq_getElem?_getD] using this
  · exact R.const1 S w v
/-- The frame a stands for e. -/
structure RE (n : Nat) (w : World) (H : Own) (tmps : Array Value) (e : Env) : Prop where
  size : tmps.size = n
  slot : ∀ t, R (stable w H) w (tmps.getD t undef) (get e t)
theorem RE.opd {n : Nat} {w : World} {H : Own} {a : Act} {e : Env} (h : RE n w H a.tmps e) (x : Operand) : R (stable w H) w (a.eval x) (opd e x) := by
  cases x with
  | tmp t => exact h.slot t
  | const v => exact R.const _ _ v
  | global g => exact .raw _
  | func f => exact .fn _ _ _ _ _ rfl (fun _ h => absurd h (Nat.not_lt_zero _)) rfl (fun _ h => absurd h (Nat.not_lt_zero _))
theorem RE.ext {n : Nat} {w w' : World} {H H' : Own} {tmps : Array Value} {e : Env} (h : RE n w H tmps e) (x : Ext w H w' H') : RE n w' H' tmps e := ⟨h.size, fun t => x.rel (h.slot t)⟩
theorem RE.put {n : Nat} {w : World} {H : Own} {a : Act} {e : Env} (h : RE n w H a.tmps e) {t : Nat} (ht : t < n) {v : Value} {d : V} (r : R (stable w H) w v d) : RE n w H (a.put (some t) v).tmps (put e t d) where
  size := by simpa [Act.put] using h.size
  slot u := by
    by_cases hu : u = t
    · subst hu
      have : (a.put (some u) v).tmps.getD u undef = v := by
        have := h.size; simp [Act.put, Array.getD_eq_getD_getElem?, Array.getElem?_setIfInBounds, this, ht]
      rw [this, get_put_same]; exact r
    · have : (a.put (some t) v).tmps.getD u undef = a.tmps.getD u undef := by
        simp [Act.put, Array.getD_eq_getD_getElem?, Array.getElem?_setIfInBounds, Ne.symm hu]
      rw [this, get_put_ne _ _ _ _ hu]; exact h.slot u
/-- Slots may be forgotten. -/
theorem RE.weak {n : Nat} {w : World} {H : Own} {tmps : Array Value} {e e' : Env} (h : RE n w H tmps e) (hw : ∀ t, get e' t = get e t ∨ get e' t = .any) : RE n w H tmps e' :=
  ⟨h.size, fun t => by
    rcases hw t with h' | h'
    · rw [h']; exact h.slot t
    · rw [h']; exact .any _⟩
end Go.Proofs.YtnnigbnlhhikjaaDoor
