/- A law whose row lists tables, and whose program asks what a variable of the library holds: what is known of them stands in the frame. No statement of the program. -/
import Derived.Test.YtfamfamgopchnaaGreatDoorPtfx
import Derived.Test.YtfamfamgopchnaaGreatDoorSsx
import Derived.Lib.LaidU8
import Derived.Handed
import Derived.Test.YtfamfamgopchnaaGreatDoorRows
import Derived.WalkKit
import Derived.WalkSpells
import Derived.WalkLawsBesides
import Derived.BigQuiet
import Derived.Deep.QuietTactic
import Derived.Deep.RegionHeld3
import Derived.Deep.DeepCutAuto
import Derived.Deep.Draws
import Derived.Lib.Hide
import Derived.Lib.MinMax
import Derived.Lib.QuietBelow
import Derived.ProofKit
import Derived.OpenShut
import Derived.ShutString
import Derived.ChangeOld
import Derived.Below
import Derived.Lib.SmallJoins
import Derived.Deep.AppendLies
import Derived.Deep.RegionWith
import Derived.Maps.AppendAt
import Derived.Deep.Slices
import Derived.Deep.Fields
import Derived.Deep.Strs
import Derived.Laws.OwnMore
import Derived.Laws.Rows
import Derived.Laws.BitsAllLaws
import Derived.Laws.BitsLemmas
import Derived.Laws.ResultCell
import Derived.OwnWalk
import Derived.ChangeSame
import Derived.PlainAid
import Derived.Test.YtfamfamgopchnaaGreatDoorEf
namespace Go.Proofs.YtfamfamgopchnaaGreatDoor
open Go.RowKit Go.ChangeShapes Go.WideShapes Go.Deep
set_option linter.unusedSimpArgs false
set_option linter.unusedVariables false
set_option linter.unusedSectionVars false

theorem know_of {w : World} {H : Own} {b : Nat} {cs : List V} (hs : Sim w H) (hno : ∀ e ∈ H, ∀ a, ¬ e.owns a) (vs : Nat → Value) (h : ∀ k, k < cs.length → w.cell? ⟨b, k, none⟩ = some (vs k) ∧ ∀ S, R S w (vs k) (cs.getD k .any)) :
    Sim w (.know b cs :: H) ∧ Ext w H w (.know b cs :: H) :=
  hs.add (e1 := .know b cs) rfl rfl rfl (Nat.le_refl _) (fun _ _ => rfl) (fun _ h => h.elim) fun _ => fun k hk => by
    obtain ⟨h1, h2⟩ := h k hk
    refine ⟨⟨by rw [h1]; rfl, fun e he ha => ?_⟩, ?_⟩
    · rcases List.mem_cons.1 he with rfl | he
      · exact ha.elim
      · exact hno e he _ ha
    · unfold cellAt; rw [h1]; exact h2 _
theorem acc_at : ∀ i, i < 16 → accC.getD (2 * i) .any = .int .u8 (Go.Lib.accLo i) ∧ accC.getD (2 * i + 1) .any = .int .u8 (Go.Lib.accHi i)
  | 0, _ => ⟨rfl, rfl⟩ | 1, _ => ⟨rfl, rfl⟩ | 2, _ => ⟨rfl, rfl⟩ | 3, _ => ⟨rfl, rfl⟩ | 4, _ => ⟨rfl, rfl⟩ | 5, _ => ⟨rfl, rfl⟩ | 6, _ => ⟨rfl, rfl⟩ | 7, _ => ⟨rfl, rfl⟩
  | 8, _ => ⟨rfl, rfl⟩ | 9, _ => ⟨rfl, rfl⟩ | 10, _ => ⟨rfl, rfl⟩ | 11, _ => ⟨rfl, rfl⟩ | 12, _ => ⟨rfl, rfl⟩ | 13, _ => ⟨rfl, rfl⟩ | 14, _ => ⟨rfl, rfl⟩ | 15, _ => ⟨rfl, rfl⟩
  | n + 16, h => absurd h (by omega)
/-- What a law knows when it begins: the two tables and the variable. -/
theorem known_sim {w : World} {m : Int} (ht : Go.Lib.Utf8Tabs 0 1 w) (hm : w.cell? ⟨2, 0, none⟩ = some (.int .i64 m)) :
    Sim w [knF, knA, .know 2 [.int .i64 m]] ∧ Ext w [] w [knF, knA, .know 2 [.int .i64 m]] := by
  have h0 : Sim w [] := ⟨(fun _ h => nomatch h), List.Pairwise.nil, List.Pairwise.nil⟩
  obtain ⟨s1, x1⟩ := know_of (b := 2) (cs := [.int .i64 m]) h0 (fun e he => nomatch he) (fun _ => .int .i64 m) (fun k hk => by
    have hk0 : k = 0 := by simpa using hk
    subst hk0
    exact ⟨hm, fun S => .int _ _⟩)
  obtain ⟨s2, x2⟩ := know_of (b := 1) (cs := accC) s1 (fun e he a ha => by
    rcases List.mem_singleton.1 he with rfl
    exact ha.elim) (fun k => if k % 2 = 0 then .int .u8 (Go.Lib.accLo (k / 2)) else .int .u8 (Go.Lib.accHi (k / 2))) (fun k hk => by
    have hk : k < 32 := by simpa [acc_len] using hk
    obtain ⟨q1, q2⟩ := ht.2 (k / 2) (by omega)
    obtain ⟨a1, a2⟩ := acc_at (k / 2) (by omega)
    by_cases he : k % 2 = 0
    · have e : 2 * (k / 2) = k := by omega
      rw [e] at q1 a1
      refine ⟨by rw [if_pos he]; exact q1, fun S => ?_⟩
      rw [if_pos he, a1]; exact .int _ _
    · have e : 2 * (k / 2) + 1 = k := by omega
      rw [e] at q2 a2
      refine ⟨by rw [if_neg he]; exact q2, fun S => ?_⟩
      rw [if_neg he, a2]; exact .int _ _)
  obtain ⟨s3, x3⟩ := know_of (b := 0) (cs := firstC) s2 (fun e he a ha => by
    rcases List.mem_cons.1 he with rfl | he
    · exact ha.elim
    · rcases List.mem_singleton.1 he with rfl
      exact ha.elim) (fun k => .int .u8 (Go.Lib.firstT k)) (fun k hk => by
    have hk : k < 256 := by rw [first_len] at hk; exact hk
    refine ⟨ht.1 k hk, fun S => ?_⟩
    have e : firstC.getD k .any = .int .u8 (Go.Lib.firstT k) := by
      unfold firstC
      rw [List.getD_eq_getElem?_getD, List.getElem?_map, List.getElem?_range hk]; rfl
    rw [e]; exact .int _ _)
  exact ⟨s3, (x1.trans x2).trans x3⟩
/-- A law's contract where something is known when it begins. -/
theorem DC.lawK {P : Program} {f : FuncId} {args : List V} {K0 : Own} {xs : Array Value} {w : World} (h : DC P f args K0 fun d H' => d = .bool true ∧ H' = K0) (hK : Sim w K0 ∧ Ext w [] w K0) (hn : xs.size = args.length) (hr : ∀ k, k < args.length → R (stable w []) w (xs.getD k undef) (args.getD k .any)) :
    Calls P f xs w fun e w' => e = .returned (.bool true) ∧ Below w.heap.size w w' :=
  (h.2 xs w hK.1 hn fun k hk => hK.2.rel (hr k hk)).mono fun e w' ⟨v, d, H', he, s, x, r, hd, hH⟩ => by
    subst hd
    subst hH
    cases r
    exact ⟨he, (hK.2.trans x).below⟩
end Go.Proofs.YtfamfamgopchnaaGreatDoor
/- Plain lemmas on memory that the proofs of this seat share: blocks known whole, worlds of which one block has turned, slices that read as lists. No statement of the program. -/
namespace Go.Proofs.YtfamfamgopchnaaGreatDoor
open Go.RowKit

@[go_sem high] theorem run_max_ints3 {P : Program} (w : World) (ts : Array TypeId) (t : TypeId) (k k' k'' : IntKind) (x y z : Int) :
    (Builtin.max_ ts t #[.int k x, .int k' y, .int k'' z]).run P w = .ok (.int k (max (max x y) z)) w := by
  have e : ∀ x y : Int, (if y > x then y else x) = max x y := fun x y => by
    rw [Int.max_def]
    split <;> split <;> omega
  simp [Builtin.max_, Builtin.max2, e]

def Blk (w : World) (g : Nat) (t : TypeId) (cs : Array Value) : Prop := w.heap[g]? = some (.cells cs t (0, 0))

section
variable {w w' : World} {g : Nat} {t : TypeId} {cs : Array Value}
theorem Blk.lt (h : Blk w g t cs) : g < w.heap.size := by
  rcases Nat.lt_or_ge g w.heap.size with hlt | hge
  · exact hlt
  · unfold Blk at h; rw [Array.getElem?_eq_none hge] at h; cases h
theorem Blk.cell (h : Blk w g t cs) (i : Nat) : w.cell? ⟨g, i, none⟩ = cs[i]? := cell_of_row w g i cs t (0, 0) h
theorem Blk.frozen (h : Blk w g t cs) (i : Nat) : w.frozen? ⟨g, i, none⟩ = false := by
  unfold Blk at h
  simp [World.frozen?, h]
theorem Blk.new (w : World) (t : TypeId) (cs : Array Value) : Blk (w.alloc (.cells cs t)) w.heap.size t cs := heap_alloc_new w _
theorem Blk.drew (h : Blk w g t cs) : Blk w.drew g t cs := h
theorem Blk.drewN (h : Blk w g t cs) (n : Nat) : Blk (w.drewN n) g t cs := h
theorem Blk.alloc (h : Blk w g t cs) (o : Obj) : Blk (w.alloc o) g t cs := (Below.heap_alloc w o g h.lt).trans h
theorem Blk.set_ (h : Blk w g t cs) (i : Nat) (u : Value) : Blk (w.setCell ⟨g, i, none⟩ u) g t (cs.setIfInBounds i u) := by
  unfold Blk at h ⊢
  simp [World.setCell, Array.getElem?_modify, h]
theorem Blk.far (h : Blk w g t cs) {p : Addr} (hp : g ≠ p.block) (u : Value) : Blk (w.setCell p u) g t cs := (Below.heap_setCell w p u g hp).trans h
theorem Blk.below {B : Nat} (h : Blk w g t cs) (hb : Below B w w') (hg : g < B) : Blk w' g t cs := (hb.block g hg).trans h
theorem Blk.grown {row : Option Nat} (h : Blk w g t cs) (hb : w.grownBy w' row) (hg : some g ≠ row) : Blk w' g t cs := (hb.block g h.lt hg).trans h
theorem Blk.ne_ {g' : Nat} {t' : TypeId} {cs' : Array Value} (h : Blk w g t cs) (h' : Blk w g' t' cs') (hne : t ≠ t') : g ≠ g' := by
  rintro rfl
  unfold Blk at h h'
  rw [h] at h'
  injection h' with h'
  injection h' with _ ht
  exact hne ht
end

theorem Blk.set3 {w : World} {g : Nat} {t : TypeId} {x y z : Value} (h : Blk w g t #[x, y, z]) (a b c : Value) : Blk (((w.setCell ⟨g, 0, none⟩ a).setCell ⟨g, 1, none⟩ b).setCell ⟨g, 2, none⟩ c) g t #[a, b, c] := by
  simpa using ((h.set_ 0 a).set_ 1 b).set_ 2 c
theorem Blk.far3 {w : World} {q g : Nat} {t : TypeId} {cs : Array Value} (h : Blk w q t cs) (hne : q ≠ g) (a b c : Value) : Blk (((w.setCell ⟨g, 0, none⟩ a).setCell ⟨g, 1, none⟩ b).setCell ⟨g, 2, none⟩ c) q t cs :=
  ((h.far hne a).far hne b).far hne c
theorem quietS {P : Program} {f : FuncId} {args : Array Value} {w : World} {n : Nat} {v : Value}
    (h : Calls P f args (w.drewN n) fun e w' => e = .returned v ∧ w.drewN n = w') : Calls P f args (w.drewN n) fun e w'' => e = .returned v ∧ ∃ m, w'' = w.drewN m :=
  h.mono fun _ _ ⟨he, hw⟩ => ⟨he, n, hw.symm⟩

theorem quietA {P : Program} {f : FuncId} {args : Array Value} {w : World} {a n : Nat} {v : Value}
    (h : Calls P f args (w.drewN (a + n)) fun e w' => e = .returned v ∧ w.drewN (a + n) = w') : Calls P f args (w.drewN (a + n)) fun e w'' => e = .returned v ∧ ∃ m, w'' = w.drewN (a + m) :=
  h.mono fun _ _ ⟨he, hm⟩ => ⟨he, n, hm.symm⟩

/-- Only block g has turned, and what is new. -/
def Only (g : Nat) (a w : World) : Prop := a.grownBy w (some g)
section
variable {a b w : World} {g : Nat}
theorem Only.refl (g : Nat) (a : World) : Only g a a := World.grownBy.refl a _
theorem Only.trans (h : Only g a b) (k : Only g b w) : Only g a w :=
  ⟨k.os.trans h.os, k.tape.trans h.tape, k.output.trans h.output, Nat.le_trans h.size k.size, fun i hi hne => (k.block i (Nat.lt_of_lt_of_le hi h.size) hne).trans (h.block i hi hne)⟩
theorem Only.drewN (h : Only g a w) (n : Nat) : Only g a (w.drewN n) := ⟨h.os, h.tape, h.output, h.size, h.block⟩
theorem Only.drew (h : Only g a w) : Only g a w.drew := ⟨h.os, h.tape, h.output, h.size, h.block⟩
theorem Only.alloc (h : Only g a w) (o : Obj) : Only g a (w.alloc o) :=
  ⟨h.os, h.tape, h.output, Nat.le_trans h.size (by simp), fun i hi hne => (Below.heap_alloc w o i (Nat.lt_of_lt_of_le hi h.size)).trans (h.block i hi hne)⟩
theorem Only.setCell (h : Only g a w) {p : Addr} (hp : p.block = g ∨ a.heap.size ≤ p.block) (u : Value) : Only g a (w.setCell p u) :=
  ⟨h.os, h.tape, h.output, by simpa [World.setCell] using h.size, fun i hi hne => (Below.heap_setCell w p u i (by
    rintro rfl
    rcases hp with hp | hp
    · exact hne (by rw [hp])
    · omega)).trans (h.block i hi hne)⟩
theorem Only.self_ (h : Only g a w) (i : Nat) (u : Value) : Only g a (w.setCell ⟨g, i, none⟩ u) := h.setCell (.inl rfl) u
theorem Only.new_ (h : Only g a w) {q : Nat} (hq : a.heap.size ≤ q) (i : Nat) (u : Value) : Only g a (w.setCell ⟨q, i, none⟩ u) := h.setCell (.inr hq) u
theorem Only.of_below (h : Below a.heap.size a w) (g : Nat) : Only g a w := ⟨h.os, h.tape, h.output, h.size, fun i hi _ => h.block i hi⟩
theorem Only.below {B : Nat} (h : Only g a w) (hB : B ≤ a.heap.size) (hg : B ≤ g) : Below B a w := ⟨h.os, h.tape, h.output, h.size, fun i hi => h.block i (by omega) (by intro e; injection e with e; omega)⟩
theorem Only.cell (h : Only g a w) {q i : Nat} (hq : q < a.heap.size) (hne : q ≠ g) : w.cell? ⟨q, i, none⟩ = a.cell? ⟨q, i, none⟩ :=
  World.cell?_of_block (h.block q hq (by intro e; injection e with e; exact hne e))
theorem Only.blk (h : Only g a w) {q : Nat} {t : TypeId} {cs : Array Value} (hb : Blk a q t cs) (hne : q ≠ g) : Blk w q t cs :=
  hb.grown h (by intro e; injection e with e; exact hne e)
end
theorem below_drewN {B : Nat} {a w : World} (h : Below B a w) (n : Nat) : Below B a (w.drewN n) := ⟨h.os, h.tape, h.output, h.size, h.block⟩
theorem bthen {w a b : World} (h : Below w.heap.size w a) (k : Below a.heap.size a b) : Below w.heap.size w b := h.trans (k.mono h.size)
theorem bcell {W w1 : World} (hb : Below W.heap.size W w1) : (∀ b o, b < W.heap.size → w1.cell? ⟨b, o, none⟩ = W.cell? ⟨b, o, none⟩) ∧ (∀ b o, b < W.heap.size → w1.frozen? ⟨b, o, none⟩ = W.frozen? ⟨b, o, none⟩) :=
  ⟨fun b o h => hb.cell (p := ⟨b, o, none⟩) h, fun b o h => hb.frozen (p := ⟨b, o, none⟩) h⟩
theorem Below.blk {W w1 : World} {q : Nat} {t : TypeId} {cs : Array Value} (hb : Below W.heap.size W w1) (h : Blk W q t cs) : Blk w1 q t cs := h.below hb h.lt
end Go.Proofs.YtfamfamgopchnaaGreatDoor
namespace Go.Proofs.YtfamfamgopchnaaGreatDoor
open Go.RowKit Go.ChangeShapes Go.WideShapes Go.Deep
set_option linter.unusedVariables false

/-- The leaves of a type (all that is no struct), with their places. -/
def leavesB (P : Program) : Nat → TypeId → List (Nat × TypeId)
  | 0, t => [(0, t)]
  | f + 1, t => match P.underlying t with
    | some (.struct fs) => fs.toList.flatMap fun fd => if fd.offset + P.cellsOf fd.type ≤ P.cellsOf t then (leavesB P f fd.type).map fun x => (fd.offset + x.1, x.2) else []
    | _ => [(0, t)]

section
variable {H : Type} {enc : TypeId × Value → H} {P : Program} {w : World} {base : Nat} {spare : Nat → Bool} {held : Bool}
theorem leaf_of : ∀ (f : Nat) {t : TypeId} {n : Nat} {cs : List Value} {x : DataW H × List MemPlace}, DataW.trod enc P w base spare held n t cs = some x → cs.length = P.cellsOf t →
    ∀ ol ∈ leavesB P f t, ol.1 + P.cellsOf ol.2 ≤ cs.length ∧ ∃ n' y, DataW.trod enc P w base spare held n' ol.2 ((cs.drop ol.1).take (P.cellsOf ol.2)) = some y
  | 0, t, n, cs, x, h, hl, ol, hm => by
    simp only [leavesB, List.mem_singleton] at hm
    subst hm
    exact ⟨by simp [hl], n, x, by rw [← hl]; simpa using h⟩
  | f + 1, t, n, cs, x, h, hl, ol, hm => by
    have plain : ol = (0, t) → ol.1 + P.cellsOf ol.2 ≤ cs.length ∧ ∃ n' y, DataW.trod enc P w base spare held n' ol.2 ((cs.drop ol.1).take (P.cellsOf ol.2)) = some y := fun e => by
      subst e
      exact ⟨by simp [hl], n, x, by rw [← hl]; simpa using h⟩
    unfold leavesB at hm
    split at hm
    · rename_i fs hu
      obtain ⟨fd, hfd, hm2⟩ := List.mem_flatMap.1 hm
      by_cases hle : fd.offset + P.cellsOf fd.type ≤ P.cellsOf t
      · rw [if_pos hle] at hm2
        obtain ⟨x2, hx2, rfl⟩ := List.mem_map.1 hm2
        obtain ⟨ys, n2, _, _, _, hyl, hf⟩ := DataW.trod_struct hu h
        obtain ⟨i, hi, he⟩ := List.getElem_of_mem hfd
        have hi' : fs[i]? = some fd := by
          rw [← he, ← Array.getElem?_toList]
          exact List.getElem?_eq_getElem hi
        have h1 := hf i fd hi'
        have hyi : i < ys.length := by rw [hyl]; simpa using hi
        rw [List.getElem?_eq_getElem hyi] at h1
        have hl2 : ((cs.drop fd.offset).take (P.cellsOf fd.type)).length = P.cellsOf fd.type := by simp; omega
        obtain ⟨g1, n3, y3, g2⟩ := leaf_of f h1 hl2 x2 hx2
        rw [hl2] at g1
        refine ⟨by simp only; omega, n3, y3, ?_⟩
        rw [← g2]
        congr 1
        rw [List.drop_take, List.take_take, List.drop_drop, Nat.min_eq_left (by omega)]
      · rw [if_neg hle] at hm2
        cases hm2
    · exact plain (by simpa using hm)
theorem leaf_at {t : TypeId} {n : Nat} {cs : List Value} {x : DataW H × List MemPlace} (h : DataW.trod enc P w base spare held n t cs = some x) (hl : cs.length = P.cellsOf t) (f i o : Nat) (lt : TypeId) (hi : (leavesB P f t)[i]? = some (o, lt)) (h1 : P.cellsOf lt = 1) :
    ∃ v n' y, cs[o]? = some v ∧ DataW.trod enc P w base spare held n' lt [v] = some y := by
  obtain ⟨g1, n', y, g2⟩ := leaf_of f h hl (o, lt) (List.mem_of_getElem? hi)
  simp only [h1] at g1 g2
  have ho : o < cs.length := by omega
  refine ⟨cs[o], n', y, List.getElem?_eq_getElem ho, ?_⟩
  rw [← g2, List.drop_eq_getElem_cons ho]
  rfl
theorem int_at {t : TypeId} {n : Nat} {cs : List Value} {x : DataW H × List MemPlace} (h : DataW.trod enc P w base spare held n t cs = some x) (hl : cs.length = P.cellsOf t) (f i o : Nat) (lt : TypeId) (k : IntKind) (hi : (leavesB P f t)[i]? = some (o, lt)) (h1 : P.cellsOf lt = 1) (hu : P.underlying lt = some (.int k)) :
    ∃ a : Int, cs[o]? = some (.int k a) ∧ (Lit.int k a).wf = true := by
  obtain ⟨v, n', y, g1, g2⟩ := leaf_at h hl f i o lt hi h1
  obtain ⟨a, e, _, wf⟩ := DataW.trod_int hu g2
  simp at e
  subst e
  exact ⟨a, g1, wf⟩
theorem bool_at {t : TypeId} {n : Nat} {cs : List Value} {x : DataW H × List MemPlace} (h : DataW.trod enc P w base spare held n t cs = some x) (hl : cs.length = P.cellsOf t) (f i o : Nat) (lt : TypeId) (hi : (leavesB P f t)[i]? = some (o, lt)) (h1 : P.cellsOf lt = 1) (hu : P.underlying lt = some .bool) :
    ∃ a : Bool, cs[o]? = some (.bool a) := by
  obtain ⟨v, n', y, g1, g2⟩ := leaf_at h hl f i o lt hi h1
  obtain ⟨a, e, _⟩ := DataW.trod_bool hu g2
  simp at e
  subst e
  exact ⟨a, g1⟩
theorem string_at {t : TypeId} {n : Nat} {cs : List Value} {x : DataW H × List MemPlace} (h : DataW.trod enc P w base spare held n t cs = some x) (hl : cs.length = P.cellsOf t) (f i o : Nat) (lt : TypeId) (hi : (leavesB P f t)[i]? = some (o, lt)) (h1 : P.cellsOf lt = 1) (hu : P.underlying lt = some .string) :
    ∃ a : ByteArray, cs[o]? = some (.string a) ∧ a.size ≤ maxLen := by
  obtain ⟨v, n', y, g1, g2⟩ := leaf_at h hl f i o lt hi h1
  obtain ⟨a, e, _, hs⟩ := DataW.trod_string hu g2
  simp at e
  subst e
  exact ⟨a, g1, hs⟩

/-- A slice's elements: where they lie, and that each reads as its type. -/
structure Elems (enc : TypeId × Value → H) (P : Program) (w : World) (e : TypeId) (C : Nat) (A : Option Addr) (len cap : Nat) : Prop where
  le : len ≤ cap
  max : cap ≤ maxLen
  nil : A = none → len = 0
  at_ : ∀ i, i < len → ∃ (b off : Nat) (cs : List Value) (n : Nat) (y : DataW H × List MemPlace), A = some ⟨b, off, none⟩ ∧ b < w.heap.size ∧ cs.length = C ∧ (∀ o v, cs[o]? = some v → w.cell? ⟨b, off + i * C + o, none⟩ = some v) ∧ DataW.trod enc P w 0 (fun _ => true) true n e cs = some y

theorem elems_of_cell {t e : TypeId} {C : Nat} {n : Nat} {cs : List Value} {x : DataW H × List MemPlace} (ht : P.underlying t = some (.slice e)) (hC : P.cellsOf e = C) (hC0 : 0 < C) (h : DataW.trod enc P w 0 (fun _ => true) true n t cs = some x) :
    ∃ A len cap, cs = [.slice A len cap] ∧ Elems enc P w e C A len cap := by
  rcases open_slice ht h with ⟨rfl, _⟩ | ⟨a, len, cap, m, n', D, Pl, rfl, hb, hl, hm, hmm, _, hi⟩
  · exact ⟨none, 0, 0, rfl, ⟨Nat.le_refl _, Nat.zero_le _, fun _ => rfl, fun i h => absurd h (by omega)⟩⟩
  · refine ⟨some a, len, cap, rfl, ⟨hl, hm, fun h => (by cases h), fun i him => ?_⟩⟩
    have him' : i < m := by rw [hmm, if_pos rfl]; omega
    obtain ⟨cs', hc, ht'⟩ := hi i him'
    rw [hC] at hc
    obtain ⟨_, hcl, hat⟩ := World.cells?_some hc
    have h0 := hat 0 hC0
    rw [List.getElem?_eq_getElem (l := cs') (i := 0) (by omega)] at h0
    have hlt := World.block_lt_of_cell? w _ h0
    have hz : 0 < m := by omega
    obtain ⟨cz, hcz, _⟩ := hi 0 hz
    rw [hC] at hcz
    obtain ⟨_, hczl, hatz⟩ := World.cells?_some hcz
    have h0z := hatz 0 hC0
    rw [List.getElem?_eq_getElem (l := cz) (i := 0) (by omega)] at h0z
    have hsp := World.cell?_spot h0z
    obtain ⟨b, off, spot⟩ := a
    have hblk : ∀ (p : Addr) (k : Nat), (p.add k).block = p.block := fun p k => by unfold Addr.add; split <;> rfl
    rw [hblk, hblk] at hlt
    have hspot : spot = none := by simpa [Addr.add] using hsp
    subst hspot
    have hadd : ∀ k l : Nat, ((Addr.mk b off none).add k).add l = ⟨b, off + k + l, none⟩ := fun k l => by
      unfold Addr.add
      by_cases hk : k = 0 <;> by_cases hl : l = 0 <;> simp [hk, hl]
    refine ⟨b, off, cs', n', _, rfl, hlt, hcl, fun o v hv => ?_, ht'⟩
    have ho : o < C := by rw [← hcl]; exact (List.getElem?_eq_some_iff.1 hv).1
    have := hat o ho
    rw [hadd] at this
    rw [this, hv]
theorem elems_of {t e : TypeId} {C : Nat} {r : Reach} {b0 : Nat} {v : Value} {d : DataW H} {p : List MemPlace} (ht : P.underlying t = some (.slice e)) (hC : P.cellsOf e = C) (hC0 : 0 < C) (hv : Value.okWide P w r b0 t v) (h : DataW.Trod enc P w 0 (fun _ => true) true t v d p) :
    ∃ A len cap, v = .slice A len cap ∧ Elems enc P w e C A len cap := by
  obtain ⟨A, len, cap, rfl⟩ := okWide_slice ht hv
  obtain ⟨n, hn⟩ := h
  obtain ⟨A', len', cap', he, hE⟩ := elems_of_cell ht hC hC0 hn
  simp [Value.cells] at he
  obtain ⟨rfl, rfl, rfl⟩ := he
  exact ⟨_, _, _, rfl, hE⟩
end
end Go.Proofs.YtfamfamgopchnaaGreatDoor
/- From arguments that read as data to the data of the walk, and back from a law's contract. No statement of the program. -/
namespace Go.Proofs.YtfamfamgopchnaaGreatDoor
open Go.RowKit Go.ChangeShapes Go.WideShapes Go.Deep
set_option linter.unusedSimpArgs false
set_option linter.unusedVariables false
set_option linter.unusedSectionVars false

theorem Sim.none (w : World) : Sim w [] := ⟨(fun _ h => nomatch h), List.Pairwise.nil, List.Pairwise.nil⟩
theorem stable_none {w : World} {a : Addr} (h : (w.cell? a).isSome = true) : stable w [] a := ⟨h, (fun _ h => nomatch h)⟩
/-- A law's contract, at arguments that stand for its data. -/
theorem DC.law {P : Program} {f : FuncId} {args : List V} (h : DC P f args [] fun d H' => d = .bool true ∧ H' = []) {xs : Array Value} {w : World} (hn : xs.size = args.length) (hr : ∀ k, k < args.length → R (stable w []) w (xs.getD k undef) (args.getD k .any)) :
    Calls P f xs w fun e w' => e = .returned (.bool true) ∧ Below w.heap.size w w' :=
  (h.2 xs w (Sim.none w) hn hr).mono fun e w' ⟨v, d, H', he, s, x, r, hd, hH⟩ => by
    subst hd
    subst hH
    cases r
    exact ⟨he, x.below⟩
section
variable {H : Type} {enc : TypeId × Value → H} {P : Program} {w : World}
/-- What opens a type: its cells stand for some a. -/
def Opens (P : Program) (enc : TypeId × Value → H) (w : World) (e : TypeId) (C : Nat) {α : Type} (ea : α → V) (Q : α → Prop) : Prop :=
  ∀ (cs : List Value) (n : Nat) (y : DataW H × List MemPlace), cs.length = C → DataW.trod enc P w 0 (fun _ => true) true n e cs = some y →
    ∃ a, Q a ∧ ∀ o, o < C → R (stable w []) w (cs.getD o undef) ((ea a).cs.getD o .any)
theorem open_elems {e : TypeId} {C : Nat} {α : Type} {ea : α → V} {Q : α → Prop} (hC : 0 < C) (hn : ∀ a, (ea a).cs.length = C) (ho : Opens P enc w e C ea Q) {A : Option Addr} {len cap : Nat} (hE : Elems enc P w e C A len cap) :
    ∃ l : List α, l.length = len ∧ (∀ a ∈ l, Q a) ∧ R (stable w []) w (.slice A len cap) (.sl (l.map ea)) := by
  have one : ∀ i, i < len → ∃ a, Q a ∧ ∃ b off, A = some ⟨b, off, none⟩ ∧ ∀ o, o < C → ∃ v, w.cell? ⟨b, off + i * C + o, none⟩ = some v ∧ R (stable w []) w v ((ea a).cs.getD o .any) := fun i hi => by
    obtain ⟨b, off, cs, n, y, hA, hb, hl, hc, ht⟩ := hE.at_ i hi
    obtain ⟨a, hq, hr⟩ := ho cs n y hl ht
    refine ⟨a, hq, b, off, hA, fun o hlt => ?_⟩
    have hlt' : o < cs.length := by omega
    refine ⟨cs[o], hc o _ (List.getElem?_eq_getElem hlt'), ?_⟩
    have := hr o hlt
    simpa [List.getD_eq_getElem?_getD, hlt'] using this
  have all : ∀ m, m ≤ len → ∃ l : List α, l.length = m ∧ (∀ a ∈ l, Q a) ∧ ∀ i (hi : i < l.length), ∃ b off, A = some ⟨b, off, none⟩ ∧ ∀ o, o < C → ∃ v, w.cell? ⟨b, off + i * C + o, none⟩ = some v ∧ R (stable w []) w v ((ea l[i]).cs.getD o .any) := fun m => by
    induction m with
    | zero => exact fun _ => ⟨[], rfl, (fun _ h => nomatch h), fun i hi => absurd hi (Nat.not_lt_zero _)⟩
    | succ m ih =>
      intro hm
      obtain ⟨l, h1, h2, h3⟩ := ih (by omega)
      obtain ⟨a, hq, hx⟩ := one m (by omega)
      refine ⟨l ++ [a], by simp [h1], fun z hz => ?_, fun i hi => ?_⟩
      · rcases List.mem_append.1 hz with hz | hz
        · exact h2 z hz
        · simp at hz; subst hz; exact hq
      · by_cases hil : i < l.length
        · simpa [List.getElem_append_left, hil] using h3 i hil
        · have : i = l.length := by simp at hi; omega
          subst this
          simp only [List.getElem_concat_length]
          rw [h1]; exact hx
  obtain ⟨l, h1, h2, h3⟩ := all len (Nat.le_refl _)
  refine ⟨l, h1, h2, ?_⟩
  have hel : ∀ i, i < l.length → ∃ hi : i < l.length, (l.map ea).getD i .any = ea l[i] := fun i hi => ⟨hi, by simp [List.getD_eq_getElem?_getD, hi]⟩
  refine .sl A len cap _ C (by simp [h1]) hE.le (fun h => ?_) (fun b hb hne => ?_) (fun i hi => ?_) (fun b i k hb hi hk => ?_) (fun b i k hb hi hk => ?_)
  · have := hE.nil h
    have : l = [] := List.eq_nil_of_length_eq_zero (by omega)
    subst this; rfl
  · have hl : 0 < l.length := List.length_pos_iff.2 fun h => hne (by rw [h]; rfl)
    obtain ⟨b', off, hA, _⟩ := h3 0 hl
    rw [hA] at hb
    injection hb with hb
    rw [← hb]
  · simp only [List.length_map] at hi
    obtain ⟨_, e⟩ := hel i hi
    rw [e, ← cs_n]; exact hn _
  · simp only [List.length_map] at hi
    obtain ⟨b', off, hA, hx⟩ := h3 i hi
    rw [hA] at hb
    injection hb with hb
    subst hb
    obtain ⟨v, hv, _⟩ := hx k hk
    exact stable_none (by simp only; rw [hv]; rfl)
  · simp only [List.length_map] at hi
    obtain ⟨b', off, hA, hx⟩ := h3 i hi
    rw [hA] at hb
    injection hb with hb
    subst hb
    obtain ⟨v, hv, hr⟩ := hx k hk
    obtain ⟨_, e⟩ := hel i hi
    simp only
    rw [cellAt, hv, e, cs_cell _ _ (by rw [hn]; exact hk)]
    exact hr
end
end Go.Proofs.YtfamfamgopchnaaGreatDoor
