/- What the operations that look at no memory that changes yield, over data, and that it is so. No statement of the program. -/
import Derived.Test.YtnnigbnlhhikjaaDoorEp
namespace Go.Proofs.YtnnigbnlhhikjaaDoor
open Go.RowKit
set_option linter.unusedSimpArgs false
set_option linter.unusedVariables false
set_option linter.unusedSectionVars false

/-- How many cells is known. -/
def V.solid : V → Bool
  | .any | .tup _ => false
  | .raw (.agg _) | .raw (.tuple _) => false
  | _ => true
/-- Surely one cell. -/
def V.one : V → Bool
  | .any | .tup _ | .agg _ => false
  | .raw (.agg _) | .raw (.tuple _) => false
  | _ => true
theorem R.solid {S : Addr → Prop} {w : World} {v : Value} {d : V} (h : R S w v d) (hd : d.solid = true) : v.cells.size = d.cs.length ∧ ∀ k, k < d.cs.length → R S w (v.cells.getD k undef) (d.cs.getD k .any) := by
  have one : ∀ {v : Value} {d : V}, v.cells = #[v] → d.cs = [d] → R S w v d → v.cells.size = d.cs.length ∧ ∀ k, k < d.cs.length → R S w (v.cells.getD k undef) (d.cs.getD k .any) := fun {v d} h1 h2 h => by
    rw [h1, h2]
    refine ⟨rfl, fun k hk => ?_⟩
    have : k = 0 := by simpa using hk
    subst this
    simpa using h
  cases h with
  | any v => cases hd
  | agg xs cs hn h => exact ⟨hn, h⟩
  | tup xs cs hn h => cases hd
  | raw v => cases v <;> first | exact one rfl rfl (.raw _) | cases hd
  | bool b => exact one rfl rfl (.bool b)
  | int k n => exact one rfl rfl (.int k n)
  | str s => exact one rfl rfl (.str s)
  | sl a n cap l sz hn hc ha h1 h2 h3 h4 => exact one rfl rfl (.sl a n cap l sz hn hc ha h1 h2 h3 h4)
  | gs v l h => cases h with | sl a n cap l sz hn hc ha h1 h2 h3 h4 => exact one rfl rfl (.gs _ _ (.sl a n cap l sz hn hc ha h1 h2 h3 h4))
  | sp b cs h1 h3 h4 => exact one rfl rfl (.sp b cs h1 h3 h4)
  | fn f xs ys cs ds hn h hm h' => exact one rfl rfl (.fn f xs ys cs ds hn h hm h')
  | ar a n cap hc ha => exact one rfl rfl (.ar a n cap hc ha)
  | ep b n cap k => exact one rfl rfl (.ep b n cap k)
theorem R.one_ {S : Addr → Prop} {w : World} {v : Value} {d : V} (h : R S w v d) (hd : d.one = true) : (∀ xs, v ≠ .agg xs) ∧ ∀ xs, v ≠ .tuple xs := by
  cases h with
  | any v => cases hd
  | agg xs cs hn h => cases hd
  | tup xs cs hn h => cases hd
  | raw v => refine ⟨fun xs e => ?_, fun xs e => ?_⟩ <;> (subst e; cases hd)
  | gs v l h => cases h with | sl => exact ⟨fun _ e => (by cases e), fun _ e => (by cases e)⟩
  | _ => exact ⟨fun _ e => (by cases e), fun _ e => (by cases e)⟩

/-- Not a row of cells. -/
def V.flat : V → Bool
  | .agg _ => false
  | _ => true
theorem V.flat_n {d : V} (h : d.flat = true) : d.n = 1 ∧ d.cell 0 = d := by cases d <;> first | exact ⟨rfl, rfl⟩ | cases h
/-- A byte's datum. -/
def u8 (b : UInt8) : V := .int .u8 (b.toNat : Int)
def byteOf : V → UInt8
  | .int _ n => UInt8.ofNat n.toNat
  | _ => 0
def isU8 : V → Bool
  | .int .u8 _ => true
  | _ => false
theorem byteOf_u8 (b : UInt8) : byteOf (u8 b) = b := by simp [byteOf, u8]
theorem isU8_u8 (b : UInt8) : isU8 (u8 b) = true := rfl
@[simp] theorem bytes_back (s : List UInt8) : (s.map u8).map byteOf = s := by
  rw [List.map_map]
  exact (List.map_congr_left fun b _ => byteOf_u8 b).trans (List.map_id s)
@[simp] theorem bytes_are (s : List UInt8) : (s.map u8).all isU8 = true := by simp [List.all_map, isU8_u8]

def pickV : V → V → V → V
  | .bool c, a, b => if c then a else b
  | _, _, _ => .any
def unV (op : UnOp) : V → V
  | .bool b => match op with
    | .not => .bool !b
    | _ => .any
  | .int k n => match op with
    | .neg => .int k (k.wrap (0 - n))
    | .xor => .int k (k.wrap (BitVec.ofInt k.bits (if k.signed then -1 else k.max) ^^^ BitVec.ofInt k.bits n).toNat)
    | _ => .any
  | _ => .any
def unS (op : UnOp) : V → Prop
  | .bool _ => op = .not
  | .int _ _ => op = .neg ∨ op = .xor
  | _ => False
def convV (s d : Ty) : V → V
  | .int _ n => match d.ik with
    | some k => .int k (k.wrap n)
    | none => .any
  | .str x => if d.kind = 4 then .sl (x.map u8) else .str x
  | .sl l => .str (l.map byteOf)
  | .gs _ l => .str (l.map byteOf)
  | _ => .any
def convS (P : Program) (s d : Ty) : V → Prop
  | .int _ _ => d.ik.isSome = true ∧ s.kind ≠ 0
  | .str x => s.kind = 3 ∧ (d.kind = 3 ∨ (d.kind = 4 ∧ (ty P d.elem).ik = some .u8))
  | .sl l => s.kind = 4 ∧ d.kind = 3 ∧ (ty P s.elem).ik = some .u8 ∧ l.all isU8 = true
  | .gs _ l => s.kind = 4 ∧ d.kind = 3 ∧ (ty P s.elem).ik = some .u8 ∧ l.all isU8 = true
  | _ => False
def lenV (T : Ty) : V → V
  | .sl l => .int .i64 l.length
  | .gs _ l => .int .i64 l.length
  | .str s => .int .i64 s.length
  | .raw (.slice _ n _) => .int .i64 n
  | .ar _ n => .int .i64 n
  | .sp _ => .int .i64 T.len
  | .raw (.pointer _) => .int .i64 T.len
  | _ => .any
def lenS (P : Program) (T : Ty) : V → Prop
  | .sl _ => T.kind = 4
  | .gs _ _ => T.kind = 4
  | .str _ => T.kind = 3
  | .raw (.slice ..) => T.kind = 4
  | .ar _ _ => T.kind = 4
  | _ => False
def idxAddrV (P : Program) (T : Ty) : V → V → V
  | .sl l, .int _ i => .sp (l.getD i.toNat .any).cs
  | .gs _ l, .int _ i => .sp (l.getD i.toNat .any).cs
  | .raw (.slice (some a) _ _), .int _ i => .raw (.pointer (some (a.add (i.toNat * (ty P T.elem).size))))
  | .raw (.pointer (some a)), .int _ i => .raw (.pointer (some (a.add (i.toNat * (ty P T.elem).size))))
  | .sp cs, .int _ i => .sp (cs.drop (i.toNat * (ty P T.elem).size))
  | .ar v _, .int _ i => .ep v (i.toNat * (ty P T.elem).size)
  | _, _ => .any
def idxAddrS (P : Program) (T : Ty) : V → V → Prop
  | .sl l, .int _ i => T.kind = 4 ∧ (ty P T.elem).kind ≠ 0 ∧ (ty P T.elem).kind ≠ 11 ∧ 0 ≤ i ∧ i < l.length ∧ (l.getD i.toNat .any).n = (ty P T.elem).size ∧ (l.getD i.toNat .any).solid = true
  | .gs _ l, .int _ i => T.kind = 4 ∧ (ty P T.elem).kind ≠ 0 ∧ (ty P T.elem).kind ≠ 11 ∧ 0 ≤ i ∧ i < l.length ∧ (l.getD i.toNat .any).n = (ty P T.elem).size ∧ (l.getD i.toNat .any).solid = true
  | .raw (.slice (some a) n _), .int _ i => T.kind = 4 ∧ (ty P T.elem).kind ≠ 0 ∧ (ty P T.elem).kind ≠ 11 ∧ 0 ≤ i ∧ i < n
  | .raw (.pointer (some a)), .int _ i => T.kind = 5 ∧ (ty P T.elem).kind ≠ 0 ∧ (ty P T.elem).kind ≠ 11 ∧ 0 ≤ i ∧ i < T.len
  | .sp cs, .int _ i => T.kind = 5 ∧ (ty P T.elem).kind ≠ 0 ∧ (ty P T.elem).kind ≠ 11 ∧ 0 ≤ i ∧ i < T.len
  | .ar _ n, .int _ i => T.kind = 4 ∧ (ty P T.elem).kind ≠ 0 ∧ (ty P T.elem).kind ≠ 11 ∧ 0 ≤ i ∧ i < n
  | _, _ => False
def idxV (P : Program) (T : Ty) : V → V → V
  | .str s, .int _ i => u8 (s.getD i.toNat 0)
  | .agg cs, .int _ i => partV (ty P T.elem) cs (i.toNat * (ty P T.elem).size)
  | _, _ => .any
def idxS (P : Program) (T : Ty) : V → V → Prop
  | .str s, .int _ i => T.kind = 3 ∧ 0 ≤ i ∧ i < s.length
  | .agg cs, .int _ i => T.kind = 5 ∧ 0 ≤ i ∧ i < T.len ∧ partS (ty P T.elem) cs (i.toNat * (ty P T.elem).size)
  | _, _ => False
/-- Parts laid into a row of cells. -/
def layV (cs : List V) (off : Nat) (d : List V) : List V := cs.take off ++ d ++ cs.drop (off + d.length)
def fillV (place : Nat → Option (Nat × Nat)) : List V → List (Nat × V) → List V
  | cs, [] => cs
  | cs, (i, d) :: l => match place i with
    | some (off, _) => fillV place (layV cs off d.cs) l
    | none => []
def fillS (place : Nat → Option (Nat × Nat)) : List V → List (Nat × V) → Prop
  | _, [] => True
  | cs, (i, d) :: l => match place i with
    | some (off, sz) => d.solid = true ∧ d.cs.length = sz ∧ off + sz ≤ cs.length ∧ fillS place (layV cs off d.cs) l
    | none => False
def splitV (sz : Nat) (agg : Bool) : Nat → List V → List V
  | 0, _ => []
  | n + 1, cs => (if agg then .agg (cs.take sz) else cs.getD 0 .any) :: splitV sz agg n (cs.drop sz)
def sliceV : V → Option V → Option V → V
  | .sl l, lo, hi => .sl ((l.take (match hi with | some (.int _ h) => h.toNat | _ => l.length)).drop (match lo with | some (.int _ h) => h.toNat | _ => 0))
  | .gs _ l, lo, hi => .sl ((l.take (match hi with | some (.int _ h) => h.toNat | _ => l.length)).drop (match lo with | some (.int _ h) => h.toNat | _ => 0))
  | .str l, lo, hi => .str ((l.take (match hi with | some (.int _ h) => h.toNat | _ => l.length)).drop (match lo with | some (.int _ h) => h.toNat | _ => 0))
  | _, _, _ => .any
def bndS (n : Nat) : Option V → Option V → Prop
  | none, none => True
  | some (.int _ l), none => 0 ≤ l ∧ l ≤ n
  | none, some (.int _ h) => 0 ≤ h ∧ h ≤ n
  | some (.int _ l), some (.int _ h) => 0 ≤ l ∧ l ≤ h ∧ h ≤ n
  | _, _ => False
def sliceS (P : Program) (T : Ty) : V → Option V → Option V → Prop
  | .sl l, lo, hi => T.kind = 4 ∧ (ty P T.elem).kind ≠ 0 ∧ (ty P T.elem).kind ≠ 11 ∧ bndS l.length lo hi ∧ ∀ x ∈ l, x.n = (ty P T.elem).size
  | .gs _ l, lo, hi => T.kind = 4 ∧ (ty P T.elem).kind ≠ 0 ∧ (ty P T.elem).kind ≠ 11 ∧ bndS l.length lo hi ∧ ∀ x ∈ l, x.n = (ty P T.elem).size
  | .str l, lo, hi => T.kind = 3 ∧ bndS l.length lo hi
  | _, _, _ => False

def mmV (mx : Bool) : V → V → V
  | .int k a, .int _ b => .int k (if mx then max a b else min a b)
  | _, _ => .any
def mmS : V → V → Prop
  | .int _ _, .int _ _ => True
  | _, _ => False
/-- Where a part lies. -/
def placeT (P : Program) (t : TypeId) : Nat → Option (Nat × Nat) :=
  if (ty P t).kind = 5 then fun i => some (i * (ty P (ty P t).elem).size, (ty P (ty P t).elem).size) else fun i => ((ty P t).offs[i]?).map fun p => (p.1, (ty P p.2).size)
/-- What an operation yields. -/
def val (P : Program) (o : Oper) (f : Operand → V) : V :=
  match o.op with
  | .move x | .assign x => f x
  | .pick c a b => pickV (f c) (f a) (f b)
  | .binOp op _ x y _ => binV op (f x) (f y)
  | .unOp op _ x => unV op (f x)
  | .convert s d x => convV (ty P s) (ty P d) (f x)
  | .nilCheck x => f x
  | .load t x => match f x with
    | .sp cs => partV (ty P t) cs 0
    | _ => .any
  | .fieldAddr s x i => match f x with
    | .sp cs => .sp (cs.drop ((ty P s).offs.getD i (0, 0)).1)
    | .raw (.pointer (some a)) => .raw (.pointer (some (a.add ((ty P s).offs.getD i (0, 0)).1)))
    | .ep v k => .ep v (k + ((ty P s).offs.getD i (0, 0)).1)
    | _ => .any
  | .field s x i => match f x with
    | .agg cs => partV (ty P ((ty P s).offs.getD i (0, 0)).2) cs ((ty P s).offs.getD i (0, 0)).1
    | _ => .any
  | .indexAddr t x i => idxAddrV P (ty P t) (f x) (f i)
  | .index t x i => idxV P (ty P t) (f x) (f i)
  | .extract x i => match f x with
    | .tup ds => ds.getD i .any
    | _ => .any
  | .build t parts => .agg (fillV (placeT P t) (ty P t).zero (parts.toList.map fun (i, x) => (i, f x)))
  | .buildSlice t n parts => .sl (splitV (ty P (ty P t).elem).size (ty P (ty P t).elem).agg n
      (fillV (fun i => some (i * (ty P (ty P t).elem).size, (ty P (ty P t).elem).size)) ((List.replicate n (ty P (ty P t).elem).zero).flatten) (parts.toList.map fun (i, x) => (i, f x))))
  | .box _ x => .sp (f x).cs
  | .slice t x lo hi none => sliceV (f x) (lo.map f) (hi.map f)
  | .makeFunc fn first cap => .fn fn (first.toList.map f) (cap.toList.map f)
  | .call { callee := .builtin .len, args, argTypes } => match args.toList, argTypes.toList with
    | [x], [T] => lenV (ty P T) (f x)
    | _, _ => .any
  | .call { callee := .builtin .max, args, .. } => match args.toList with
    | [x, y] => mmV true (f x) (f y)
    | _ => .any
  | .call { callee := .builtin .min, args, .. } => match args.toList with
    | [x, y] => mmV false (f x) (f y)
    | _ => .any
  | _ => .any
/-- What is asked. -/
def side (P : Program) (o : Oper) (f : Operand → V) : Prop :=
  match o.op with
  | .move _ | .assign _ => True
  | .pick c _ _ => match f c with
    | .bool _ => True
    | _ => False
  | .binOp op t x y _ => binS P t op (f x) (f y)
  | .unOp op _ x => unS op (f x)
  | .convert s d x => convS P (ty P s) (ty P d) (f x)
  | .nilCheck x => match f x with
    | .sp _ => True
    | .raw (.pointer (some _)) => True
    | .ep _ _ => True
    | _ => False
  | .load t x => match f x with
    | .sp cs => partS (ty P t) cs 0
    | _ => False
  | .fieldAddr s x i => match f x with
    | .sp cs => (ty P s).kind = 6 ∧ i < (ty P s).offs.length ∧ (ty P ((ty P s).offs.getD i (0, 0)).2).kind ≠ 0 ∧ (ty P ((ty P s).offs.getD i (0, 0)).2).kind ≠ 11 ∧ (ty P ((ty P s).offs.getD i (0, 0)).2).size ≠ 0
    | .raw (.pointer (some a)) => (ty P s).kind = 6 ∧ i < (ty P s).offs.length ∧ (ty P ((ty P s).offs.getD i (0, 0)).2).kind ≠ 0 ∧ (ty P ((ty P s).offs.getD i (0, 0)).2).kind ≠ 11 ∧ (ty P ((ty P s).offs.getD i (0, 0)).2).size ≠ 0
    | .ep _ _ => (ty P s).kind = 6 ∧ i < (ty P s).offs.length ∧ (ty P ((ty P s).offs.getD i (0, 0)).2).kind ≠ 0 ∧ (ty P ((ty P s).offs.getD i (0, 0)).2).kind ≠ 11 ∧ (ty P ((ty P s).offs.getD i (0, 0)).2).size ≠ 0
    | _ => False
  | .field s x i => match f x with
    | .agg cs => (ty P s).kind = 6 ∧ i < (ty P s).offs.length ∧ partS (ty P ((ty P s).offs.getD i (0, 0)).2) cs ((ty P s).offs.getD i (0, 0)).1
    | _ => False
  | .indexAddr t x i => idxAddrS P (ty P t) (f x) (f i)
  | .index t x i => idxS P (ty P t) (f x) (f i)
  | .extract x i => match f x with
    | .tup ds => i < ds.length
    | _ => False
  | .build t parts => (((ty P t).kind = 6 ∧ ∀ p ∈ (ty P t).offs, (ty P p.2).kind ≠ 0 ∧ (ty P p.2).kind ≠ 11) ∨ ((ty P t).kind = 5 ∧ (ty P (ty P t).elem).kind ≠ 0 ∧ (ty P (ty P t).elem).kind ≠ 11)) ∧ (ty P t).zero ≠ [] ∧
      fillS (placeT P t) (ty P t).zero (parts.toList.map fun (i, x) => (i, f x))
  | .buildSlice t n parts => (ty P t).kind = 4 ∧ (ty P (ty P t).elem).kind ≠ 0 ∧ (ty P (ty P t).elem).kind ≠ 11 ∧ n * (ty P (ty P t).elem).size ≤ 16777216 ∧ (ty P (ty P t).elem).zero.length = (ty P (ty P t).elem).size ∧ 0 < (ty P (ty P t).elem).size ∧
      ((ty P (ty P t).elem).agg = false → (ty P (ty P t).elem).size = 1 ∧ (fillV (fun i => some (i * (ty P (ty P t).elem).size, (ty P (ty P t).elem).size)) ((List.replicate n (ty P (ty P t).elem).zero).flatten) (parts.toList.map fun (i, x) => (i, f x))).all V.flat = true) ∧
      fillS (fun i => some (i * (ty P (ty P t).elem).size, (ty P (ty P t).elem).size)) ((List.replicate n (ty P (ty P t).elem).zero).flatten) (parts.toList.map fun (i, x) => (i, f x))
  | .box t x => (f x).solid = true
  | .slice t x lo hi none => sliceS P (ty P t) (f x) (lo.map f) (hi.map f)
  | .makeFunc fn first cap => True
  | .call { callee := .builtin .len, args, argTypes } => match args.toList, argTypes.toList with
    | [x], [T] => lenS P (ty P T) (f x)
    | _, _ => False
  | .call { callee := .builtin .max, args, .. } => match args.toList with
    | [x, y] => mmS (f x) (f y)
    | _ => False
  | .call { callee := .builtin .min, args, .. } => match args.toList with
    | [x, y] => mmS (f x) (f y)
    | _ => False
  | _ => False

section
variable {P : Program}
theorem loadVar_run {S : Addr → Prop} {w : World} {t : TypeId} {b : Addr} {cs : List V} (hb : b.spot = none) (h3 : ∀ k, k < cs.length → (w.cell? ⟨b.block, b.off + k, none⟩).isSome = true)
    (h4 : ∀ k, k < cs.length → R S w (cellAt w ⟨b.block, b.off + k, none⟩) (cs.getD k .any)) (hs : partS (ty P t) cs 0) :
    ∃ v, (loadVar t b).run P w = .ok v w ∧ R S w v (partV (ty P t) cs 0) := by
  obtain ⟨h0, h1, h2⟩ := hs
  have hc : ∀ k, k < cs.length → w.cell? (b.add k) = some (cellAt w ⟨b.block, b.off + k, none⟩) := fun k hk => by
    rw [addr_add b k hb]
    obtain ⟨v, hv⟩ := Option.isSome_iff_exists.1 (h3 k hk)
    rw [cellAt, hv]; rfl
  unfold loadVar partV
  rw [Sem.run_bind, run_isAgg h0 h1]
  simp only [Result.andThen]
  cases ha : (ty P t).agg with
  | true =>
    rw [ha] at h2
    simp only [if_true] at h2 ⊢
    have hl := run_loadCells (P := P) w b (ty P t).size (fun j => cellAt w ⟨b.block, b.off + j, none⟩) (fun j hj => hc j (by omega))
    refine ⟨_, by simp [run_sizeOf h0 h1, hl]; rfl, .agg _ _ (by simp; omega) fun k hk => ?_⟩
    have hk' : k < (ty P t).size := by simp at hk; omega
    have := h4 k (by omega)
    simpa [Array.getD_eq_getD_getElem?, List.getD_eq_getElem?_getD, hk', List.getElem?_take] using this
  | false =>
    rw [ha] at h2
    simp only [Bool.false_eq_true, if_false] at h2 ⊢
    have h0' := hc 0 h2
    rw [show b.add 0 = b by simp [Addr.add]] at h0'
    refine ⟨cellAt w ⟨b.block, b.off + 0, none⟩, ?_, h4 0 h2⟩
    simp [load, Sem.run, h0']
theorem R.slc {S : Addr → Prop} {w : World} {v : Value} {l : List V} (h : R S w v (.sl l)) : ∃ a cap sz, v = .slice a l.length cap ∧ l.length ≤ cap ∧ (a = none → l = []) ∧ (∀ b, a = some b → l ≠ [] → b.spot = none) ∧ (∀ i, i < l.length → (l.getD i .any).n = sz) ∧
    (∀ b i k, a = some b → i < l.length → k < sz → S ⟨b.block, b.off + i * sz + k, none⟩) ∧ (∀ b i k, a = some b → i < l.length → k < sz → R S w (cellAt w ⟨b.block, b.off + i * sz + k, none⟩) ((l.getD i .any).cell k)) := by
  cases h with
  | sl a n cap l sz hn hc ha h1 h2 h3 h4 => subst hn; exact ⟨a, cap, sz, rfl, hc, ha, h1, h2, h3, h4⟩
theorem cs_cell (d : V) (k : Nat) (hk : k < d.cs.length) : d.cell k = d.cs.getD k .any := by
  cases d with
  | agg cs => rfl
  | _ =>
    have : k = 0 := by simpa [V.cs] using hk
    subst this
    rfl
theorem cs_n (d : V) : d.cs.length = d.n := by cases d <;> rfl
/-- The address of an element. -/
theorem idx_run {S : Addr → Prop} {w : World} {t : TypeId} {v : Value} {l : List V} {k : IntKind} {i : Int} (h : R S w v (.sl l)) (h1 : (ty P t).kind = 4) (h2 : (ty P (ty P t).elem).kind ≠ 0) (h3 : (ty P (ty P t).elem).kind ≠ 11)
    (h4 : 0 ≤ i) (h5 : i < l.length) (h6 : (l.getD i.toNat .any).n = (ty P (ty P t).elem).size) : ∃ u, (Instr.indexAt t v (.int k i)).run P w = .ok u w ∧ R S w u (.sp (l.getD i.toNat .any).cs) := by
  obtain ⟨a, cap, sz, rfl, hc, ha, g1, g2, g3, g4⟩ := h.slc
  have hi : i.toNat < l.length := by omega
  cases a with
  | none => rw [ha rfl] at hi; simp at hi
  | some b =>
    have hsz : sz = (ty P (ty P t).elem).size := by rw [← h6]; exact (g2 i.toNat hi).symm
    refine ⟨.pointer (some (b.add (i.toNat * (ty P (ty P t).elem).size))), ?_, ?_⟩
    · unfold Instr.indexAt
      simp [asIntOf, run_underlying (und_slice h1), h4, h5, run_sizeOf h2 h3]
    · rw [addr_add b _ (g1 b rfl (fun h => by rw [h] at hi; simp at hi)), ← hsz]
      refine .sp _ _ rfl (fun k hk => g3 b i.toNat k rfl hi ?_) (fun k hk => ?_)
      · rw [cs_n, g2 _ hi] at hk; exact hk
      · have hk' := hk
        rw [cs_n, g2 _ hi] at hk'
        have := g4 b i.toNat k rfl hi hk'
        rw [cs_cell _ _ hk] at this
        exact this
end
end Go.Proofs.YtnnigbnlhhikjaaDoor
