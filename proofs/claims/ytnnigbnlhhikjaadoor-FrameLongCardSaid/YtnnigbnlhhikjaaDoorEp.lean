/- What two operands come to, over data; parts of rows; structs compared cell by cell. No statement of the program. -/
import Derived.Test.YtnnigbnlhhikjaaDoorEd
import Derived.Laws.StructEq
namespace Go.Proofs.YtnnigbnlhhikjaaDoor
open Go.RowKit
set_option linter.unusedSimpArgs false
set_option linter.unusedVariables false
set_option linter.unusedSectionVars false

/-- A part of a row of cells. -/
def partV (T : Ty) (cs : List V) (off : Nat) : V := if T.agg then .agg ((cs.drop off).take T.size) else cs.getD off .any
def partS (T : Ty) (cs : List V) (off : Nat) : Prop := T.kind ≠ 0 ∧ T.kind ≠ 11 ∧ (if T.agg then off + T.size ≤ cs.length else off < cs.length)
section
variable {P : Program}
theorem part_run {S : Addr → Prop} {w : World} {t : TypeId} {xs : Array Value} {cs : List V} (hn : xs.size = cs.length) (h : ∀ k, k < cs.length → R S w (xs.getD k undef) (cs.getD k .any)) {off : Nat} (hs : partS (ty P t) cs off) :
    ∃ v, (part t xs off).run P w = .ok v w ∧ R S w v (partV (ty P t) cs off) := by
  obtain ⟨h0, h1, h2⟩ := hs
  unfold part partV
  rw [Sem.run_bind, run_isAgg h0 h1]
  simp only [Result.andThen]
  cases ha : (ty P t).agg with
  | true =>
    rw [ha] at h2
    simp only [if_true] at h2 ⊢
    refine ⟨.agg (xs.extract off (off + (ty P t).size)), by simp [run_sizeOf h0 h1], .agg _ _ (by simp; omega) fun k hk => ?_⟩
    have hk' : k < (ty P t).size := by simp at hk; omega
    have := h (off + k) (by omega)
    have e1 : (xs.extract off (off + (ty P t).size)).getD k undef = xs.getD (off + k) undef := by
      simp only [Array.getD_eq_getD_getElem?, Array.getElem?_extract]
      rw [if_pos (by omega)]
    have e2 : (List.take (ty P t).size (cs.drop off)).getD k .any = cs.getD (off + k) .any := by
      simp only [List.getD_eq_getElem?_getD, List.getElem?_take, List.getElem?_drop]
      rw [if_pos hk']
    rw [e1, e2]; exact this
  | false =>
    rw [ha] at h2
    simp only [Bool.false_eq_true, if_false] at h2 ⊢
    have hx : xs[off]? = some (xs.getD off undef) := by
      have : off < xs.size := by omega
      simp [Array.getD_eq_getD_getElem?, this]
    exact ⟨_, by rw [hx]; rfl, h off h2⟩
end
/-- What two operands come to. -/
def nilQ : Value → Value → Option Bool
  | .pointer a, .pointer b => match a, b with
    | none, b => some b.isNone
    | some _, none => some false
    | some _, some _ => none
  | .slice a _ _, .slice b _ _ => match a, b with
    | none, b => some b.isNone
    | some _, none => some false
    | some _, some _ => none
  | .map a, .map b => match a, b with
    | none, b => some b.isNone
    | some _, none => some false
    | some _, some _ => none
  | _, _ => none
def nilK : Value → Nat
  | .pointer _ => 7
  | .slice .. => 4
  | .map _ => 8
  | _ => 0
def eqR (op : BinOp) : Option Bool → V
  | some r => match op with
    | .eql => .bool r
    | .neq => .bool !r
    | _ => .any
  | none => .any
/-- Cells that are alike. -/
def eqL : List V → List V → Bool
  | a :: l, b :: m => (match a, b with
    | .int _ a, .int _ b => a == b
    | .str a, .str b => a == b
    | .bool a, .bool b => a == b
    | _, _ => false) && eqL l m
  | _, _ => true
def eqLS : List Nat → List V → List V → Prop
  | [], [], [] => True
  | k :: ks, a :: l, b :: m => (match a, b with
    | .int p _, .int q _ => k = 2 ∧ p = q
    | .str _, .str _ => k = 3
    | .bool _, .bool _ => k = 1
    | _, _ => False) ∧ eqLS ks l m
  | _, _, _ => False
/-- The kinds of a type's cells, where these are compared one by one. -/
def leafs (P : Program) (g : TypeId → Option (List Nat)) : List Field → Nat → Option (List Nat)
  | [], _ => some []
  | f :: fs, off =>
    if f.name ≠ "_" ∧ f.offset = off then
      match g f.type with
      | some ks => (leafs P g fs (off + ks.length)).map (ks ++ ·)
      | none => none
    else none
def leaf (P : Program) : Nat → TypeId → Option (List Nat)
  | 0, _ => none
  | d + 1, t => match P.underlying t with
    | some .bool => if (ty P t).kind = 1 then some [1] else none
    | some (.int _) => if (ty P t).kind = 2 then some [2] else none
    | some .string => if (ty P t).kind = 3 then some [3] else none
    | some (.struct fs) => if P.stoodInHeld t = true ∨ (ty P t).kind ≠ 6 then none else
      match leafs P (leaf P d) fs.toList 0 with
      | some ks => if (ty P t).size = ks.length then some ks else none
      | none => none
    | _ => none
/-- How a struct's cells are compared. -/
def eqT (P : Program) (t : TypeId) : Option (List Nat) := if P.eqGuardType P.depth t = true ∨ (ty P t).kind ≠ 6 then none else leaf P 6 t
def eqTS (op : BinOp) (ks : Option (List Nat)) (cs ds : List V) : Prop :=
  match op with
  | .eql | .neq => match ks with
    | some ks => eqLS ks cs ds
    | none => False
  | _ => False
def nilS (T : Ty) (op : BinOp) (u v : Value) : Prop :=
  match op with
  | .eql | .neq => (nilQ u v).isSome = true ∧ T.kind = nilK u
  | _ => False
def spS (T : Ty) (op : BinOp) : Value → Prop
  | .pointer none => match op with
    | .eql | .neq => T.kind = 7
    | _ => False
  | _ => False
def binV (op : BinOp) : V → V → V
  | .int k a, .int _ b => match op with
    | .add => .int k (k.wrap (a + b))
    | .sub => .int k (k.wrap (a - b))
    | .mul => .int k (k.wrap (a * b))
    | .quo => .int k (k.wrap (a.tdiv b))
    | .rem => .int k (a.tmod b)
    | .and => .int k (k.wrap (BitVec.ofInt k.bits a &&& BitVec.ofInt k.bits b).toNat)
    | .or => .int k (k.wrap (BitVec.ofInt k.bits a ||| BitVec.ofInt k.bits b).toNat)
    | .xor => .int k (k.wrap (BitVec.ofInt k.bits a ^^^ BitVec.ofInt k.bits b).toNat)
    | .andNot => .int k (k.wrap (BitVec.ofInt k.bits a &&& ~~~BitVec.ofInt k.bits b).toNat)
    | .shl => .int k (k.wrap (a * 2 ^ (min b.toNat k.bits)))
    | .shr => .int k (a.fdiv (2 ^ (min b.toNat k.bits)))
    | .eql => .bool (a == b)
    | .neq => .bool (a != b)
    | .lss => .bool (decide (a < b))
    | .leq => .bool (decide (a ≤ b))
    | .gtr => .bool (decide (b < a))
    | .geq => .bool (decide (b ≤ a))
  | .str a, .str b => match op with
    | .add => .str (a ++ b)
    | .eql => .bool (a == b)
    | .neq => .bool !(a == b)
    | .lss => .bool (Op.bytesLess a b)
    | .leq => .bool (Op.bytesLess a b || a == b)
    | .gtr => .bool (!(Op.bytesLess a b) && !(a == b))
    | .geq => .bool !(Op.bytesLess a b)
    | _ => .any
  | .bool a, .bool b => match op with
    | .eql => .bool (a == b)
    | .neq => .bool !(a == b)
    | _ => .any
  | .agg cs, .agg ds => eqR op (some (eqL cs ds))
  | .raw u, .raw v => eqR op (nilQ u v)
  | .gs u _, .gs v _ => eqR op (nilQ u v)
  | .raw u, .gs v _ => eqR op (nilQ u v)
  | .gs u _, .raw v => eqR op (nilQ u v)
  | .sp _, .raw _ => eqR op (some false)
  | .raw _, .sp _ => eqR op (some false)
  | .sl _, .gs _ _ => eqR op (some false)
  | .gs _ _, .sl _ => eqR op (some false)
  | _, _ => .any
def binS (P : Program) (t : TypeId) (op : BinOp) : V → V → Prop
  | .int k a, .int k' b => match op with
    | .shl | .shr => 0 ≤ b
    | .quo | .rem => k = k' ∧ b ≠ 0
    | _ => k = k'
  | .str a, .str b => match op with
    | .add => a.length + b.length ≤ 9223372036854775807
    | .eql | .neq | .lss | .leq | .gtr | .geq => True
    | _ => False
  | .bool a, .bool b => match op with
    | .eql | .neq => (ty P t).kind = 1
    | _ => False
  | .agg cs, .agg ds => eqTS op (eqT P t) cs ds
  | .raw u, .raw v => nilS (ty P t) op u v
  | .gs u _, .gs v _ => nilS (ty P t) op u v
  | .raw u, .gs v _ => nilS (ty P t) op u v
  | .gs u _, .raw v => nilS (ty P t) op u v
  | .sp _, .raw v => spS (ty P t) op v
  | .raw v, .sp _ => spS (ty P t) op v
  | .sl l, .gs v m => l ≠ [] ∧ v = .slice none 0 0 ∧ nilS (ty P t) op v v
  | .gs v m, .sl l => l ≠ [] ∧ v = .slice none 0 0 ∧ nilS (ty P t) op v v
  | _, _ => False
theorem bs_size (s : List UInt8) : (bs s).size = s.length := by simp [bs, ByteArray.size]
theorem bs_toList (s : List UInt8) : (bs s).toList = s := by
  have : (bs s).toList = (bs s).data.toList := by simp [bs]
  rw [this]; rfl
section
variable {P : Program}
theorem ty_agg {t : TypeId} (h0 : (ty P t).kind ≠ 0) : ((ty P t).kind = 6 → (ty P t).agg = true) ∧ ((ty P t).kind ≤ 3 → (ty P t).agg = false) := by
  unfold ty at h0 ⊢
  split
  · rename_i i d hi hd; rw [hi, hd] at h0; cases d <;> simp_all [tyOf]
  · rename_i h; exact ⟨fun h' => (by cases h'), fun _ => rfl⟩
theorem leaf_ty {d : Nat} {t : TypeId} {ks : List Nat} (h : leaf P d t = some ks) : (ty P t).kind ≠ 0 ∧ (ty P t).kind ≠ 11 ∧ ((ty P t).agg = true → (ty P t).size = ks.length) ∧ ((ty P t).agg = false → ks.length = 1) := by
  cases d with
  | zero => cases h
  | succ d =>
    have flat : ∀ k, 0 < k → k ≤ 3 → (ty P t).kind = k → (ty P t).kind ≠ 0 ∧ (ty P t).kind ≠ 11 ∧ ((ty P t).agg = true → (ty P t).size = [k].length) ∧ ((ty P t).agg = false → [k].length = 1) := fun k h0 h3 hk => by
      refine ⟨by omega, by omega, fun ha => ?_, fun _ => rfl⟩
      rw [(ty_agg (P := P) (t := t) (by omega)).2 (by omega)] at ha
      cases ha
    unfold leaf at h
    split at h
    · split at h
      · rename_i hk; injection h with h; subst h; exact flat 1 (by omega) (by omega) hk
      · cases h
    · split at h
      · rename_i hk; injection h with h; subst h; exact flat 2 (by omega) (by omega) hk
      · cases h
    · split at h
      · rename_i hk; injection h with h; subst h; exact flat 3 (by omega) (by omega) hk
      · cases h
    · split at h
      · cases h
      · rename_i hn
        split at h
        · rename_i ks' _
          split at h
          · rename_i hz
            injection h with h
            subst h
            have hk : (ty P t).kind = 6 := Decidable.byContradiction fun hk => hn (.inr hk)
            refine ⟨by omega, by omega, fun _ => hz, fun ha => ?_⟩
            rw [(ty_agg (P := P) (t := t) (by omega)).1 hk] at ha
            cases ha
          · cases h
        · cases h
    · cases h
theorem eqLS_len : ∀ {ks : List Nat} {l m : List V}, eqLS ks l m → l.length = ks.length ∧ m.length = ks.length
  | [], [], [], _ => ⟨rfl, rfl⟩
  | k :: ks, a :: l, b :: m, h => by
    have := eqLS_len h.2
    exact ⟨by simp [this.1], by simp [this.2]⟩
  | [], _ :: _, _, h => h.elim
  | [], [], _ :: _, h => h.elim
  | _ :: _, [], _, h => h.elim
  | _ :: _, _ :: _, [], h => h.elim
theorem eqLS_app : ∀ {ks ks' : List Nat} {l m : List V}, eqLS (ks ++ ks') l m → eqLS ks (l.take ks.length) (m.take ks.length) ∧ eqLS ks' (l.drop ks.length) (m.drop ks.length)
  | [], ks', l, m, h => ⟨by simp [eqLS], by simpa using h⟩
  | k :: ks, ks', a :: l, b :: m, h => by
    have := eqLS_app (ks := ks) (ks' := ks') h.2
    exact ⟨⟨h.1, by simpa using this.1⟩, by simpa using this.2⟩
  | _ :: _, _, [], _, h => h.elim
  | _ :: _, _, _ :: _, [], h => h.elim
theorem eqL_split : ∀ (n : Nat) (l m : List V), n ≤ l.length → n ≤ m.length → eqL l m = (eqL (l.take n) (m.take n) && eqL (l.drop n) (m.drop n))
  | 0, l, m, _, _ => by simp [eqL]
  | n + 1, a :: l, b :: m, h1, h2 => by
    simp only [List.take_succ_cons, List.drop_succ_cons, eqL]
    rw [eqL_split n l m (by simpa using h1) (by simpa using h2), Bool.and_assoc]
  | _ + 1, [], _, h, _ => by simp at h
  | _ + 1, _ :: _, [], _, h => by simp at h
/-- Two values of a type are compared cell by cell. -/
def EqOk (P : Program) (D : Nat) (t : TypeId) (ks : List Nat) : Prop :=
  ∀ (S : Addr → Prop) (w : World) (x y : Value) (a b : V), R S w x a → R S w y b → ((ty P t).agg = true → a = .agg a.cs ∧ b = .agg b.cs) → ((ty P t).agg = false → a.cs = [a] ∧ b.cs = [b]) → eqLS ks a.cs b.cs →
    (Op.equalIn D t x y).run P w = .ok (eqL a.cs b.cs) w
theorem eqFields_run {D : Nat} {d : Nat} (ih : ∀ t ks, leaf P d t = some ks → EqOk P D t ks) {S : Addr → Prop} {w : World} {xs ys : Array Value} {cs ds : List V} (hx : xs.size = cs.length) (hxr : ∀ k, k < cs.length → R S w (xs.getD k undef) (cs.getD k .any))
    (hy : ys.size = ds.length) (hyr : ∀ k, k < ds.length → R S w (ys.getD k undef) (ds.getD k .any)) : ∀ (fs : List Field) (off : Nat) (ks : List Nat), off ≤ cs.length → off ≤ ds.length → leafs P (leaf P d) fs off = some ks → eqLS ks (cs.drop off) (ds.drop off) → (Op.eqFields D xs ys fs).run P w = .ok (eqL (cs.drop off) (ds.drop off)) w
  | [], off, ks, _, _, h, he => by
    injection h with h
    subst h
    have := eqLS_len he
    rw [List.eq_nil_of_length_eq_zero this.1]
    simp [Op.eqFields, eqL]
  | f :: fs, off, ks, hoc, hod, h, he => by
    unfold leafs at h
    split at h
    · rename_i hn
      obtain ⟨hn, ho⟩ := hn
      split at h
      · rename_i k1 hk1
        cases h2 : leafs P (leaf P d) fs (off + k1.length) with
        | none => rw [h2] at h; cases h
        | some k2 =>
          rw [h2] at h
          have hk : k1 ++ k2 = ks := by simpa using h
          subst hk
          obtain ⟨l1, l2⟩ := eqLS_len he
          simp only [List.length_drop, List.length_append] at l1 l2
          obtain ⟨e1, e2⟩ := eqLS_app he
          obtain ⟨t0, t1, t2, t3⟩ := leaf_ty hk1
          have hlen : ((ty P f.type).agg = true → off + (ty P f.type).size ≤ cs.length) ∧ ((ty P f.type).agg = false → k1.length = 1 ∧ off < cs.length ∧ off < ds.length) ∧ ((ty P f.type).agg = true → off + (ty P f.type).size ≤ ds.length) := by
            refine ⟨fun ha => ?_, fun ha => ?_, fun ha => ?_⟩
            · have := t2 ha
              rcases Nat.eq_zero_or_pos k1.length with h0 | h0 <;> rcases Nat.eq_zero_or_pos k2.length with h1 | h1 <;> omega
            · have := t3 ha; omega
            · have := t2 ha
              rcases Nat.eq_zero_or_pos k1.length with h0 | h0 <;> rcases Nat.eq_zero_or_pos k2.length with h1 | h1 <;> omega
          have s1 : partS (ty P f.type) cs f.offset := by
            refine ⟨t0, t1, ?_⟩
            rw [ho]
            split
            · rename_i ha; exact hlen.1 ha
            · rename_i ha; exact (hlen.2.1 (by simpa using ha)).2.1
          have s2 : partS (ty P f.type) ds f.offset := by
            refine ⟨t0, t1, ?_⟩
            rw [ho]
            split
            · rename_i ha; exact hlen.2.2 ha
            · rename_i ha; exact (hlen.2.1 (by simpa using ha)).2.2
          obtain ⟨u, u1, u2⟩ := part_run (P := P) hx hxr s1
          obtain ⟨v, v1, v2⟩ := part_run (P := P) hy hyr s2
          have pcs : ∀ (zs : List V), ((ty P f.type).agg = false → off < zs.length) → ((ty P f.type).agg = false → (zs.getD off .any).cs = [zs.getD off .any]) → (partV (ty P f.type) zs f.offset).cs = (zs.drop off).take k1.length := fun zs hz hflat => by
            unfold partV
            rw [ho]
            cases ha : (ty P f.type).agg with
            | true => simp [V.cs, t2 ha]
            | false =>
              have hz' := hz ha
              simp only [Bool.false_eq_true, if_false]
              rw [hflat ha, t3 ha, List.drop_eq_getElem_cons hz', List.take_succ_cons, List.take_zero]
              simp [List.getD_eq_getElem?_getD, hz']
          have hflat : (ty P f.type).agg = false → (cs.getD off .any).cs = [cs.getD off .any] ∧ (ds.getD off .any).cs = [ds.getD off .any] := fun ha => by
            obtain ⟨q1, q2, q3⟩ := hlen.2.1 ha
            have g1 : cs.drop off = cs.getD off .any :: cs.drop (off + 1) := by rw [List.drop_eq_getElem_cons q2]; simp [List.getD_eq_getElem?_getD, q2]
            have g2 : ds.drop off = ds.getD off .any :: ds.drop (off + 1) := by rw [List.drop_eq_getElem_cons q3]; simp [List.getD_eq_getElem?_getD, q3]
            obtain ⟨kk, hkk⟩ : ∃ kk, k1 = [kk] := List.length_eq_one_iff.1 q1
            subst hkk
            rw [g1, g2] at e1
            simp only [List.length_singleton, List.take_succ_cons, List.take_zero] at e1
            have e1 := e1.1
            generalize cs.getD off .any = p at e1 ⊢
            generalize ds.getD off .any = q at e1 ⊢
            cases p <;> cases q <;> first | exact e1.elim | exact ⟨rfl, rfl⟩
          have p1 := pcs cs (fun ha => (hlen.2.1 ha).2.1) (fun ha => (hflat ha).1)
          have p2 := pcs ds (fun ha => (hlen.2.1 ha).2.2) (fun ha => (hflat ha).2)
          have hq := ih f.type k1 hk1 S w u v _ _ u2 v2 (fun ha => by simp only [partV, ha, if_true, V.cs]; exact ⟨trivial, trivial⟩) (fun ha => by
            simp only [partV, ha, Bool.false_eq_true, if_false, ho]; exact hflat ha) (by rw [p1, p2]; exact e1)
          rw [p1, p2] at hq
          have hr := eqFields_run ih hx hxr hy hyr fs (off + k1.length) k2 (by omega) (by omega) h2 (by simpa [List.drop_drop] using e2)
          unfold Op.eqFields
          rw [if_pos hn]
          simp only [Sem.run_bind, u1, v1, hq, Result.andThen_ok]
          rw [eqL_split k1.length (cs.drop off) (ds.drop off) (by simp; omega) (by simp; omega)]
          cases hb : eqL ((cs.drop off).take k1.length) ((ds.drop off).take k1.length) with
          | true => simpa [List.drop_drop] using hr
          | false => simp only [Bool.not_false, if_true, Bool.false_and, Sem.run_pure]
      · cases h
    · cases h
theorem eq_run : ∀ (d : Nat) (t : TypeId) (ks : List Nat), leaf P d t = some ks → ∀ D, d ≤ D → EqOk P D t ks
  | 0, _, _, h, _, _ => by cases h
  | d + 1, t, ks, h, 0, hD => by omega
  | d + 1, t, ks, h, D + 1, hD => by
    intro S w x y a b hx hy hagg hflat he
    have h' := h
    unfold leaf at h
    have one : ∀ k, 0 < k → k ≤ 3 → (ty P t).kind = k → a.cs = [a] ∧ b.cs = [b] := fun k h0 h3 hk => hflat ((ty_agg (P := P) (t := t) (by omega)).2 (by omega))
    split at h
    · rename_i hu
      split at h
      · rename_i hk; injection h with h; subst h
        obtain ⟨e1, e2⟩ := one 1 (by omega) (by omega) hk
        rw [e1, e2] at he ⊢
        have he := he.1
        cases a <;> cases b <;> first | exact he.elim | exact absurd (show 1 = 3 from he) (by decide) | exact absurd (show 1 = 2 from he.1) (by decide) | (cases hx; cases hy; rw [run_equalIn_bool' w D t _ _ hu]; try simp [eqL])
      · cases h
    · rename_i k' hu
      split at h
      · rename_i hk; injection h with h; subst h
        obtain ⟨e1, e2⟩ := one 2 (by omega) (by omega) hk
        rw [e1, e2] at he ⊢
        have he := he.1
        cases a <;> cases b <;> first | exact he.elim | exact absurd (show 2 = 1 from he) (by decide) | exact absurd (show 2 = 3 from he) (by decide) | (obtain ⟨_, rfl⟩ := he; cases hx; cases hy; rw [run_equalIn_int w D t _ k' _ _ hu]; try simp [eqL])
      · cases h
    · rename_i hu
      split at h
      · rename_i hk; injection h with h; subst h
        obtain ⟨e1, e2⟩ := one 3 (by omega) (by omega) hk
        rw [e1, e2] at he ⊢
        have he := he.1
        cases a <;> cases b <;> first | exact he.elim | exact absurd (show 3 = 1 from he) (by decide) | exact absurd (show 3 = 2 from he.1) (by decide) | (cases hx; cases hy; rw [run_equalIn_string w D t _ _ hu]; try simp [eqL, bs_toList])
      · cases h
    · rename_i fs hu
      split at h
      · cases h
      · rename_i hn
        have hk : (ty P t).kind = 6 := Decidable.byContradiction fun hk => hn (.inr hk)
        have hst : P.stoodInHeld t = false := by
          cases hs : P.stoodInHeld t with
          | true => exact absurd (.inl hs) hn
          | false => rfl
        have ha := (ty_agg (P := P) (t := t) (by omega)).1 hk
        obtain ⟨e1, e2⟩ := hagg ha
        generalize a.cs = cs at *
        generalize b.cs = ds at *
        subst e1
        subst e2
        split at h
        · rename_i ks' hl
          split at h
          · injection h with h
            subst h
            cases hx with
            | agg xs _ hxn hxr =>
              cases hy with
              | agg ys _ hyn hyr =>
                have hfo : P.fieldsOf t = fs := by simp [Program.fieldsOf, hu]
                rw [run_equalIn_struct w D t xs ys (by rw [hfo]; exact hu) hst, hfo]
                have := eqFields_run (D := D) (fun t ks h => eq_run d t ks h D (by omega)) hxn hxr hyn hyr fs.toList 0 _ (Nat.zero_le _) (Nat.zero_le _) hl (by simpa using he)
                simpa using this
          · cases h
        · cases h
    · cases h
end
theorem equal_bool {P : Program} {t : TypeId} {w : World} (h : (ty P t).kind = 1) (a b : Bool) : (Op.equal t (.bool a) (.bool b)).run P w = .ok (a == b) w := by
  have : ∀ d, (Op.equalIn (d + 1) t (.bool a) (.bool b)).run P w = .ok (a == b) w := fun d => by
    unfold Op.equalIn
    simp [run_underlying (und_bool h)]
  exact this 9999
section
variable {P : Program} {S : Addr → Prop} {w : World} {op : BinOp} {t : TypeId}
theorem nil_run {u v : Value} (px py : Operand) (h : nilS (ty P t) op u v) : ∃ z, (do eqGuard op t px py u v; binOp op t u v : Sem Value).run P w = .ok z w ∧ R S w z (eqR op (nilQ u v)) := by
  have deep : ∀ {r : Bool} {x y : Value}, (∀ d, (Op.equalIn (d + 1) t x y).run P w = .ok r w) → (Op.equal t x y).run P w = .ok r w := fun h => h 9999
  have key : (nilQ u v).isSome = true → (ty P t).kind = nilK u → (eqGuard op t px py u v = pure ()) ∧ ∃ r, nilQ u v = some r ∧ (Op.equal t u v).run P w = .ok r w := fun h1 h2 => by
    unfold nilQ at h1
    split at h1
    · have hu := und_ptr h2
      split at h1
      · refine ⟨by unfold eqGuard; split <;> rfl, _, rfl, ?_⟩
        exact deep fun d => by unfold Op.equalIn; simp [run_underlying hu]
      · refine ⟨by unfold eqGuard; split <;> rfl, _, rfl, ?_⟩
        exact deep fun d => by unfold Op.equalIn; simp [run_underlying hu]
      · cases h1
    · have hu := und_slice h2
      split at h1
      · refine ⟨by unfold eqGuard; split <;> rfl, _, rfl, ?_⟩
        exact deep fun d => by unfold Op.equalIn; simp [run_underlying hu]
      · refine ⟨by unfold eqGuard; split <;> rfl, _, rfl, ?_⟩
        exact deep fun d => by unfold Op.equalIn; simp [run_underlying hu]
      · cases h1
    · have hu := und_map h2
      split at h1
      · refine ⟨by unfold eqGuard; split <;> rfl, _, rfl, ?_⟩
        exact deep fun d => by unfold Op.equalIn; simp [run_underlying hu]
      · refine ⟨by unfold eqGuard; split <;> rfl, _, rfl, ?_⟩
        exact deep fun d => by unfold Op.equalIn; simp [run_underlying hu]
      · cases h1
    · cases h1
  unfold nilS at h
  split at h
  · obtain ⟨h1, h2⟩ := h
    obtain ⟨g1, r, g2, g3⟩ := key h1 h2
    rw [g1, g2]
    refine ⟨.bool r, ?_, .bool r⟩
    have : binOp .eql t u v = (do pure (.bool (← Op.equal t u v))) := by cases u <;> first | rfl | cases h1
    rw [this]
    simp [g3]
  · obtain ⟨h1, h2⟩ := h
    obtain ⟨g1, r, g2, g3⟩ := key h1 h2
    rw [g1, g2]
    refine ⟨.bool !r, ?_, .bool _⟩
    have : binOp .neq t u v = (do pure (.bool (!(← Op.equal t u v)))) := by cases u <;> first | rfl | cases h1
    rw [this]
    simp [g3]
  · exact h.elim
end
theorem bin_run {P : Program} {S : Addr → Prop} {w : World} {op : BinOp} {t : TypeId} {x y : Value} {a b : V} (px py : Operand) (hx : R S w x a) (hy : R S w y b) (h : binS P t op a b) :
    ∃ v, (do eqGuard op t px py x y; binOp op t x y : Sem Value).run P w = .ok v w ∧ R S w v (binV op a b) := by
  cases hx with
  | int k m =>
    cases hy with
    | int k' n =>
      have hg : eqGuard op t px py (.int k m) (.int k' n) = pure () := by unfold eqGuard; split <;> rfl
      rw [hg]
      cases op <;> simp only [binS] at h <;> first | subst h | (obtain ⟨rfl, h⟩ := h) | skip
      all_goals simp only [binV, binOp, Op.intArith, Op.intDiv, Op.intBits, Op.intCmp, Op.shift]
      all_goals (simp [Int.not_lt.2, *]; first | exact .int _ _ | exact .bool _)
    | _ => exact h.elim
  | str c =>
    cases hy with
    | str e =>
      have hg : eqGuard op t px py (.string (bs c)) (.string (bs e)) = pure () := by unfold eqGuard; split <;> rfl
      rw [hg]
      cases op <;> simp only [binS] at h <;> first | exact h.elim | skip
      all_goals simp only [binV, binOp, Op.stringOp, bs_toList, bs_size]
      case add =>
        rw [if_neg (by simp [IntKind.max, IntKind.bits, IntKind.signed]; omega)]
        refine ⟨_, by simp; rfl, ?_⟩
        rw [show bs c ++ bs e = bs (c ++ e) from ByteArray.mk_append_mk c e]
        exact .str _
      all_goals (refine ⟨_, by simp; rfl, ?_⟩; exact .bool _)
    | _ => exact h.elim
  | bool c =>
    cases hy with
    | bool e =>
      have hg : eqGuard op t px py (.bool c) (.bool e) = pure () := by unfold eqGuard; split <;> rfl
      rw [hg]
      cases op <;> simp only [binS] at h <;> first | exact h.elim | skip
      all_goals
        simp only [binV, binOp]
        refine ⟨_, by simp [equal_bool h]; rfl, ?_⟩
        exact .bool _
    | _ => exact h.elim
  | agg xs cs hn hr =>
    cases hy with
    | agg ys ds hn' hr' =>
      simp only [binS, eqTS] at h
      have key : ∀ ks, eqT P t = some ks → eqLS ks cs ds → (eqGuard op t px py (.agg xs) (.agg ys)).run P w = .ok () w ∧ (Op.equalIn 10000 t (.agg xs) (.agg ys)).run P w = .ok (eqL cs ds) w := fun ks hk he => by
        unfold eqT at hk
        split at hk
        · cases hk
        · rename_i hg
          have hg' : P.eqGuardType P.depth t = false := by
            cases hs : P.eqGuardType P.depth t with
            | true => exact absurd (.inl hs) hg
            | false => rfl
          refine ⟨run_eqGuard_agg w op t px py xs ys hg', ?_⟩
          have hk6 : (ty P t).kind = 6 := Decidable.byContradiction fun hk => hg (.inr hk)
          refine eq_run 6 t ks hk 10000 (by omega) S w _ _ (.agg cs) (.agg ds) (.agg _ _ hn hr) (.agg _ _ hn' hr') (fun _ => ⟨rfl, rfl⟩) (fun ha => ?_) he
          rw [(ty_agg (P := P) (t := t) (by omega)).1 hk6] at ha
          cases ha
      split at h
      · split at h
        · rename_i ks hk
          obtain ⟨g1, g2⟩ := key ks hk h
          refine ⟨_, ?_, .bool (eqL cs ds)⟩
          rw [Sem.run_bind, g1]
          simp only [Result.andThen_ok]
          rw [run_eql_struct, g2]
          rfl
        · exact h.elim
      · split at h
        · rename_i ks hk
          obtain ⟨g1, g2⟩ := key ks hk h
          refine ⟨_, ?_, .bool !(eqL cs ds)⟩
          rw [Sem.run_bind, g1]
          simp only [Result.andThen_ok]
          rw [run_neq_struct, g2]
          rfl
        · exact h.elim
      · exact h.elim
    | _ => exact h.elim
  | raw u =>
    cases hy with
    | raw v => exact nil_run px py h
    | gs v l hl => exact nil_run px py h
    | sp b cs h1 h3 h4 =>
      simp only [binS] at h
      unfold spS at h
      split at h
      · split at h
        · exact nil_run (u := .pointer none) (v := .pointer (some b)) px py ⟨rfl, h⟩
        · exact nil_run (u := .pointer none) (v := .pointer (some b)) px py ⟨rfl, h⟩
        · exact h.elim
      · exact h.elim
    | _ => exact h.elim
  | sp b cs h1 h3 h4 =>
    cases hy with
    | raw v =>
      simp only [binS] at h
      unfold spS at h
      split at h
      · split at h
        · exact nil_run (u := .pointer (some b)) (v := .pointer none) px py ⟨rfl, h⟩
        · exact nil_run (u := .pointer (some b)) (v := .pointer none) px py ⟨rfl, h⟩
        · exact h.elim
      · exact h.elim
    | _ => exact h.elim
  | gs u l hl =>
    cases hy with
    | raw v => exact nil_run px py h
    | gs v l hl => exact nil_run px py h
    | sl a n cap m sz hn hc ha h1 h2 h3 h4 =>
      obtain ⟨g1, rfl, g2⟩ := h
      cases a with
      | none => exact absurd (ha rfl) g1
      | some a =>
        unfold nilS at g2
        split at g2
        · exact nil_run (u := .slice none 0 0) (v := .slice (some a) n cap) px py ⟨rfl, g2.2⟩
        · exact nil_run (u := .slice none 0 0) (v := .slice (some a) n cap) px py ⟨rfl, g2.2⟩
        · exact g2.elim
    | _ => exact h.elim
  | sl a n cap m sz hn hc ha h1 h2 h3 h4 =>
    cases hy with
    | gs v l hl =>
      obtain ⟨g1, rfl, g2⟩ := h
      cases a with
      | none => exact absurd (ha rfl) g1
      | some a =>
        unfold nilS at g2
        split at g2
        · exact nil_run (u := .slice (some a) n cap) (v := .slice none 0 0) px py ⟨rfl, g2.2⟩
        · exact nil_run (u := .slice (some a) n cap) (v := .slice none 0 0) px py ⟨rfl, g2.2⟩
        · exact g2.elim
    | _ => exact h.elim
  | _ => exact h.elim
end Go.Proofs.YtnnigbnlhhikjaaDoor
