/- Frames as bytes; what becomes of one whose byte is turned. No statement of the program. -/
import Derived.Test.YtfamfamgopchnaaGreatDoorFm1
import Derived.Test.YtfamfamgopchnaaGreatDoorTb
namespace Go.Proofs.YtfamfamgopchnaaGreatDoor
open Go.RowKit
set_option linter.unusedSimpArgs false
set_option linter.unusedVariables false
set_option linter.unusedSectionVars false

structure TFrame where
  kind : Int
  fr : Int
  ep : Int
  at_ : Int
  sums : List Int
  seen : List TDot
  tab : TTable
  seq : Int
  topic : Str
  payload : Str
  qos : Int
  retain : Bool
  deriving DecidableEq, Inhabited
def dotBy (d : TDot) : Str := numsL [d.node, d.epoch, d.n]
def flatBy {α : Type} (f : α → Str) (l : List α) : Str := (l.map f).flatten
def dotsBy (l : List TDot) : Str := numsL [(l.length : Int)] ++ flatBy dotBy l
def fenceBy (f : TFence) : Str := numsL [f.node, f.epoch]
def textBy (t : Str) : Str := numsL [(t.length : Int)] ++ t
def routeBy (r : TRoute) : Str := numsL [r.dot.node, r.dot.epoch, r.dot.n] ++ textBy r.filter
def goneI (b : Bool) : Int := if b = true then 1 else 0
def cellBy (c : TCell) : Str := numsL [c.dot.node, c.dot.epoch, c.dot.n, c.stamp.l, c.stamp.c, c.stamp.node] ++ textBy c.topic ++ textBy c.payload ++ numsL [c.qos, goneI c.gone]
def tableBy (t : TTable) : Str := dotsBy t.seen ++ numsL [(t.fences.length : Int)] ++ flatBy fenceBy t.fences ++ numsL [(t.routes.length : Int)] ++ flatBy routeBy t.routes ++ numsL [(t.cells.length : Int)] ++ flatBy cellBy t.cells
def sumBy (x : Int) : Str := leK 8 x
def restBy (f : TFrame) : Str :=
  if f.kind = 1 then numsL [(f.sums.length : Int)] ++ flatBy sumBy f.sums ++ dotsBy f.seen
  else if f.kind = 2 then tableBy f.tab
  else numsL [f.seq] ++ textBy f.topic ++ textBy f.payload ++ numsL [f.qos]
def headBy (f : TFrame) : Str := [72, 66, 49, byteI f.kind] ++ numsL [f.fr, f.ep, f.at_]
def bodyBy (f : TFrame) : Str := headBy f ++ restBy f
def fullBy (f : TFrame) : Str := bodyBy f ++ leK 8 (fnvV (bodyBy f))
def wordB (f : TFrame) : Bool := decide (f.seq = 0) && decide (f.topic = []) && decide (f.payload = []) && decide (f.qos = 0) && !f.retain
def frameB (f : TFrame) : Bool :=
  decide (0 ≤ f.fr) && decide (f.fr < 16) && decide (1 ≤ f.ep) && decide (f.ep ≤ 2147483647) && decide (0 ≤ f.at_) && decide (f.at_ ≤ 1099511627776) &&
  (if f.kind = 1 then decide (f.sums.length = 10) && rightB f.seen && decide (f.tab = emptyT) && wordB f
   else if f.kind = 2 then decide (f.sums = []) && decide (f.seen = []) && tabB f.tab && wordB f
   else if f.kind = 3 then decide (f.sums = []) && decide (f.seen = []) && decide (f.tab = emptyT) && decide (1 ≤ f.seq) && decide (f.seq ≤ 2147483647) && nameB f.topic && decide (0 ≤ f.qos) && decide (f.qos ≤ 2) && !f.retain
   else false)

/-! How long. -/
theorem flatBy_len {α : Type} {f : α → Str} {n : Nat} : ∀ {l : List α}, (∀ x ∈ l, (f x).length = n) → (flatBy f l).length = n * l.length
  | [], _ => rfl
  | x :: l, h => by
    have := flatBy_len (f := f) (n := n) (l := l) (fun y hy => h y (List.mem_cons_of_mem _ hy))
    simp only [flatBy, List.map_cons, List.flatten_cons, List.length_append, List.length_cons] at this ⊢
    rw [this, h x (List.mem_cons_self ..), Nat.mul_add]; omega
theorem flatBy_le {α : Type} {f : α → Str} {n : Nat} : ∀ {l : List α}, (∀ x ∈ l, (f x).length ≤ n) → (flatBy f l).length ≤ n * l.length
  | [], _ => Nat.zero_le _
  | x :: l, h => by
    have := flatBy_le (f := f) (n := n) (l := l) (fun y hy => h y (List.mem_cons_of_mem _ hy))
    have h1 := h x (List.mem_cons_self ..)
    simp only [flatBy, List.map_cons, List.flatten_cons, List.length_append, List.length_cons] at this ⊢
    rw [Nat.mul_add]; omega
theorem flatBy_snoc {α : Type} (f : α → Str) (l : List α) (x : α) : flatBy f (l ++ [x]) = flatBy f l ++ f x := by simp [flatBy]
theorem flatBy_next {α : Type} [Inhabited α] (f : α → Str) {l : List α} {k : Nat} (h : k < l.length) : flatBy f (l.take (k + 1)) = flatBy f (l.take k) ++ f (l.getD k default) := by rw [take_more l k h, flatBy_snoc]
theorem textBy_len (t : Str) : (textBy t).length = 8 + t.length := by simp [textBy, numsL_len]
theorem dotBy_len (d : TDot) : (dotBy d).length = 24 := numsL_len _
theorem fenceBy_len (d : TFence) : (fenceBy d).length = 16 := numsL_len _
theorem routeBy_len (r : TRoute) : (routeBy r).length = 32 + r.filter.length := by simp [routeBy, numsL_len, textBy_len]; omega
theorem cellBy_len (c : TCell) : (cellBy c).length = 80 + c.topic.length + c.payload.length := by simp [cellBy, numsL_len, textBy_len]; omega
theorem dotsBy_len (l : List TDot) : (dotsBy l).length = 8 + 24 * l.length := by
  rw [dotsBy, List.length_append, numsL_len, flatBy_len (n := 24) (fun x _ => dotBy_len x)]; rfl
theorem headBy_len (f : TFrame) : (headBy f).length = 28 := by simp [headBy, numsL_len]
theorem fullBy_len (f : TFrame) : (fullBy f).length = 36 + (restBy f).length := by simp only [fullBy, bodyBy, List.length_append, headBy_len, leK_len]; omega

/-! One byte is another one. -/
theorem bv_of {h h' : Int} (h1 : 0 ≤ h ∧ h ≤ 18446744073709551615) (h2 : 0 ≤ h' ∧ h' ≤ 18446744073709551615) (e : BitVec.ofInt 64 h = BitVec.ofInt 64 h') : h = h' := by
  have := congrArg BitVec.toNat e
  rw [BitVec.toNat_ofInt, BitVec.toNat_ofInt] at this
  omega
theorem mul_back (z : Nat) (hz : z < 18446744073709551616) : (z * 1099511628211 % 18446744073709551616 * 14886173955864302971) % 18446744073709551616 = z := by
  rw [Nat.mod_mul_mod, Nat.mul_assoc, show (1099511628211 * 14886173955864302971 : Nat) = 1 + 887285111055 * 18446744073709551616 from rfl, Nat.mul_add, Nat.mul_one, ← Nat.mul_assoc, Nat.add_mul_mod_self_right, Nat.mod_eq_of_lt hz]
theorem mul_inj {x y : Nat} (hx : x < 18446744073709551616) (hy : y < 18446744073709551616) (e : IntKind.u64.wrap (IntKind.u64.wrap (x : Int) * 1099511628211) = IntKind.u64.wrap (IntKind.u64.wrap (y : Int) * 1099511628211)) : x = y := by
  rw [wrap_u64 (x : Int) (by omega) (by omega), wrap_u64 (y : Int) (by omega) (by omega)] at e
  simp only [IntKind.wrap, IntKind.bits, IntKind.signed] at e
  have e' : x * 1099511628211 % 18446744073709551616 = y * 1099511628211 % 18446744073709551616 := by
    have : ((x * 1099511628211 % 18446744073709551616 : Nat) : Int) = ((y * 1099511628211 % 18446744073709551616 : Nat) : Int) := by
      rw [Int.natCast_emod, Int.natCast_emod, Int.natCast_mul, Int.natCast_mul]
      exact e
    exact_mod_cast this
  rw [← mul_back x hx, e', mul_back y hy]
theorem fnvN_xor {h h' : Int} {c c' : UInt8} (e : fnvN h c = fnvN h' c') : BitVec.ofInt 64 h ^^^ BitVec.ofInt 64 (c.toNat : Int) = BitVec.ofInt 64 h' ^^^ BitVec.ofInt 64 (c'.toNat : Int) := by
  refine BitVec.eq_of_toNat_eq (mul_inj (BitVec.isLt _) (BitVec.isLt _) e)
theorem xor_r {n : Nat} {a b c : BitVec n} (h : a ^^^ c = b ^^^ c) : a = b := by
  have := congrArg (· ^^^ c) h
  simpa [BitVec.xor_assoc] using this
theorem xor_l {n : Nat} {a b c : BitVec n} (h : c ^^^ a = c ^^^ b) : a = b := by
  rw [BitVec.xor_comm c a, BitVec.xor_comm c b] at h
  exact xor_r h
theorem fnvN_inj {h h' : Int} {c : UInt8} (h1 : 0 ≤ h ∧ h ≤ 18446744073709551615) (h2 : 0 ≤ h' ∧ h' ≤ 18446744073709551615) (e : fnvN h c = fnvN h' c) : h = h' := bv_of h1 h2 (xor_r (fnvN_xor e))
theorem fnvN_byte {h : Int} {c c' : UInt8} (e : fnvN h c = fnvN h c') : c = c' := by
  have hc := c.toNat_lt; have hc' := c'.toNat_lt
  have := bv_of (by omega) (by omega) (xor_l (fnvN_xor e))
  exact UInt8.toNat_inj.1 (by omega)
theorem fnvF_inj : ∀ (s : Str) {h h' : Int}, (0 ≤ h ∧ h ≤ 18446744073709551615) → (0 ≤ h' ∧ h' ≤ 18446744073709551615) → s.foldl fnvN h = s.foldl fnvN h' → h = h'
  | [], _, _, _, _, e => e
  | c :: s, h, h', h1, h2, e => fnvN_inj h1 h2 (fnvF_inj s (fnvN_b h c) (fnvN_b h' c) e)
theorem fnv_turn {l : Str} {i : Nat} {c : UInt8} (hi : i < l.length) (hc : c ≠ l.getD i 0) : fnvV (l.set i c) ≠ fnvV l := by
  intro e
  have e1 : l.set i c = l.take i ++ c :: l.drop (i + 1) := by rw [List.set_eq_take_append_cons_drop, if_pos hi]
  have e2 : l = l.take i ++ l.getD i 0 :: l.drop (i + 1) := by
    have := List.take_append_drop i l
    rw [List.drop_eq_getElem_cons hi] at this
    rw [show l.getD i 0 = l[i] by simp [List.getD_eq_getElem?_getD, hi]]
    exact this.symm
  rw [e1] at e
  conv at e => rhs; rw [e2]
  simp only [fnvV, List.foldl_append, List.foldl_cons] at e
  have hb := fold_b (l.take i) 14695981039346656037 (by decide)
  exact hc (fnvN_byte (fnvF_inj _ (fnvN_b _ _) (fnvN_b _ _) e))
def valL : Str → Int
  | [] => 0
  | c :: s => c.toNat + 256 * valL s
theorem shK_shift (x : Int) : ∀ k, shK (k + 1) x = shK k (x.fdiv 256)
  | 0 => rfl
  | k + 1 => by
    have := shK_shift x k
    show (shK (k + 1) x).fdiv _ = (shK k (x.fdiv 256)).fdiv _
    rw [this]
theorem leK_cons (k : Nat) (x : Int) : leK (k + 1) x = byteI x :: leK k (x.fdiv 256) := by
  simp only [leK, List.range_succ_eq_map, List.map_cons, List.map_map]
  congr 1
  apply List.map_congr_left
  intro i _
  show byteI (shK (i + 1) x) = _
  rw [shK_shift]
theorem leK_val : ∀ s : Str, leK s.length (valL s) = s ∧ 0 ≤ valL s ∧ valL s < 256 ^ s.length
  | [] => ⟨rfl, by decide, by decide⟩
  | c :: s => by
    obtain ⟨h1, h2, h3⟩ := leK_val s
    have hc := c.toNat_lt
    have e : (valL (c :: s)).fdiv 256 = valL s := by
      rw [Int.fdiv_eq_ediv_of_nonneg _ (by decide)]
      show (c.toNat + 256 * valL s) / 256 = _
      omega
    refine ⟨?_, ?_, ?_⟩
    · rw [List.length_cons, leK_cons, e, h1]
      congr 1
      unfold byteI
      have : ((valL (c :: s)) % 256).toNat = c.toNat := by
        show ((c.toNat + 256 * valL s : Int) % 256).toNat = _
        omega
      rw [this]; exact UInt8.ofNat_toNat
    · show 0 ≤ (c.toNat : Int) + 256 * valL s; omega
    · show (c.toNat : Int) + 256 * valL s < 256 ^ (s.length + 1)
      rw [Int.pow_succ]; omega
theorem val_8 {s : Str} (h : s.length = 8) : leK 8 (valL s) = s ∧ 0 ≤ valL s ∧ valL s ≤ 18446744073709551615 := by
  obtain ⟨h1, h2, h3⟩ := leK_val s
  rw [h] at h1 h3
  have e : (256 : Int) ^ 8 = 18446744073709551616 := by decide
  exact ⟨h1, h2, by omega⟩
/-- The frame's bytes, one of them turned: either the beginning is another one, or the sum doesn't fit. -/
theorem turned {body : Str} {i : Nat} {c : UInt8} (hb : 3 ≤ body.length) (hm : body.take 3 = [72, 66, 49]) (hi : i < body.length + 8) (hc : c ≠ (body ++ leK 8 (fnvV body)).getD i 0) :
    (i < 3 → ((body ++ leK 8 (fnvV body)).set i c).take 3 ≠ [72, 66, 49]) ∧
    (3 ≤ i → ((body ++ leK 8 (fnvV body)).set i c).take 3 = [72, 66, 49] ∧ ∃ x : Int, (0 ≤ x ∧ x ≤ 18446744073709551615) ∧ ((body ++ leK 8 (fnvV body)).set i c).drop body.length = leK 8 x ∧ x ≠ fnvV (((body ++ leK 8 (fnvV body)).set i c).take body.length)) := by
  have hl : (leK 8 (fnvV body)).length = 8 := leK_len _ _
  refine ⟨fun h3 e => ?_, fun h3 => ?_⟩
  · rw [List.take_set, List.take_append_of_le_length hb, hm] at e
    have e2 := congrArg (fun l => List.getD l i 0) e
    try simp only at e2
    rw [List.getD_eq_getElem?_getD, List.getElem?_set_self (by simpa using h3)] at e2
    have e3 : (body ++ leK 8 (fnvV body)).getD i 0 = ([72, 66, 49] : Str).getD i 0 := by
      rw [← hm, List.getD_eq_getElem?_getD, List.getD_eq_getElem?_getD, List.getElem?_append_left (by omega), List.getElem?_take_of_lt h3]
    rw [e3] at hc
    exact hc e2
  · have ht : ((body ++ leK 8 (fnvV body)).set i c).take 3 = [72, 66, 49] := by
      rw [List.take_set, List.set_eq_of_length_le (by rw [List.length_take]; omega), List.take_append_of_le_length hb, hm]
    refine ⟨ht, ?_⟩
    by_cases hib : i < body.length
    · rw [List.set_append_left _ _ hib, List.drop_left' (by rw [List.length_set]), List.take_left' (by rw [List.length_set])]
      refine ⟨fnvV body, fnv_b _, rfl, fun e => ?_⟩
      rw [List.getD_eq_getElem?_getD, List.getElem?_append_left hib, ← List.getD_eq_getElem?_getD] at hc
      exact fnv_turn hib hc e.symm
    · rw [List.set_append_right _ _ (by omega), List.drop_left, List.take_left]
      obtain ⟨v1, v2⟩ := val_8 (s := (leK 8 (fnvV body)).set (i - body.length) c) (by rw [List.length_set, hl])
      refine ⟨_, v2, v1.symm, fun e => ?_⟩
      rw [e] at v1
      rw [List.getD_eq_getElem?_getD, List.getElem?_append_right (by omega), ← List.getD_eq_getElem?_getD] at hc
      have := congrArg (fun l => List.getD l (i - body.length) 0) v1
      try simp only at this
      rw [List.getD_eq_getElem?_getD (l := List.set _ _ _), List.getElem?_set_self (by rw [hl]; omega)] at this
      exact hc this.symm
end Go.Proofs.YtfamfamgopchnaaGreatDoor
