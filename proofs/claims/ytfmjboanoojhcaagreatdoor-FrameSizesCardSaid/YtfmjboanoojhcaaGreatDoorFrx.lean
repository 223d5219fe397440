/- Frames as bytes; what becomes of one whose byte is turned. No statement of the program. -/
import Derived.Test.YtfmjboanoojhcaaGreatDoorPtgx
import Derived.Test.YtfmjboanoojhcaaGreatDoorTbx
import Derived.Test.YtfmjboanoojhcaaGreatDoorRf2x
import Derived.Test.YtfmjboanoojhcaaGreatDoorLp
import Derived.KernelRfl
import Derived.Test.YtfmjboanoojhcaaGreatDoorEu
import Derived.Test.YtfmjboanoojhcaaGreatDoorFm7x
namespace Go.Proofs.YtfmjboanoojhcaaGreatDoor
open Go.RowKit
set_option linter.unusedSimpArgs false
set_option linter.unusedVariables false
set_option linter.unusedSectionVars false

structure TFrame where
  kind : Int
  fr : Int
  ep : Int
  at_ : Int
  sums : List Int
  seen : List TDot
  tab : TTable
  seq : Int
  topic : Str
  payload : Str
  qos : Int
  retain : Bool
  deriving DecidableEq, Inhabited
def dotBy (d : TDot) : Str := numsL [d.node, d.epoch, d.n]
def flatBy {α : Type} (f : α → Str) (l : List α) : Str := (l.map f).flatten
def dotsBy (l : List TDot) : Str := numsL [(l.length : Int)] ++ flatBy dotBy l
def fenceBy (f : TFence) : Str := numsL [f.node, f.epoch]
def textBy (t : Str) : Str := numsL [(t.length : Int)] ++ t
def routeBy (r : TRoute) : Str := numsL [r.dot.node, r.dot.epoch, r.dot.n] ++ textBy r.filter
def goneI (b : Bool) : Int := if b = true then 1 else 0
def cellBy (c : TCell) : Str := numsL [c.dot.node, c.dot.epoch, c.dot.n, c.stamp.l, c.stamp.c, c.stamp.node] ++ textBy c.topic ++ textBy c.payload ++ numsL [c.qos, goneI c.gone]
def tableBy (t : TTable) : Str := dotsBy t.seen ++ numsL [(t.fences.length : Int)] ++ flatBy fenceBy t.fences ++ numsL [(t.routes.length : Int)] ++ flatBy routeBy t.routes ++ numsL [(t.cells.length : Int)] ++ flatBy cellBy t.cells
def sumBy (x : Int) : Str := leK 8 x
def restBy (f : TFrame) : Str :=
  if f.kind = 1 then numsL [(f.sums.length : Int)] ++ flatBy sumBy f.sums ++ dotsBy f.seen
  else if f.kind = 2 then tableBy f.tab
  else numsL [f.seq] ++ textBy f.topic ++ textBy f.payload ++ numsL [f.qos]
def headBy (f : TFrame) : Str := [72, 66, 49, byteI f.kind] ++ numsL [f.fr, f.ep, f.at_]
def bodyBy (f : TFrame) : Str := headBy f ++ restBy f
def fullBy (f : TFrame) : Str := bodyBy f ++ leK 8 (fnvV (bodyBy f))
def wordB (f : TFrame) : Bool := decide (f.seq = 0) && decide (f.topic = []) && decide (f.payload = []) && decide (f.qos = 0) && !f.retain
def frameB (f : TFrame) : Bool :=
  decide (0 ≤ f.fr) && decide (f.fr < 16) && decide (1 ≤ f.ep) && decide (f.ep ≤ 2147483647) && decide (0 ≤ f.at_) && decide (f.at_ ≤ 1099511627776) &&
  (if f.kind = 1 then decide (f.sums.length = 10) && rightB f.seen && decide (f.tab = emptyT) && wordB f
   else if f.kind = 2 then decide (f.sums = []) && decide (f.seen = []) && tabB f.tab && wordB f
   else if f.kind = 3 then decide (f.sums = []) && decide (f.seen = []) && decide (f.tab = emptyT) && decide (1 ≤ f.seq) && decide (f.seq ≤ 2147483647) && nameB f.topic && decide (0 ≤ f.qos) && decide (f.qos ≤ 2) && !f.retain
   else false)

/-! How long. -/
theorem flatBy_len {α : Type} {f : α → Str} {n : Nat} : ∀ {l : List α}, (∀ x ∈ l, (f x).length = n) → (flatBy f l).length = n * l.length
  | [], _ => rfl
  | x :: l, h => by
    have := flatBy_len (f := f) (n := n) (l := l) (fun y hy => h y (List.mem_cons_of_mem _ hy))
    simp only [flatBy, List.map_cons, List.flatten_cons, List.length_append, List.length_cons] at this ⊢
    rw [this, h x (List.mem_cons_self ..), Nat.mul_add]; omega
theorem flatBy_le {α : Type} {f : α → Str} {n : Nat} : ∀ {l : List α}, (∀ x ∈ l, (f x).length ≤ n) → (flatBy f l).length ≤ n * l.length
  | [], _ => Nat.zero_le _
  | x :: l, h => by
    have := flatBy_le (f := f) (n := n) (l := l) (fun y hy => h y (List.mem_cons_of_mem _ hy))
    have h1 := h x (List.mem_cons_self ..)
    simp only [flatBy, List.map_cons, List.flatten_cons, List.length_append, List.length_cons] at this ⊢
    rw [Nat.mul_add]; omega
theorem flatBy_snoc {α : Type} (f : α → Str) (l : List α) (x : α) : flatBy f (l ++ [x]) = flatBy f l ++ f x := by simp [flatBy]
theorem flatBy_next {α : Type} [Inhabited α] (f : α → Str) {l : List α} {k : Nat} (h : k < l.length) : flatBy f (l.take (k + 1)) = flatBy f (l.take k) ++ f (l.getD k default) := by rw [take_more l k h, flatBy_snoc]
theorem textBy_len (t : Str) : (textBy t).length = 8 + t.length := by simp [textBy, numsL_len]
theorem dotBy_len (d : TDot) : (dotBy d).length = 24 := numsL_len _
theorem fenceBy_len (d : TFence) : (fenceBy d).length = 16 := numsL_len _
theorem routeBy_len (r : TRoute) : (routeBy r).length = 32 + r.filter.length := by simp [routeBy, numsL_len, textBy_len]; omega
theorem cellBy_len (c : TCell) : (cellBy c).length = 80 + c.topic.length + c.payload.length := by simp [cellBy, numsL_len, textBy_len]; omega
theorem dotsBy_len (l : List TDot) : (dotsBy l).length = 8 + 24 * l.length := by
  rw [dotsBy, List.length_append, numsL_len, flatBy_len (n := 24) (fun x _ => dotBy_len x)]; rfl
theorem headBy_len (f : TFrame) : (headBy f).length = 28 := by simp [headBy, numsL_len]
theorem fullBy_len (f : TFrame) : (fullBy f).length = 36 + (restBy f).length := by simp only [fullBy, bodyBy, List.length_append, headBy_len, leK_len]; omega

/-! One byte is another one. -/
theorem bv_of {h h' : Int} (h1 : 0 ≤ h ∧ h ≤ 18446744073709551615) (h2 : 0 ≤ h' ∧ h' ≤ 18446744073709551615) (e : BitVec.ofInt 64 h = BitVec.ofInt 64 h') : h = h' := by
  have := congrArg BitVec.toNat e
  rw [BitVec.toNat_ofInt, BitVec.toNat_ofInt] at this
  omega
theorem mul_back (z : Nat) (hz : z < 18446744073709551616) : (z * 1099511628211 % 18446744073709551616 * 14886173955864302971) % 18446744073709551616 = z := by
  rw [Nat.mod_mul_mod, Nat.mul_assoc, show (1099511628211 * 14886173955864302971 : Nat) = 1 + 887285111055 * 18446744073709551616 from rfl, Nat.mul_add, Nat.mul_one, ← Nat.mul_assoc, Nat.add_mul_mod_self_right, Nat.mod_eq_of_lt hz]
theorem mul_inj {x y : Nat} (hx : x < 18446744073709551616) (hy : y < 18446744073709551616) (e : IntKind.u64.wrap (IntKind.u64.wrap (x : Int) * 1099511628211) = IntKind.u64.wrap (IntKind.u64.wrap (y : Int) * 1099511628211)) : x = y := by
  rw [wrap_u64 (x : Int) (by omega) (by omega), wrap_u64 (y : Int) (by omega) (by omega)] at e
  simp only [IntKind.wrap, IntKind.bits, IntKind.signed] at e
  have e' : x * 1099511628211 % 18446744073709551616 = y * 1099511628211 % 18446744073709551616 := by
    have : ((x * 1099511628211 % 18446744073709551616 : Nat) : Int) = ((y * 1099511628211 % 18446744073709551616 : Nat) : Int) := by
      rw [Int.natCast_emod, Int.natCast_emod, Int.natCast_mul, Int.natCast_mul]
      exact e
    exact_mod_cast this
  rw [← mul_back x hx, e', mul_back y hy]
theorem fnvN_xor {h h' : Int} {c c' : UInt8} (e : fnvN h c = fnvN h' c') : BitVec.ofInt 64 h ^^^ BitVec.ofInt 64 (c.toNat : Int) = BitVec.ofInt 64 h' ^^^ BitVec.ofInt 64 (c'.toNat : Int) := by
  refine BitVec.eq_of_toNat_eq (mul_inj (BitVec.isLt _) (BitVec.isLt _) e)
theorem xor_r {n : Nat} {a b c : BitVec n} (h : a ^^^ c = b ^^^ c) : a = b := by
  have := congrArg (· ^^^ c) h
  simpa [BitVec.xor_assoc] using this
theorem xor_l {n : Nat} {a b c : BitVec n} (h : c ^^^ a = c ^^^ b) : a = b := by
  rw [BitVec.xor_comm c a, BitVec.xor_comm c b] at h
  exact xor_r h
theorem fnvN_inj {h h' : Int} {c : UInt8} (h1 : 0 ≤ h ∧ h ≤ 18446744073709551615) (h2 : 0 ≤ h' ∧ h' ≤ 18446744073709551615) (e : fnvN h c = fnvN h' c) : h = h' := bv_of h1 h2 (xor_r (fnvN_xor e))
theorem fnvN_byte {h : Int} {c c' : UInt8} (e : fnvN h c = fnvN h c') : c = c' := by
  have hc := c.toNat_lt; have hc' := c'.toNat_lt
  have := bv_of (by omega) (by omega) (xor_l (fnvN_xor e))
  exact UInt8.toNat_inj.1 (by omega)
theorem fnvF_inj : ∀ (s : Str) {h h' : Int}, (0 ≤ h ∧ h ≤ 18446744073709551615) → (0 ≤ h' ∧ h' ≤ 18446744073709551615) → s.foldl fnvN h = s.foldl fnvN h' → h = h'
  | [], _, _, _, _, e => e
  | c :: s, h, h', h1, h2, e => fnvN_inj h1 h2 (fnvF_inj s (fnvN_b h c) (fnvN_b h' c) e)
theorem fnv_turn {l : Str} {i : Nat} {c : UInt8} (hi : i < l.length) (hc : c ≠ l.getD i 0) : fnvV (l.set i c) ≠ fnvV l := by
  intro e
  have e1 : l.set i c = l.take i ++ c :: l.drop (i + 1) := by rw [List.set_eq_take_append_cons_drop, if_pos hi]
  have e2 : l = l.take i ++ l.getD i 0 :: l.drop (i + 1) := by
    have := List.take_append_drop i l
    rw [List.drop_eq_getElem_cons hi] at this
    rw [show l.getD i 0 = l[i] by simp [List.getD_eq_getElem?_getD, hi]]
    exact this.symm
  rw [e1] at e
  conv at e => rhs; rw [e2]
  simp only [fnvV, List.foldl_append, List.foldl_cons] at e
  have hb := fold_b (l.take i) 14695981039346656037 (by decide)
  exact hc (fnvN_byte (fnvF_inj _ (fnvN_b _ _) (fnvN_b _ _) e))
def valL : Str → Int
  | [] => 0
  | c :: s => c.toNat + 256 * valL s
theorem shK_shift (x : Int) : ∀ k, shK (k + 1) x = shK k (x.fdiv 256)
  | 0 => rfl
  | k + 1 => by
    have := shK_shift x k
    show (shK (k + 1) x).fdiv _ = (shK k (x.fdiv 256)).fdiv _
    rw [this]
theorem leK_cons (k : Nat) (x : Int) : leK (k + 1) x = byteI x :: leK k (x.fdiv 256) := by
  simp only [leK, List.range_succ_eq_map, List.map_cons, List.map_map]
  congr 1
  apply List.map_congr_left
  intro i _
  show byteI (shK (i + 1) x) = _
  rw [shK_shift]
theorem leK_val : ∀ s : Str, leK s.length (valL s) = s ∧ 0 ≤ valL s ∧ valL s < 256 ^ s.length
  | [] => ⟨rfl, by decide, by decide⟩
  | c :: s => by
    obtain ⟨h1, h2, h3⟩ := leK_val s
    have hc := c.toNat_lt
    have e : (valL (c :: s)).fdiv 256 = valL s := by
      rw [Int.fdiv_eq_ediv_of_nonneg _ (by decide)]
      show (c.toNat + 256 * valL s) / 256 = _
      omega
    refine ⟨?_, ?_, ?_⟩
    · rw [List.length_cons, leK_cons, e, h1]
      congr 1
      unfold byteI
      have : ((valL (c :: s)) % 256).toNat = c.toNat := by
        show ((c.toNat + 256 * valL s : Int) % 256).toNat = _
        omega
      rw [this]; exact UInt8.ofNat_toNat
    · show 0 ≤ (c.toNat : Int) + 256 * valL s; omega
    · show (c.toNat : Int) + 256 * valL s < 256 ^ (s.length + 1)
      rw [Int.pow_succ]; omega
theorem val_8 {s : Str} (h : s.length = 8) : leK 8 (valL s) = s ∧ 0 ≤ valL s ∧ valL s ≤ 18446744073709551615 := by
  obtain ⟨h1, h2, h3⟩ := leK_val s
  rw [h] at h1 h3
  have e : (256 : Int) ^ 8 = 18446744073709551616 := by decide
  exact ⟨h1, h2, by omega⟩
/-- The frame's bytes, one of them turned: either the beginning is another one, or the sum doesn't fit. -/
theorem turned {body : Str} {i : Nat} {c : UInt8} (hb : 3 ≤ body.length) (hm : body.take 3 = [72, 66, 49]) (hi : i < body.length + 8) (hc : c ≠ (body ++ leK 8 (fnvV body)).getD i 0) :
    (i < 3 → ((body ++ leK 8 (fnvV body)).set i c).take 3 ≠ [72, 66, 49]) ∧
    (3 ≤ i → ((body ++ leK 8 (fnvV body)).set i c).take 3 = [72, 66, 49] ∧ ∃ x : Int, (0 ≤ x ∧ x ≤ 18446744073709551615) ∧ ((body ++ leK 8 (fnvV body)).set i c).drop body.length = leK 8 x ∧ x ≠ fnvV (((body ++ leK 8 (fnvV body)).set i c).take body.length)) := by
  have hl : (leK 8 (fnvV body)).length = 8 := leK_len _ _
  refine ⟨fun h3 e => ?_, fun h3 => ?_⟩
  · rw [List.take_set, List.take_append_of_le_length hb, hm] at e
    have e2 := congrArg (fun l => List.getD l i 0) e
    try simp only at e2
    rw [List.getD_eq_getElem?_getD, List.getElem?_set_self (by simpa using h3)] at e2
    have e3 : (body ++ leK 8 (fnvV body)).getD i 0 = ([72, 66, 49] : Str).getD i 0 := by
      rw [← hm, List.getD_eq_getElem?_getD, List.getD_eq_getElem?_getD, List.getElem?_append_left (by omega), List.getElem?_take_of_lt h3]
    rw [e3] at hc
    exact hc e2
  · have ht : ((body ++ leK 8 (fnvV body)).set i c).take 3 = [72, 66, 49] := by
      rw [List.take_set, List.set_eq_of_length_le (by rw [List.length_take]; omega), List.take_append_of_le_length hb, hm]
    refine ⟨ht, ?_⟩
    by_cases hib : i < body.length
    · rw [List.set_append_left _ _ hib, List.drop_left' (by rw [List.length_set]), List.take_left' (by rw [List.length_set])]
      refine ⟨fnvV body, fnv_b _, rfl, fun e => ?_⟩
      rw [List.getD_eq_getElem?_getD, List.getElem?_append_left hib, ← List.getD_eq_getElem?_getD] at hc
      exact fnv_turn hib hc e.symm
    · rw [List.set_append_right _ _ (by omega), List.drop_left, List.take_left]
      obtain ⟨v1, v2⟩ := val_8 (s := (leK 8 (fnvV body)).set (i - body.length) c) (by rw [List.length_set, hl])
      refine ⟨_, v2, v1.symm, fun e => ?_⟩
      rw [e] at v1
      rw [List.getD_eq_getElem?_getD, List.getElem?_append_right (by omega), ← List.getD_eq_getElem?_getD] at hc
      have := congrArg (fun l => List.getD l (i - body.length) 0) v1
      try simp only at this
      rw [List.getD_eq_getElem?_getD (l := List.set _ _ _), List.getElem?_set_self (by rw [hl]; omega)] at this
      exact hc this.symm
end Go.Proofs.YtfmjboanoojhcaaGreatDoor
/- Numbers as digits; sums of texts. -/
namespace Go.Proofs.YtfmjboanoojhcaaGreatDoor
open Go.RowKit
set_option linter.unusedSimpArgs false
set_option linter.unusedVariables false
set_option linter.unusedSectionVars false
set_option maxHeartbeats 4000000
set_option maxRecDepth 100000
attribute [local irreducible] DW SeqD DV DOp DC DVX


def digB (n : Int) : List UInt8 := List.drop n.toNat (List.take (n + 1).toNat [48, 49, 50, 51, 52, 53, 54, 55, 56, 57])
def decF : Nat → Int → List UInt8
  | 0, n => digB n
  | k + 1, n => if n < 10 then digB n else decF k (n.tdiv 10) ++ digB (n.tmod 10)
def decM (n : Int) : List UInt8 := decF 18 n
theorem digB_len (n : Int) : (digB n).length ≤ 1 := by rw [digB, List.length_drop, List.length_take]; omega
theorem decF_len : ∀ (k : Nat) (n : Int), (decF k n).length ≤ k + 1
  | 0, n => digB_len n
  | k + 1, n => by
    unfold decF
    split
    · exact Nat.le_trans (digB_len n) (by omega)
    · rw [List.length_append]; have := decF_len k (n.tdiv 10); have := digB_len (n.tmod 10); omega
theorem decM_len (n : Int) : (decM n).length ≤ 19 := decF_len 18 n
theorem decF_1 {k : Nat} {n : Int} (h : n < 10) : decF (k + 1) n = digB n := by rw [decF, if_pos h]
theorem decF_2 {k : Nat} {n : Int} (h : 10 ≤ n) : decF (k + 1) n = decF k (n.tdiv 10) ++ digB (n.tmod 10) := by rw [decF, if_neg (by omega)]
theorem dec1_dc (n : Int) (F : Own) : (0 ≤ n ∧ n < 10) → DC Tryz.prog 124 [.int .i64 n] (([] : Own) ++ F) fun d G => d = .str (digB n) ∧ G = [] ++ F := by
  intro hA
  obtain ⟨h0, h1⟩ := hA
  refine DC.bodyS (n_ := 22) (show Tryz.prog.funcs[124]? = some Tryz.f124 by kernel_rfl) rfl rfl (by rfl) ?_
  simp only [env0, List.cons_append, List.nil_append]
  have kw := ksIs [0, 2, 4, 10]
  have ow := ownIs []
  repeat' (first
    | refine g_ ?_
    | ((with_reducible refine And.intro ?_ ?_); (exact sv))
    | (refine DW.cond (by rfl) ?_ ?_ <;> (first | exact i0_ | (refine ic_ ?_; intro hb)))
    | ((with_reducible refine FVg_cases ?_ ?_) <;> (intro hb; rw [hb]; revert hb; (first | exact i0_ | (refine i_ ?_; intro hb))))
    | refine r_ ?_
    | refine k_ ?_
    | refine o_ ?_
    | refine f_ ?_
    | with_reducible intro b)
  all_goals first
  | (exfalso; omega)
  | ((first | exact fin_ | refine finq_ ?_); done)
  | (trivial)
theorem decK_dc : ∀ (k : Nat), k ≤ 30 → ∀ (n : Int) (F : Own), (0 ≤ n ∧ n < 10 ^ (k + 1) ∧ n ≤ 9223372036854775807) → DC Tryz.prog 124 [.int .i64 n] (([] : Own) ++ F) fun d G => d = .str (decF k n) ∧ G = [] ++ F := by
  intro k
  induction k with
  | zero => intro hk30 n F hA; exact dec1_dc n F ⟨hA.1, by have := hA.2.1; simpa using this⟩
  | succ k ih =>
    intro hk30 n F hA
    have ih := ih (by omega)
    obtain ⟨h0, h1, h2⟩ := hA
    have hp : (10 : Int) ^ (k + 1 + 1) = 10 * 10 ^ (k + 1) := by rw [Int.pow_succ]; omega
    rw [hp] at h1
    have hm0 := Int.tmod_nonneg 10 h0
    have hm1 := Int.tmod_lt_of_pos n (show (0 : Int) < 10 by decide)
    have hq : n.tdiv 10 = n / 10 := Int.tdiv_eq_ediv_of_nonneg h0
    have hq0 : 0 ≤ n.tdiv 10 := by omega
    have hq1 : n.tdiv 10 < 10 ^ (k + 1) := by omega
    have hq2 : n.tdiv 10 ≤ 9223372036854775807 := by omega
    have l1 := decF_len k (n.tdiv 10)
    have l2 := digB_len (n.tmod 10)
    clear hp hq
    refine DC.bodyS (n_ := 22) (show Tryz.prog.funcs[124]? = some Tryz.f124 by kernel_rfl) rfl rfl (by rfl) ?_
    simp only [env0, List.cons_append, List.nil_append]
    have kw := ksIs [0, 2, 4, 10]
    have ow := ownIs []
    repeat' (first
      | refine g_ ?_
      | ((with_reducible refine And.intro ?_ ?_); (first | exact True.intro | omega | assumption | (simp only [List.length_append]; omega) | (simp <;> fail) | (simp; omega)))
      | (refine DW.cond (by rfl) ?_ ?_ <;> (first | exact i0_ | (refine ic_ ?_; intro hb)))
      | ((with_reducible refine FVg_cases ?_ ?_) <;> (intro hb; rw [hb]; revert hb; (first | exact i0_ | (refine i_ ?_; intro hb))))
      | refine r_ ?_
      | refine k_ ?_
      | (refine q_ (dec1_dc _ _) ?_ (ha := by first | exact True.intro | omega | assumption | (simp only [List.length_append]; omega) | (simp <;> fail) | (simp; omega)))
      | (refine q_ (ih _ _) ?_ (ha := by first | exact True.intro | omega | assumption | (simp only [List.length_append]; omega) | (simp <;> fail) | (simp; omega)))
      | refine o_ ?_
      | refine f_ ?_
      | with_reducible intro b)
    all_goals first
    | (exfalso; omega)
    | (rw [decF_1 (by omega)]; (first | exact fin_ | refine finq_ ?_); done)
    | (rw [decF_2 (by omega)]; (first | exact fin_ | refine finq_ ?_); done)
    | (trivial)
theorem dec_dc (n : Int) (F : Own) : (0 ≤ n ∧ n ≤ 9223372036854775807) → DC Tryz.prog 124 [.int .i64 n] (([] : Own) ++ F) fun d G => d = .str (decM n) ∧ G = [] ++ F := fun h => decK_dc 18 (by decide) n F ⟨h.1, by have := h.2; omega, h.2⟩
section
attribute [local push_cast 2000] u8 wrapU8
theorem rfnv_dc (t : List UInt8) (F : Own) : (t.length ≤ 1000000000000) → DC Tryz.prog 23 [.str t] (([] : Own) ++ F) fun d G => d = .int .u64 (fnvV t) ∧ G = [] ++ F := by
  intro hA
  have hs := hA
  refine DC.bodyS (n_ := 19) (show Tryz.prog.funcs[23]? = some Tryz.f23 by kernel_rfl) rfl rfl (by rfl) ?_
  simp only [env0, List.cons_append, List.nil_append]
  have kw := ksIs [0, 2, 3, 4, 8]
  have ow := ownIs []
  repeat' (first
    | ((with_reducible refine DW.loopB 0 (X := Nat) (fun x => x ≤ t.length) (fun x => [(0, .str t), (3, .int .u64 (fnvV (t.take x))), (4, .int .i64 x)]) (fun x => ([] : Own)) (fun x => t.length - x) (0) ?_ ?_ ?_); exact (Nat.zero_le _); (simp [Sub, get, keepL, fnv0] <;> fail); (try simp only [List.cons_append, List.nil_append]); refine pl_ ?_; intro k hk; (try simp only [List.cons_append, List.nil_append]))
    | refine g_ ?_
    | ((with_reducible refine And.intro ?_ ?_); (exact sv))
    | (refine DW.cond (by rfl) ?_ ?_ <;> (first | exact i0_ | (refine ic_ ?_; intro hb)))
    | ((with_reducible refine FVg_cases ?_ ?_) <;> (intro hb; rw [hb]; revert hb; (first | exact i0_ | (refine i_ ?_; intro hb))))
    | refine r_ ?_
    | refine k_ ?_
    | refine o_ ?_
    | refine f_ ?_
    | with_reducible intro b)
  all_goals first
  | (refine ⟨k + 1, ?_, ?_, ?_, ?_⟩; (((try simp only); omega)); (((try simp only); omega)); (simp [Sub, get, fnv_next t k (by omega), fnvN] <;> (fail)); (try dsimp only); (exact sub_))
  | ((first | exact fin_ | refine finq_ ?_); rw [List.take_of_length_le (by omega)])
end
theorem rbucket_dc (t : List UInt8) (F : Own) : (t.length ≤ 1000000000000) → DC Tryz.prog 121 [.str t] (([] : Own) ++ F) fun d G => d = .int .i64 (bucketV t) ∧ G = [] ++ F := by
  intro hA
  have hs := hA
  refine DC.bodyS (n_ := 7) (show Tryz.prog.funcs[121]? = some Tryz.f121 by kernel_rfl) rfl rfl (by rfl) ?_
  simp only [env0, List.cons_append, List.nil_append]
  have kw := ksIs [0, 2]
  have ow := ownIs []
  have hb := bucket_b t; have hf := fnv_b t; unfold bucketV at hb
  repeat' (first
    | refine g_ ?_
    | ((with_reducible refine And.intro ?_ ?_); (exact sv))
    | (refine DW.cond (by rfl) ?_ ?_ <;> (first | exact i0_ | (refine ic_ ?_; intro hb)))
    | ((with_reducible refine FVg_cases ?_ ?_) <;> (intro hb; rw [hb]; revert hb; (first | exact i0_ | (refine i_ ?_; intro hb))))
    | refine r_ ?_
    | refine k_ ?_
    | (refine q_ (rfnv_dc _ _) ?_)
    | refine o_ ?_
    | refine f_ ?_
    | with_reducible intro b)
  (first | exact fin_ | refine finq_ ?_)
  all_goals rfl
def dotM (a b c : Int) : List UInt8 := decM a ++ [32] ++ decM b ++ [32] ++ decM c
theorem dotM_len (a b c : Int) : (dotM a b c).length ≤ 59 := by
  have := decM_len a; have := decM_len b; have := decM_len c
  simp only [dotM, List.length_append, List.length_cons, List.length_nil]; omega
theorem rdot_dc (a b c : Int) (F : Own) : ((0 ≤ a ∧ a ≤ 9223372036854775807) ∧ (0 ≤ b ∧ b ≤ 9223372036854775807) ∧ (0 ≤ c ∧ c ≤ 9223372036854775807)) → DC Tryz.prog 122 [.agg [.int .i64 a, .int .i64 b, .int .i64 c]] (([] : Own) ++ F) fun d G => d = .str (dotM a b c) ∧ G = [] ++ F := by
  intro hA
  obtain ⟨h1, h2, h3⟩ := hA
  refine DC.bodyS (n_ := 16) (show Tryz.prog.funcs[122]? = some Tryz.f122 by kernel_rfl) rfl rfl (by rfl) ?_
  simp only [env0, List.cons_append, List.nil_append]
  have kw := ksIs [0, 1, 2]
  have ow := ownIs []
  have dw1 := drIs 1 [] [1, 2, 5, 6, 10, 11]
  have := decM_len a; have := decM_len b; have := decM_len c
  repeat' (first
    | refine g_ ?_
    | ((with_reducible refine And.intro ?_ ?_); (exact sv))
    | (refine DW.cond (by rfl) ?_ ?_ <;> (first | exact i0_ | (refine ic_ ?_; intro hb)))
    | ((with_reducible first | refine FVg_cases ?_ ?_ | refine FDg_cases ?_ ?_) <;> (intro hb; rw [hb]; revert hb; (first | exact i0_ | (refine i_ ?_; intro hb))))
    | refine r_ ?_
    | refine d_ ?_
    | refine k_ ?_
    | ((refine dm_ ?_); (first | (refine v_ (dec_dc _ _) ?_)))
    | refine vo_ ?_
    | (refine q_ (dec_dc _ _) ?_)
    | refine o_ ?_
    | refine f_ ?_
    | refine vm_ ?_
    | with_reducible intro b)
  all_goals first
  | ((first | exact fin_ | refine finq_ ?_); done)
  | ((first | exact fin_ | refine finq_ ?_); simp [dotM]; done)
  | (trivial)
end Go.Proofs.YtfmjboanoojhcaaGreatDoor
/- Texts as hex digits. -/
namespace Go.Proofs.YtfmjboanoojhcaaGreatDoor
open Go.RowKit
set_option linter.unusedSimpArgs false
set_option linter.unusedVariables false
set_option linter.unusedSectionVars false
set_option maxHeartbeats 4000000
set_option maxRecDepth 100000
attribute [local irreducible] DW SeqD DV DOp DC DVX


def hexL : List UInt8 := [48, 49, 50, 51, 52, 53, 54, 55, 56, 57, 97, 98, 99, 100, 101, 102]
theorem hex_hi (c : UInt8) : 0 ≤ (c.toNat : Int).fdiv (2 ^ min 4 IntKind.u8.bits) ∧ (c.toNat : Int).fdiv (2 ^ min 4 IntKind.u8.bits) < 16 := by
  have hc := c.toNat_lt
  have e : (2 : Int) ^ min 4 IntKind.u8.bits = 16 := by decide
  rw [e, Int.fdiv_eq_ediv_of_nonneg _ (by decide)]
  omega
theorem hex_lo (c : UInt8) : 0 ≤ IntKind.u8.wrap ((BitVec.ofInt IntKind.u8.bits (c.toNat : Int) &&& BitVec.ofInt IntKind.u8.bits 15).toNat : Int) ∧ IntKind.u8.wrap ((BitVec.ofInt IntKind.u8.bits (c.toNat : Int) &&& BitVec.ofInt IntKind.u8.bits 15).toNat : Int) < 16 := by
  have h : (BitVec.ofInt IntKind.u8.bits (c.toNat : Int) &&& BitVec.ofInt IntKind.u8.bits 15).toNat ≤ 15 := by
    rw [BitVec.toNat_and]
    exact Nat.le_trans Nat.and_le_right (by decide)
  simp [IntKind.wrap, IntKind.bits, IntKind.signed] at h ⊢
  omega
def hexA (c : UInt8) : UInt8 := hexL.getD ((c.toNat : Int).fdiv (2 ^ min 4 IntKind.u8.bits)).toNat 0
def hexB (c : UInt8) : UInt8 := hexL.getD (IntKind.u8.wrap ((BitVec.ofInt IntKind.u8.bits (c.toNat : Int) &&& BitVec.ofInt IntKind.u8.bits 15).toNat : Int)).toNat 0
def hexK (t : List UInt8) (k : Nat) : List UInt8 := ((List.range k).map fun i => [hexA (t.getD i 0), hexB (t.getD i 0)]).flatten
theorem hexK_0 (t : List UInt8) : hexK t 0 = [] := rfl
theorem hexK_more (t : List UInt8) (k : Nat) : hexK t (k + 1) = hexK t k ++ [hexA (t.getD k 0), hexB (t.getD k 0)] := by simp [hexK, List.range_succ]
theorem hexK_len (t : List UInt8) (k : Nat) : (hexK t k).length = 2 * k := by
  induction k with
  | zero => rfl
  | succ k ih => rw [hexK_more, List.length_append, ih]; simp only [List.length_cons, List.length_nil]; omega
def hexM (t : List UInt8) : List UInt8 := if t = [] then [45] else hexK t t.length
theorem hexM_1 {t : List UInt8} (h : t = []) : hexM t = [45] := if_pos h
theorem hexM_2 {t : List UInt8} (h : ¬ t = []) : hexM t = hexK t t.length := if_neg h
theorem hexM_len (t : List UInt8) : (hexM t).length ≤ 2 * t.length + 1 := by
  unfold hexM; split
  · simp
  · rw [hexK_len]; omega
theorem sv_rhex_dc {p : Prop} (h : p := by first | exact sv | exact hex_hi _ | exact hex_lo _ | fail) : p := h
section
attribute [local push_cast 2000] u8 bytes_are bytes_back
theorem rhex_dc (t : List UInt8) (F : Own) : (t.length ≤ 1000000000) → DC Tryz.prog 123 [.str t] (([] : Own) ++ F) fun d G => d = .str (hexM t) ∧ G = [] ++ F := by
  intro hA
  have ht := hA
  refine DC.bodyS (n_ := 32) (show Tryz.prog.funcs[123]? = some Tryz.f123 by kernel_rfl) rfl rfl (by rfl) ?_
  simp only [env0, List.cons_append, List.nil_append]
  have kw := ksIs [0, 2, 3, 4, 6, 14]
  have ow := ownIs []
  have dw7 := drIs 7 [12] []
  repeat' (first
    | ((with_reducible refine DW.loopB 0 (X := Nat × Value) (fun x => x.1 ≤ t.length) (fun x => [(0, .str t), (3, .gs x.2 ((hexK t x.1).map u8)), (4, .int .i64 x.1)]) (fun x => .tail 1 x.2 :: ([] : Own)) (fun x => t.length - x.1) ((0, b)) ?_ ?_ ?_); exact (Nat.zero_le _); (simp [Sub, get, keepL, hexK_0] <;> fail); (try simp only [List.cons_append, List.nil_append]); refine pl_ ?_; intro ⟨k, v⟩ hk; (try simp only [List.cons_append, List.nil_append]); simp only at hk; have hkl := hexK_len t k)
    | refine g_ ?_
    | ((with_reducible refine And.intro ?_ ?_); (exact sv_rhex_dc))
    | (refine DW.cond (by rfl) ?_ ?_ <;> (first | exact i0_ | (refine ic_ ?_; intro hb)))
    | ((with_reducible first | refine FVg_cases ?_ ?_ | refine FDg_cases ?_ ?_) <;> (intro hb; rw [hb]; revert hb; (first | exact i0_ | (refine i_ ?_; intro hb))))
    | refine r_ ?_
    | refine d_ ?_
    | refine k_ ?_
    | refine vo_ ?_
    | refine o_ ?_
    | refine f_ ?_
    | refine vm_ ?_
    | with_reducible intro b)
  all_goals first
  | (rw [hexM_1 (by assumption)]; (first | exact fin_ | refine finq_ ?_); done)
  | (have hkl2 : k = t.length := by omega
     subst hkl2
     rw [hexM_2 (by assumption)]; (first | exact fin_ | refine finq_ ?_); done)
  | (refine ⟨(k + 1, b), ?_, ?_, ?_, ?_⟩; (((try simp only); omega)); (((try simp only); omega)); (simp [Sub, get, u8, hexK_more, hexA, hexB, hexL] <;> (fail)); (try dsimp only); (exact sub_); done)
end
end Go.Proofs.YtfmjboanoojhcaaGreatDoor
/- Maps that are owned, as lists of pairs: looked up, written, deleted from, counted, gone through. No statement of the program. -/
namespace Go.Proofs.YtfmjboanoojhcaaGreatDoor
open Go.RowKit
set_option linter.unusedSimpArgs false
set_option linter.unusedVariables false
set_option linter.unusedSectionVars false
section
variable {α β : Type} [DecidableEq α]
def lookA (k : α) : List (α × β) → Option β
  | x :: m => if k = x.1 then some x.2 else lookA k m
  | [] => none
def updA (k : α) (v : β) : List (α × β) → List (α × β)
  | x :: m => if k = x.1 then (x.1, v) :: m else x :: updA k v m
  | [] => [(k, v)]
def dropA (k : α) : List (α × β) → List (α × β)
  | x :: m => if k = x.1 then m else x :: dropA k m
  | [] => []
/-- The entries of a map that stands for a list of pairs. -/
def entM (ek : α → V) (ev : β → V) (l : List (α × β)) : List (V × V) := l.map fun x => (ek x.1, ev x.2)
theorem entM_nil (ek : α → V) (ev : β → V) : entM ek ev [] = [] := rfl
theorem entM_len (ek : α → V) (ev : β → V) (l : List (α × β)) : (entM ek ev l).length = l.length := List.length_map ..
/-- Keys that may be compared, and are alike just if they stand for one thing. -/
structure KeyE (ks : List Nat) (g : Bool) (ek : α → V) : Prop where
  eq : ∀ a b, eqLS ks (ek a).cs (ek b).cs
  dec : ∀ a b, eqL (ek a).cs (ek b).cs = decide (a = b)
  shape : ∀ a, (g = true → ek a = .agg (ek a).cs) ∧ (g = false → (ek a).cs = [ek a])
variable {ks : List Nat} {g : Bool} {ek : α → V} {ev : β → V}
theorem look_ent (h : KeyE ks g ek) (a : α) : ∀ l : List (α × β), lookV (ek a) (entM ek ev l) = (lookA a l).map ev
  | [] => rfl
  | x :: l => by
    have ih := look_ent h a l
    unfold entM at ih ⊢
    rw [List.map_cons]
    unfold lookV lookA
    rw [h.dec]
    by_cases e : a = x.1
    · rw [if_pos (decide_eq_true e), if_pos e]; rfl
    · rw [if_neg (by simp [e]), if_neg e]; exact ih
theorem upd_ent (h : KeyE ks g ek) (a : α) (v : β) : ∀ l : List (α × β), updV (ek a) (ev v) (entM ek ev l) = entM ek ev (updA a v l)
  | [] => rfl
  | x :: l => by
    have ih := upd_ent h a v l
    unfold entM at ih ⊢
    rw [List.map_cons]
    unfold updV updA
    rw [h.dec]
    by_cases e : a = x.1
    · rw [if_pos (decide_eq_true e), if_pos e]; rfl
    · rw [if_neg (by simp [e]), if_neg e, List.map_cons, ih]
theorem drop_ent (h : KeyE ks g ek) (a : α) : ∀ l : List (α × β), dropV (ek a) (entM ek ev l) = entM ek ev (dropA a l)
  | [] => rfl
  | x :: l => by
    have ih := drop_ent h a l
    unfold entM at ih ⊢
    rw [List.map_cons]
    unfold dropV dropA
    rw [h.dec]
    by_cases e : a = x.1
    · rw [if_pos (decide_eq_true e), if_pos e]
    · rw [if_neg (by simp [e]), if_neg e, List.map_cons, ih]
/-- A map's kinds of keys, and whether these are structs. -/
def mapT (P : Program) (t : TypeId) : Option (List Nat × Bool) := if (ty P t).kind = 8 then (keyT P (ty P t).key).map fun ks => (ks, (ty P (ty P t).key).agg) else none
theorem keyS_ent {P : Program} {t : TypeId} (h : KeyE ks g ek) (a : α) (l : List (α × β)) (ht : mapT P t = some (ks, g)) : KeyS P t (ek a) (entM ek ev l) := by
  unfold mapT at ht
  split at ht
  · rename_i h8
    cases hk : keyT P (ty P t).key with
    | none => rw [hk] at ht; cases ht
    | some ks' =>
      rw [hk] at ht
      simp only [Option.map_some, Option.some.injEq, Prod.mk.injEq] at ht
      obtain ⟨rfl, rfl⟩ := ht
      refine ⟨h8, ?_, ?_⟩
      · rw [hk]
        refine ⟨h.eq a a, fun x hx => ?_⟩
        obtain ⟨y, _, rfl⟩ := List.mem_map.1 hx
        exact h.eq a y.1
      · refine ⟨fun hg => ⟨(h.shape a).1 hg, fun x hx => ?_⟩, fun hg => ⟨(h.shape a).2 hg, fun x hx => ?_⟩⟩
        · obtain ⟨y, _, rfl⟩ := List.mem_map.1 hx; exact (h.shape y.1).1 hg
        · obtain ⟨y, _, rfl⟩ := List.mem_map.1 hx; exact (h.shape y.1).2 hg
  · cases ht
theorem keyS_nil {P : Program} {t : TypeId} (h : KeyE ks g ek) (a : α) (ht : mapT P t = some (ks, g)) : KeyS P t (ek a) [] := keyS_ent (β := α) (ev := ek) h a [] ht
end
theorem strE : KeyE [3] false V.str := ⟨fun a b => ⟨rfl, trivial⟩, fun a b => by rw [Bool.eq_iff_iff]; simp [V.cs, eqL], fun a => ⟨(fun h => nomatch h), fun _ => rfl⟩⟩
/-! What is said of the lists. -/
section
variable {α β : Type} [DecidableEq α]
theorem lookA_none {k : α} : ∀ {l : List (α × β)}, lookA k l = none ↔ ∀ x ∈ l, k ≠ x.1
  | [] => ⟨fun _ _ h => (nomatch h), fun _ => rfl⟩
  | x :: l => by
    unfold lookA
    by_cases e : k = x.1
    · rw [if_pos e]; exact ⟨(fun h => nomatch h), fun h => absurd e (h x List.mem_cons_self)⟩
    · rw [if_neg e, lookA_none]
      exact ⟨fun h y hy => by
        rcases List.mem_cons.1 hy with rfl | hy
        · exact e
        · exact h y hy, fun h y hy => h y (List.mem_cons_of_mem _ hy)⟩
theorem lookA_some {k : α} {v : β} : ∀ {l : List (α × β)}, lookA k l = some v → (k, v) ∈ l
  | [], h => by cases h
  | x :: l, h => by
    unfold lookA at h
    by_cases e : k = x.1
    · rw [if_pos e] at h; injection h with h; subst h; subst e; exact List.mem_cons_self
    · rw [if_neg e] at h; exact List.mem_cons_of_mem _ (lookA_some h)
theorem updA_new {k : α} {v : β} : ∀ {l : List (α × β)}, lookA k l = none → updA k v l = l ++ [(k, v)]
  | [], _ => rfl
  | x :: l, h => by
    unfold lookA at h
    unfold updA
    by_cases e : k = x.1
    · rw [if_pos e] at h; cases h
    · rw [if_neg e] at h ⊢
      rw [updA_new h]; rfl
end

theorem arr_getD (a : Array MapEntry) (i : Nat) : a.getD i default = a.toList.getD i default := by simp [Array.getD_eq_getD_getElem?, List.getD_eq_getElem?_getD]
theorem getD_erase {α : Type} (d : α) (l : List α) (j k : Nat) : (l.eraseIdx j).getD k d = l.getD (if k < j then k else k + 1) d := by
  rw [List.getD_eq_getElem?_getD, List.getElem?_eraseIdx]
  split <;> simp [List.getD_eq_getElem?_getD]
/-! The steps. -/
section
variable {P : Program} {o : Oper} {f : Operand → V} {H : Own} {K : V → Own → Prop}
theorem DVop.look_ {e : Env} {mv tm : List Nat} {ops : Array Oper} {K : Env → Own → Prop} {i : Nat} {rest : List Oper} {t : TypeId} {x ix : Operand} {ok : Bool} {r : Nat} (hm : mv.contains i = false) (ht : tm.contains i = true) (hop : o.op = .lookup t x ix ok) (hx : opd e x = .raw (.map (some r)))
    (h : OnM H r fun m _ => (KeyS P t (opd e ix) m ∧ (ty P (ty P t).elem).kind ≠ 0 ∧ (ty P (ty P t).elem).kind ≠ 11 ∧ (ty P (ty P t).elem).zero ≠ []) ∧
      FD P (mv ++ tm) ops (fun i' l' e' => DV P mv tm ops K i' l' e' H) (i + 1) rest (putO e o.dst (if ok = true then .tup [(lookV (opd e ix) m).getD (zeroD P (ty P t).elem), .bool (lookV (opd e ix) m).isSome] else (lookV (opd e ix) m).getD (zeroD P (ty P t).elem)))) : DVop P mv tm ops K i o rest e H := by
  obtain ⟨m, L1, L2, hH, h1, h2⟩ := h
  exact DVop.tm_ hm ht (DOp.look_ hop hx ⟨m, L1, L2, hH, h1, rfl, rfl⟩) h2
/-- How many entries. -/
theorem DOp.lenm_ {x : Operand} {T : TypeId} {r : Nat} (hop : o.op = .call { callee := .builtin .len, args := #[x], argTypes := #[T] }) (hx : f x = .raw (.map (some r)))
    (h : OnM H r fun m _ => (ty P T).kind = 8 ∧ K (.int .i64 m.length) H) : DOp P o f H K := by
  obtain ⟨m, L1, L2, rfl, h8, hk⟩ := h
  refine DOp.step fun a w hs hr => ?_
  have hv := hr x (by simp [hop, Op.operands, Call.operands])
  rw [hx] at hv
  have hv : a.eval x = .map (some r) := by generalize a.eval x = v at hv; cases hv; rfl
  obtain ⟨es, clock, g1, g2, g3, _, _⟩ := map_of hs
  refine ⟨goInt es.size, w, _, _, ?_, ⟨hs, .refl _ _⟩, ?_, hk⟩
  · unfold execOp
    rw [hop]
    have hget : (getObj r).run P w = .ok (.map es clock) w := by simp [getObj, Sem.run, g1]
    simp [resolve, invoke, Go.builtin, Builtin.len_, hv, run_underlying (und_map h8), hget]
  · rw [g3]; exact .int _ _
/-- An entry goes. -/
theorem DOp.delm_ {x ix : Operand} {t T : TypeId} {r : Nat} (hop : o.op = .call { callee := .builtin .delete, args := #[x, ix], argTypes := #[t, T] }) (hx : f x = .raw (.map (some r)))
    (h : OnM H r fun m C => KeyS P t (f ix) m ∧ K (.tup []) (C (.map r (dropV (f ix) m)))) : DOp P o f H K := by
  obtain ⟨m, L1, L2, rfl, hK, hk⟩ := h
  refine DOp.step fun a w hs hr => ?_
  have hv := hr x (by simp [hop, Op.operands, Call.operands])
  rw [hx] at hv
  have hv : a.eval x = .map (some r) := by generalize a.eval x = v at hv; cases hv; rfl
  have hi := hr ix (by simp [hop, Op.operands, Call.operands])
  obtain ⟨es, clock, g1, g2, g3, g4, g5⟩ := map_of hs
  obtain ⟨ks, hu, _, k1, k2⟩ := hK.parts
  have hck := hK.check hi es.isEmpty
  have hfi := hK.find hi g2
  have hget : (getObj r).run P w = .ok (.map es clock) w := by simp [getObj, Sem.run, g1]
  have hset : ∀ o' : Obj, (setObj r o').run P w = .ok () { w with heap := w.heap.setIfInBounds r o' } := fun o' => by simp [setObj, Sem.run, g1]
  have hdr := drop_place (kd := f ix) m 0
  cases hp : placeE (f ix) m 0 with
  | none =>
    rw [hp] at hfi hdr
    simp only at hdr
    refine ⟨.tuple #[], _, _, _, ?_, Sim.turn (m' := dropV (f ix) m) (es' := es) (clock' := clock) hs g1 (by rw [hdr]; exact g2) g4 g5, .tup _ _ rfl (fun _ h => absurd h (Nat.not_lt_zero _)), hk⟩
    unfold execOp
    rw [hop]
    simp [resolve, invoke, Go.builtin, Builtin.delete_, hv, run_underlying hu, hget, hck, hfi, hset]
  | some j =>
    rw [hp] at hfi hdr
    simp only [Nat.sub_zero] at hdr
    obtain ⟨_, j2, _⟩ := place_lt m 0 j hp
    have hj : j < es.size := by omega
    have hgd : ∀ i, i < es.size - 1 → ((es.eraseIdxIfInBounds j).getD i default) = es.getD (if i < j then i else i + 1) default := fun i hi => by
      have e : (es.eraseIdxIfInBounds j).toList = es.toList.eraseIdx j := by rw [Array.eraseIdxIfInBounds, dif_pos hj]; simp
      rw [arr_getD, arr_getD, e, getD_erase]
    have hsz : (es.eraseIdxIfInBounds j).size = es.size - 1 := by rw [Array.eraseIdxIfInBounds, dif_pos hj]; simp
    refine ⟨.tuple #[], _, _, _, ?_, Sim.turn (m' := dropV (f ix) m) (es' := es.eraseIdxIfInBounds j) (clock' := clock) hs g1 ?_ ?_ ?_, .tup _ _ rfl (fun _ h => absurd h (Nat.not_lt_zero _)), hk⟩
    · unfold execOp
      rw [hop]
      simp [resolve, invoke, Go.builtin, Builtin.delete_, hv, run_underlying hu, hget, hck, hfi, hset]
    · rw [hdr]
      have e : (es.eraseIdxIfInBounds j).toList = es.toList.eraseIdx j := by rw [Array.eraseIdxIfInBounds, dif_pos hj]; simp
      rw [e]
      exact RM.erase j g2
    · intro i k hik hk'
      rw [hsz] at hk'
      rw [hgd i (by omega), hgd k hk']
      refine g4 _ _ ?_ ?_
      · split <;> split <;> omega
      · split <;> omega
    · intro i hi'
      rw [hsz] at hi'
      rw [hgd i hi']
      refine g5 _ ?_
      split <;> omega
end

/-! Values of maps, where a key has none. -/
theorem opt_bool (o : Option Bool) : (o.map V.bool).getD (.bool false) = .bool (o.getD false) := by cases o <;> rfl
theorem opt_int (k : IntKind) (o : Option Int) : (o.map (V.int k)).getD (.int k 0) = .int k (o.getD 0) := by cases o <;> rfl
theorem opt_some {α : Type} (f : α → V) (o : Option α) : (o.map f).isSome = o.isSome := by cases o <;> rfl
theorem look_nil (kd : V) : lookV kd [] = none := rfl
theorem upd_nil (kd vd : V) : updV kd vd [] = [(kd, vd)] := rfl
section
variable {β : Type} {ev : β → V} {P : Program} {t : TypeId}
theorem look_str (s : List UInt8) (l : List (List UInt8 × β)) : lookV (.str s) (entM V.str ev l) = (lookA s l).map ev := look_ent strE s l
theorem upd_str (s : List UInt8) (v : β) (l : List (List UInt8 × β)) : updV (.str s) (ev v) (entM V.str ev l) = entM V.str ev (updA s v l) := upd_ent strE s v l
theorem drop_str (s : List UInt8) (l : List (List UInt8 × β)) : dropV (.str s) (entM V.str ev l) = entM V.str ev (dropA s l) := drop_ent strE s l
end
end Go.Proofs.YtfmjboanoojhcaaGreatDoor
