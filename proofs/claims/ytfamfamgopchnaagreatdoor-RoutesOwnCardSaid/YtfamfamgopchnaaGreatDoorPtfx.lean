/- Texts of plain runes are checked. -/
import Derived.Test.YtfamfamgopchnaaGreatDoorPtdx
import Derived.KernelRfl
import Derived.Shelf.Unicode.DecodeSlow
namespace Go.Proofs.YtfamfamgopchnaaGreatDoor
open Go.RowKit
set_option linter.unusedSimpArgs false
set_option linter.unusedVariables false
set_option linter.unusedSectionVars false
set_option maxHeartbeats 4000000
set_option maxRecDepth 100000


/-! What is known of a global table. -/
def OnK (H : Own) (b : Nat) (G : List V → Prop) : Prop := ∃ cs, Ent.know b cs ∈ H ∧ G cs
theorem OnK.here {H : Own} {b : Nat} {cs : List V} {G : List V → Prop} (h : G cs) : OnK (.know b cs :: H) b G := ⟨cs, List.mem_cons_self .., h⟩
theorem OnK.next {H : Own} {b : Nat} {e : Ent} {G : List V → Prop} (h : OnK H b G) : OnK (e :: H) b G := let ⟨cs, h1, h2⟩ := h; ⟨cs, List.mem_cons_of_mem _ h1, h2⟩
theorem OnK_id {H : Own} {b : Nat} {G : List V → Prop} (h : OnK H b G) : OnK H b G := h
theorem DOp.loadk_ {P : Program} {o : Oper} {f : Operand → V} {H : Own} {K : V → Own → Prop} {t : TypeId} {x : Operand} {b off : Nat} (hop : o.op = .load t x) (hx : f x = .raw (.pointer (some ⟨b, off, none⟩))) (h : OnK H b fun cs => partS (ty P t) (cs.drop off) 0 ∧ K (partV (ty P t) (cs.drop off) 0) H) : DOp P o f H K := by
  obtain ⟨cs, hm, hp, hk⟩ := h
  refine DOp.step fun a w hs hr => ?_
  have hv := hr x (by simp [hop, Op.operands])
  rw [hx] at hv
  have hv : a.eval x = .pointer (some ⟨b, off, none⟩) := by generalize a.eval x = v at hv; cases hv; rfl
  have hh := hs.holds _ hm
  obtain ⟨v, e1, e2⟩ := loadVar_run (P := P) (S := stable w H) (w := w) (t := t) (b := ⟨b, off, none⟩) (cs := cs.drop off) rfl (fun k hk => by
    rw [List.length_drop] at hk
    exact (hh (off + k) (by omega)).1.1) (fun k hk => by
    rw [List.length_drop] at hk
    have := (hh (off + k) (by omega)).2
    simpa [List.getD_eq_getElem?_getD, List.getElem?_drop] using this) hp
  refine ⟨v, w, _, _, ?_, ⟨hs, .refl _ _⟩, e2, hk⟩
  unfold execOp
  rw [hop]
  simp [Instr.loadAt, hv, Instr.sureAddr, e1]
def firstC : List V := (List.range 256).map fun c => .int .u8 (Go.Lib.firstT c)
def accC : List V := ((List.range 16).map fun i => [V.int .u8 (Go.Lib.accLo i), V.int .u8 (Go.Lib.accHi i)]).flatten
abbrev knF : Ent := .know 0 firstC
abbrev knA : Ent := .know 1 accC
theorem first_195 : (List.drop 195 firstC).getD 0 V.any = .int .u8 2 := by kernel_rfl
theorem first_len : firstC.length = 256 := by kernel_rfl
theorem acc_0 : List.take 2 (List.drop 0 accC) = [.int .u8 128, .int .u8 191] := by kernel_rfl
theorem acc_0' : List.take 2 accC = [.int .u8 128, .int .u8 191] := by kernel_rfl
theorem acc_len : accC.length = 32 := by kernel_rfl

theorem dE1 : Int.fdiv 2 (2 ^ min 4 IntKind.u8.bits) = 0 := by decide
theorem dE2 : IntKind.i64.wrap (IntKind.u8.wrap ↑(BitVec.ofInt IntKind.u8.bits 2 &&& BitVec.ofInt IntKind.u8.bits 7).toNat) = 2 := by decide
theorem dE3 : IntKind.i32.wrap ↑(BitVec.ofInt IntKind.i32.bits (IntKind.i32.wrap (IntKind.i32.wrap (IntKind.u8.wrap ↑(BitVec.ofInt IntKind.u8.bits 195 &&& BitVec.ofInt IntKind.u8.bits 31).toNat) * 2 ^ min 6 IntKind.i32.bits)) ||| BitVec.ofInt IntKind.i32.bits (IntKind.i32.wrap (IntKind.u8.wrap ↑(BitVec.ofInt IntKind.u8.bits 169 &&& BitVec.ofInt IntKind.u8.bits 63).toNat))).toNat = 233 := by decide
/-! Texts of plain runes. -/
def goodT : List UInt8 → Bool
  | [] => true
  | [c] => decide (c ≠ 0) && decide (c < 128)
  | c :: d :: l => if c = 195 then decide (d = 169) && goodT l else decide (c ≠ 0) && decide (c < 128) && goodT (d :: l)
theorem good_cons {c : UInt8} {l : List UInt8} (h : goodT (c :: l) = true) : (0 < c.toNat ∧ c.toNat < 128 ∧ goodT l = true) ∨ (c = 195 ∧ ∃ r, l = 169 :: r ∧ goodT r = true) := by
  cases l with
  | nil =>
    simp only [goodT, Bool.and_eq_true, decide_eq_true_eq] at h
    refine .inl ⟨?_, by have := UInt8.lt_iff_toNat_lt.1 h.2; simpa using this, rfl⟩
    rcases Nat.eq_zero_or_pos c.toNat with h0 | h0
    · exact absurd (UInt8.toNat_inj.1 (by simpa using h0)) h.1
    · exact h0
  | cons d l =>
    unfold goodT at h
    split at h
    · rename_i hc
      simp only [Bool.and_eq_true, decide_eq_true_eq] at h
      exact .inr ⟨hc, l, by rw [h.1], h.2⟩
    · simp only [Bool.and_eq_true, decide_eq_true_eq] at h
      refine .inl ⟨?_, by have := UInt8.lt_iff_toNat_lt.1 h.1.2; simpa using this, h.2⟩
      rcases Nat.eq_zero_or_pos c.toNat with h0 | h0
      · exact absurd (UInt8.toNat_inj.1 (by simpa using h0)) h.1.1
      · exact h0
theorem drop_cons {l : List UInt8} {i : Nat} (h : i < l.length) : l.drop i = l.getD i 0 :: l.drop (i + 1) := by
  rw [List.drop_eq_getElem_cons h]; simp [List.getD_eq_getElem?_getD, h]
theorem good_at {l : List UInt8} {i : Nat} (h : goodT (l.drop i) = true) (hi : i < l.length) : (0 < (l.getD i 0).toNat ∧ (l.getD i 0).toNat < 128 ∧ goodT (l.drop (i + 1)) = true) ∨ (l.getD i 0 = 195 ∧ i + 1 < l.length ∧ l.getD (i + 1) 0 = 169 ∧ goodT (l.drop (i + 2)) = true) := by
  rw [drop_cons hi] at h
  rcases good_cons h with h | ⟨h1, r, h2, h3⟩
  · exact .inl h
  · have hlt : i + 1 < l.length := by
      rcases Nat.lt_or_ge (i + 1) l.length with h | h
      · exact h
      · rw [List.drop_of_length_le h] at h2; cases h2
    rw [drop_cons hlt] at h2
    injection h2 with h4 h5
    exact .inr ⟨h1, hlt, h4, h5 ▸ h3⟩
theorem bs_get (s : List UInt8) (k : Nat) : (bs s).get! k = s.getD k 0 := by
  unfold bs ByteArray.get!
  simp [List.getD_eq_getElem?_getD]
  rfl
theorem rune_good {l : List UInt8} {i : Nat} (h : goodT (l.drop i) = true) (hi : i < l.length) : (0 < (l.getD i 0).toNat ∧ (l.getD i 0).toNat < 128 ∧ runeAt l i = (l.getD i 0).toNat ∧ wideAt l i = 1 ∧ goodT (l.drop (i + 1)) = true) ∨ (runeAt l i = 233 ∧ wideAt l i = 2 ∧ i + 1 < l.length ∧ goodT (l.drop (i + 2)) = true) := by
  rcases good_at h hi with ⟨h0, h1, h2⟩ | ⟨h1, h2, h3, h4⟩
  · refine .inl ⟨h0, h1, ?_, ?_, h2⟩
    · unfold runeAt Utf8.decode; simp only [Nat.add_zero, bs_get]; rw [if_pos h1]
    · unfold wideAt Utf8.decode; simp only [Nat.add_zero, bs_get]; rw [if_pos h1]
  · have hsz : (bs l).size = l.length := by simp [bs, ByteArray.size]
    have e : Utf8.decode (bs l) i = (233, 2) := by
      unfold Utf8.decode; simp only [Nat.add_zero, bs_get, h1, h3, hsz, decide_eq_true h2]; rfl
    exact .inr ⟨by unfold runeAt; rw [e]; rfl, by unfold wideAt; rw [e], h2, h4⟩
attribute [local irreducible] DW SeqD DV DOp DC DVX DVJ
section
attribute [local push_cast 2000] u8 first_195 first_len acc_0 acc_0' acc_len dE1 dE2 dE3
theorem decE0_dc (l : List UInt8) (F : Own) : (l.length ≤ 1000000000) → DC Tryz.prog 217 [.sl (.int .u8 195 :: .int .u8 169 :: l.map u8)] ([knF, knA] ++ F) fun d G => d = .tup [.int .i32 233, .int .i64 2] ∧ G = [knF, knA] ++ F := by
  intro hA
  have hl := hA
  refine DC.bodyS (n_ := 122) (show Tryz.prog.funcs[217]? = some Tryz.f217 by kernel_rfl) rfl rfl (by rfl) ?_
  simp only [env0, List.cons_append, List.nil_append]
  have kw := ksIs [0, 2, 3, 4, 5, 6, 7, 8, 9, 10, 11, 12, 16, 24, 47, 60, 62, 79, 81, 103]
  have ow := ownIs []
  repeat' (first
    | refine g_ ?_
    | ((with_reducible refine And.intro ?_ ?_); (exact sv))
    | (refine DW.cond (by rfl) ?_ ?_ <;> (first | exact i0_ | (refine ic_ ?_; intro hb)))
    | ((with_reducible refine FVg_cases ?_ ?_) <;> (intro hb; rw [hb]; revert hb; (first | exact i0_ | (refine i_ ?_; intro hb))))
    | refine r_ ?_
    | refine k_ ?_
    | ((first | (refine DOp.loadk_ rfl rfl ?_; (repeat (with_reducible first | apply OnK.here | apply OnK.next)); (fail_if_success (with_reducible apply OnK_id)))) <;> (refine s_ ?_))
    | refine o_ ?_
    | refine f_ ?_
    | with_reducible intro b)
  all_goals first
  | (exact absurd trivial hb)
  | ((first | exact fin_ | refine finq_ ?_); done)
end
end Go.Proofs.YtfamfamgopchnaaGreatDoor
/- Texts of plain runes are right. -/
namespace Go.Proofs.YtfamfamgopchnaaGreatDoor
open Go.RowKit
set_option linter.unusedSimpArgs false
set_option linter.unusedVariables false
set_option linter.unusedSectionVars false
set_option maxHeartbeats 4000000
set_option maxRecDepth 100000
attribute [local irreducible] DW SeqD DV DOp DC DVX


theorem take_u8 (l : List UInt8) : List.take l.length (List.map u8 l) = List.map u8 l := List.take_of_length_le (by simp)
def isE (l : List UInt8) (k : Nat) : Prop := l.getD k default = 195 ∧ k + 1 < l.length ∧ l.getD (k + 1) default = 169
theorem good_3 {l : List UInt8} {k : Nat} (h : goodT (l.drop k) = true) : l.length ≤ k ∨ (k < l.length ∧ 0 < (l.getD k default).toNat ∧ (l.getD k default).toNat < 128 ∧ goodT (l.drop (k + 1)) = true) ∨ (k < l.length ∧ l.getD k default = 195 ∧ k + 1 < l.length ∧ isE l k ∧ goodT (l.drop (k + 2)) = true) := by
  rcases Nat.lt_or_ge k l.length with hi | hi
  · rcases good_at h hi with ⟨h1, h2, h3⟩ | ⟨h1, h2, h3, h4⟩
    · exact .inr (.inl ⟨hi, h1, h2, h3⟩)
    · exact .inr (.inr ⟨hi, h1, h2, ⟨h1, h2, h3⟩, h4⟩)
  · exact .inl hi
section
attribute [local push_cast 2000] u8
theorem decA_dc (c : UInt8) (l : List UInt8) (F : Own) : (c.toNat < 128 ∧ l.length ≤ 1000000000) → DC Tryz.prog 201 [.sl (.int .u8 (c.toNat : Int) :: l.map u8)] (([] : Own) ++ F) fun d G => d = .tup [.int .i32 (c.toNat : Int), .int .i64 1] ∧ G = [] ++ F := by
  intro hA
  obtain ⟨hc, hl⟩ := hA
  refine DC.bodyS (n_ := 22) (show Tryz.prog.funcs[201]? = some Tryz.f201 by kernel_rfl) rfl rfl (by rfl) ?_
  simp only [env0, List.cons_append, List.nil_append]
  have kw := ksIs [0, 2, 3, 5, 6, 7, 8, 9, 13]
  have ow := ownIs []
  repeat' (first
    | ((with_reducible refine DW.loopB 0 (X := Nat) (fun x => x ≤ 0) (fun x => [(0, .sl (.int .u8 (c.toNat : Int) :: l.map u8)), (6, .sl (.int .u8 (c.toNat : Int) :: l.map u8)), (7, .int .i64 ((l.length : Int) + 1)), (8, .int .i64 x)]) (fun x => ([] : Own)) (fun x => 0 - x) (0) ?_ ?_ ?_); exact (Nat.zero_le _); (simp [Sub, get, keepL] <;> fail); (try simp only [List.cons_append, List.nil_append]); refine pl_ ?_; intro k hk; (try simp only [List.cons_append, List.nil_append]); obtain rfl : k = 0 := by omega)
    | refine g_ ?_
    | ((with_reducible refine And.intro ?_ ?_); (exact sv))
    | (refine DW.cond (by rfl) ?_ ?_ <;> (first | exact i0_ | (refine ic_ ?_; intro hb)))
    | ((with_reducible refine FVg_cases ?_ ?_) <;> (intro hb; rw [hb]; revert hb; (first | exact i0_ | (refine i_ ?_; intro hb))))
    | refine r_ ?_
    | refine k_ ?_
    | refine o_ ?_
    | refine f_ ?_
    | with_reducible intro b)
  all_goals first
  | ((first | exact fin_ | refine finq_ ?_); done)
  | (trivial)
end
section
attribute [local push_cast 2000] u8
theorem decB_dc (l : List UInt8) (F : Own) : (l.length ≤ 1000000000) → DC Tryz.prog 201 [.sl (.int .u8 195 :: .int .u8 169 :: l.map u8)] ([knF, knA] ++ F) fun d G => d = .tup [.int .i32 233, .int .i64 2] ∧ G = [knF, knA] ++ F := by
  intro hA
  have hl := hA
  refine DC.bodyS (n_ := 22) (show Tryz.prog.funcs[201]? = some Tryz.f201 by kernel_rfl) rfl rfl (by rfl) ?_
  simp only [env0, List.cons_append, List.nil_append]
  have kw := ksIs [0, 2, 3, 5, 6, 7, 8, 9, 13]
  have ow := ownIs []
  repeat' (first
    | ((with_reducible refine DW.loopB 0 (X := Nat) (fun x => x ≤ 0) (fun x => [(0, .sl (.int .u8 195 :: .int .u8 169 :: l.map u8)), (6, .sl (.int .u8 195 :: .int .u8 169 :: l.map u8)), (7, .int .i64 ((l.length : Int) + 1 + 1)), (8, .int .i64 x)]) (fun x => [knF, knA]) (fun x => 0 - x) (0) ?_ ?_ ?_); exact (Nat.zero_le _); (simp [Sub, get, keepL] <;> fail); (try simp only [List.cons_append, List.nil_append]); refine pl_ ?_; intro k hk; (try simp only [List.cons_append, List.nil_append]); obtain rfl : k = 0 := by omega)
    | refine g_ ?_
    | ((with_reducible refine And.intro ?_ ?_); (exact sv))
    | (refine DW.cond (by rfl) ?_ ?_ <;> (first | exact i0_ | (refine ic_ ?_; intro hb)))
    | ((with_reducible refine FVg_cases ?_ ?_) <;> (intro hb; rw [hb]; revert hb; (first | exact i0_ | (refine i_ ?_; intro hb))))
    | refine r_ ?_
    | refine k_ ?_
    | (refine q_ (decE0_dc _ _) ?_)
    | refine o_ ?_
    | refine f_ ?_
    | with_reducible intro b)
  all_goals first
  | ((first | exact fin_ | refine finq_ ?_); done)
  | (trivial)
end

theorem decPa_dc (l : List UInt8) (k : Nat) (F : Own) : (k < l.length ∧ (l.getD k default).toNat < 128 ∧ l.length ≤ 1000000000) → DC Tryz.prog 201 [.sl ((l.map u8).drop k)] ([knF, knA] ++ F) fun d G => d = .tup [.int .i32 ((l.getD k default).toNat : Int), .int .i64 1] ∧ G = [knF, knA] ++ F := fun ⟨h1, h2, h3⟩ => by
  rw [← List.map_drop, drop_cons h1]
  exact decA_dc (l.getD k 0) (l.drop (k + 1)) ([knF, knA] ++ F) ⟨h2, by rw [List.length_drop]; omega⟩
theorem decPb_dc (l : List UInt8) (k : Nat) (F : Own) : (isE l k ∧ l.length ≤ 1000000000) → DC Tryz.prog 201 [.sl ((l.map u8).drop k)] ([knF, knA] ++ F) fun d G => d = .tup [.int .i32 233, .int .i64 2] ∧ G = [knF, knA] ++ F := fun ⟨⟨h1, h2, h4⟩, h3⟩ => by
  have e1 : l.getD k 0 = 195 := h1
  have e2 : l.getD (k + 1) 0 = 169 := h4
  rw [← List.map_drop, drop_cons (show k < l.length by omega), drop_cons h2, e1, e2]
  exact decB_dc (l.drop (k + 1 + 1)) F (by rw [List.length_drop]; omega)
section
attribute [local push_cast 2000] u8 take_u8
theorem chkg_dc (l : List UInt8) (F : Own) : (goodT l = true ∧ l.length ≤ 1000000000) → DC Tryz.prog 172 [.sl (l.map u8)] ([knF, knA] ++ F) fun d G => d = .int .i64 (-1) ∧ G = [knF, knA] ++ F := by
  intro hA
  obtain ⟨hg, hl⟩ := hA
  refine DC.bodyS (n_ := 34) (show Tryz.prog.funcs[172]? = some Tryz.f172 by kernel_rfl) rfl rfl (by rfl) ?_
  simp only [env0, List.cons_append, List.nil_append]
  have kw := ksIs [0, 2, 3, 4, 5, 9, 29]
  have ow := ownIs []
  repeat' (first
    | ((with_reducible refine DW.loopB 0 (X := Nat) (fun x => x ≤ l.length ∧ goodT (l.drop x) = true) (fun x => [(0, .sl (l.map u8)), (3, .int .i64 x)]) (fun x => [knF, knA]) (fun x => l.length - x) (0) ?_ ?_ ?_); exact (⟨Nat.zero_le _, hg⟩); (simp [Sub, get, keepL] <;> fail); (try simp only [List.cons_append, List.nil_append]); refine pl_ ?_; intro k ⟨hk, hgk⟩; (try simp only [List.cons_append, List.nil_append]); rcases good_3 (k := k) hgk with hge | ⟨q0, q1, q2, q3⟩ | ⟨q0, q1, q2, q3, q4⟩)
    | refine g_ ?_
    | ((with_reducible refine And.intro ?_ ?_); (exact sv))
    | (refine DW.cond (by rfl) ?_ ?_ <;> (first | exact i0_ | (refine ic_ ?_; intro hb)))
    | ((with_reducible refine FVg_cases ?_ ?_) <;> (intro hb; rw [hb]; revert hb; (first | exact i0_ | (refine i_ ?_; intro hb))))
    | refine r_ ?_
    | refine k_ ?_
    | (refine q_ (decPa_dc _ _ _) ?_)
    | (refine q_ (decPb_dc _ _ _) ?_)
    | refine o_ ?_
    | refine f_ ?_
    | with_reducible intro b)
  all_goals first
  | ((first | exact fin_ | refine finq_ ?_); done)
  | (refine ⟨k + 1, ?_, ?_, ?_, ?_⟩; ((exact ⟨by omega, q3⟩)); (((try simp only); omega)); (simp [Sub, get, Int.natCast_add, Int.natCast_one] <;> (fail)); (try dsimp only); (exact sub_); done)
  | (refine ⟨k + 2, ?_, ?_, ?_, ?_⟩; ((exact ⟨by omega, q4⟩)); (((try simp only); omega)); (simp [Sub, get] <;> (fail)); (try dsimp only); (exact sub_); done)
  | (exfalso; omega)
  | (exfalso; rw [q1] at hb; simp at hb)
end
end Go.Proofs.YtfamfamgopchnaaGreatDoor
