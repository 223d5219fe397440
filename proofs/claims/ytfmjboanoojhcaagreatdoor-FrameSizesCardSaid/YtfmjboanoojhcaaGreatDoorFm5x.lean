/- A frame that forwards is read. -/
import Derived.Test.YtfmjboanoojhcaaGreatDoorFm4x
import Derived.KernelRfl
import Derived.Test.YtfmjboanoojhcaaGreatDoorPt7x
import Derived.Test.YtfmjboanoojhcaaGreatDoorPt2x
import Derived.Lib.LaidU8
import Derived.Handed
namespace Go.Proofs.YtfmjboanoojhcaaGreatDoor
open Go.RowKit
set_option linter.unusedSimpArgs false
set_option linter.unusedVariables false
set_option linter.unusedSectionVars false
set_option maxHeartbeats 4000000
set_option maxRecDepth 100000
attribute [local irreducible] DW SeqD DV DOp DC DVX


theorem takeMap (n : Nat) (l : List UInt8) : List.take n (List.map u8 l) = List.map u8 (List.take n l) := List.map_take.symm
theorem dropMap (n : Nat) (l : List UInt8) : List.drop n (List.map u8 l) = List.map u8 (List.drop n l) := List.map_drop.symm
theorem takeLen (l : List UInt8) : List.take l.length l = l := List.take_length
theorem take8 (x : Int) (r : List UInt8) : List.take 8 (leK 8 x ++ r) = leK 8 x := by rw [List.take_append_of_le_length (by rw [leK_len]; exact Nat.le_refl _)]; exact List.take_of_length_le (by rw [leK_len]; exact Nat.le_refl _)
theorem drop8 (x : Int) (r : List UInt8) : List.drop 8 (leK 8 x ++ r) = r := by
  have := List.drop_left (l₁ := leK 8 x) (l₂ := r)
  rwa [leK_len] at this
theorem takeL (l r : List UInt8) : List.take l.length (l ++ r) = l := List.take_left
theorem dropL (l r : List UInt8) : List.drop l.length (l ++ r) = r := List.drop_left
theorem shK_nat (n : Nat) : ∀ k, shK k (n : Int) = ((n / 256 ^ k : Nat) : Int)
  | 0 => by simp [shK]
  | k + 1 => by
    rw [shK, shK_nat n k]
    have h : ((2 : Int) ^ min 8 IntKind.u64.bits) = ((256 : Nat) : Int) := by decide
    rw [h, Int.fdiv_eq_ediv_of_nonneg _ (by omega), ← Int.natCast_ediv, Nat.div_div_eq_div_mul, Nat.pow_succ]
theorem byteI_nat (n : Nat) : (byteI (n : Int)).toNat = n % 256 := by
  unfold byteI
  have h : (((n : Int) % 256).toNat) = n % 256 := by omega
  rw [h]
  simp
theorem leK_at (x : Int) (k : Nat) (h : k < 8) : (leK 8 x).getD k default = byteI (shK k x) := by
  simp [leK, List.getD_eq_getElem?_getD, h]
/-- A number out of its bytes: one more. -/
theorem acc_next (x : Int) (k : Nat) (hk : k < 8) (h0 : 0 ≤ x) (h1 : x ≤ 18446744073709551615) :
    IntKind.u64.wrap ((BitVec.ofInt IntKind.u64.bits (x % 2 ^ (8 * k)) ||| BitVec.ofInt IntKind.u64.bits (IntKind.u64.wrap ((((leK 8 x).getD k default).toNat : Int) * 2 ^ min (8 * (k : Int)).toNat IntKind.u64.bits))).toNat : Int) = x % 2 ^ (8 * (k + 1)) := by
  obtain ⟨n, rfl⟩ : ∃ n : Nat, x = n := ⟨x.toNat, by omega⟩
  rw [leK_at _ k hk, shK_nat, byteI_nat]
  have e1 : min (8 * (k : Int)).toNat IntKind.u64.bits = 8 * k := by
    show min (8 * (k : Int)).toNat 64 = _
    omega
  rw [e1]
  have e256 : 256 ^ k = 2 ^ (8 * k) := by rw [show (256 : Nat) = 2 ^ 8 from rfl, ← Nat.pow_mul]
  rw [e256]
  have hpow : (2 : Nat) ^ (8 * (k + 1)) = 2 ^ (8 * k) * 256 := by rw [Nat.mul_add, Nat.pow_add]
  have hle : (2 : Nat) ^ (8 * (k + 1)) ≤ 2 ^ 64 := Nat.pow_le_pow_right (by decide) (by omega)
  have hc : n / 2 ^ (8 * k) % 256 < 256 := Nat.mod_lt _ (by decide)
  have hpos : 0 < (2 : Nat) ^ (8 * k) := Nat.pow_pos (by decide)
  have hm : n % 2 ^ (8 * k) < 2 ^ (8 * k) := Nat.mod_lt _ hpos
  have hmul : n / 2 ^ (8 * k) % 256 * 2 ^ (8 * k) ≤ 255 * 2 ^ (8 * k) := Nat.mul_le_mul_right _ (by omega)
  have hbig : (2 : Nat) ^ 64 = 18446744073709551616 := by decide
  have hp2 : ((2 : Int) ^ (8 * k)) = ((2 ^ (8 * k) : Nat) : Int) := by simp
  have hp3 : ((2 : Int) ^ (8 * (k + 1))) = ((2 ^ (8 * (k + 1)) : Nat) : Int) := by simp
  rw [hp2, hp3, ← Int.natCast_mul, ← Int.natCast_emod, ← Int.natCast_emod]
  rw [wrap_u64 ((n / 2 ^ (8 * k) % 256 * 2 ^ (8 * k) : Nat) : Int) (by omega) (by omega)]
  have t1 : ∀ m : Nat, m < 2 ^ 64 → (BitVec.ofInt IntKind.u64.bits (m : Int)).toNat = m := fun m hm => by
    show (BitVec.ofInt 64 (m : Int)).toNat = m
    rw [BitVec.toNat_ofInt]
    simp only [hbig] at hm ⊢
    omega
  rw [BitVec.toNat_or, t1 _ (by omega), t1 _ (by omega)]
  have e2 : n % 2 ^ (8 * k) ||| n / 2 ^ (8 * k) % 256 * 2 ^ (8 * k) = n % 2 ^ (8 * (k + 1)) := by
    rw [Nat.or_comm, Nat.mul_comm, ← Nat.two_pow_add_eq_or_of_lt hm, hpow, Nat.mod_mul, Nat.add_comm]
  rw [e2]
  have hlt : n % 2 ^ (8 * (k + 1)) < 2 ^ (8 * (k + 1)) := Nat.mod_lt _ (Nat.pow_pos (by decide))
  exact wrap_u64 _ (by omega) (by omega)
theorem acc_8 (x : Int) (h0 : 0 ≤ x) (h1 : x ≤ 18446744073709551615) : x % 2 ^ (8 * 8) = x := by
  have : (2 : Int) ^ (8 * 8) = 18446744073709551616 := by decide
  rw [this]; omega
theorem sv_take_dc {p : Prop} (h : p := by first | exact sv | (simp [u8, V.one]; omega) | (simp [u8, V.one] <;> fail) | fail) : p := h
section
attribute [local push_cast 2000] takeMap dropMap takeLen isU8_map
theorem take_dc (b : Nat) (l : List UInt8) (k : Bool) (n : Int) (F : Own) : ((0 ≤ n ∧ n ≤ l.length) ∧ l.length ≤ 1000000000000) → DC Tryz.prog 133 [.raw (.pointer (some ⟨b, 0, none⟩)), .int .u64 n] ([.blk b [.sl (l.map u8), .bool k]] ++ F) fun d G => d = .sl ((l.take n.toNat).map u8) ∧ G = .blk b [.sl ((l.drop n.toNat).map u8), .bool k] :: F := by
  intro hA
  obtain ⟨hn, hl⟩ := hA
  refine DC.bodyS (n_ := 36) (show Tryz.prog.funcs[133]? = some Tryz.f133 by kernel_rfl) rfl rfl (by rfl) ?_
  simp only [env0, List.cons_append, List.nil_append]
  have kw := ksIs [0, 1, 4, 5, 13]
  have ow := ownIs []
  repeat' (first
    | refine g_ ?_
    | ((with_reducible refine And.intro ?_ ?_); (exact sv_take_dc))
    | (refine DW.cond (by rfl) ?_ ?_ <;> (first | exact i0_ | (refine ic_ ?_; intro hb)))
    | ((with_reducible refine FVg_cases ?_ ?_) <;> (intro hb; rw [hb]; revert hb; (first | exact i0_ | (refine i_ ?_; intro hb))))
    | refine r_ ?_
    | refine k_ ?_
    | refine o_ ?_
    | refine f_ ?_
    | with_reducible intro b)
  all_goals first
  | (exfalso; omega)
  | ((first | exact fin_ | refine finq_ ?_); done)
end
end Go.Proofs.YtfmjboanoojhcaaGreatDoor
/- A frame that forwards is read, number by number. -/
namespace Go.Proofs.YtfmjboanoojhcaaGreatDoor
open Go.RowKit
set_option linter.unusedSimpArgs false
set_option linter.unusedVariables false
set_option linter.unusedSectionVars false
set_option maxHeartbeats 4000000
set_option maxRecDepth 100000
attribute [local irreducible] DW SeqD DV DOp DC DVX


theorem acc0 (x : Int) : x % 2 ^ (8 * 0) = 0 := by simp
theorem toN8 : ((8 : Int)).toNat = 8 := rfl
theorem t3 : UInt8.toNat 3 = 3 := rfl
theorem sv_rnum_dc {p : Prop} (h : p := by first | exact sv | (simp [u8, V.one]; omega) | (simp [u8, V.one] <;> fail) | (refine ⟨?_, ?_, ?_⟩ <;> first | omega | (simp [leK_len, head_len] <;> omega)) | (refine ⟨?_, ?_⟩ <;> first | omega | (simp [leK_len, head_len] <;> omega)) | (simp [leK_len, head_len] <;> omega) | fail) : p := h
section
attribute [local push_cast 2000] take8 drop8 leK_len u8 wrapU8 toN8
theorem rnum_dc (b : Nat) (x_ : Int) (r : List UInt8) (k : Bool) (F : Own) : ((0 ≤ x_ ∧ x_ ≤ 18446744073709551615) ∧ r.length ≤ 999999999990) → DC Tryz.prog 69 [.raw (.pointer (some ⟨b, 0, none⟩))] ([.blk b [.sl ((leK 8 x_ ++ r).map u8), .bool k]] ++ F) fun d G => d = .int .u64 x_ ∧ G = .blk b [.sl (r.map u8), .bool k] :: F := by
  intro hA
  obtain ⟨hx, hr⟩ := hA
  refine DC.bodyS (n_ := 23) (show Tryz.prog.funcs[69]? = some Tryz.f69 by kernel_rfl) rfl rfl (by rfl) ?_
  simp only [env0, List.cons_append, List.nil_append]
  have kw := ksIs [0, 2, 3, 4, 5, 7, 8, 9, 10]
  have ow := ownIs []
  repeat' (first
    | ((with_reducible refine DW.loopB 0 (X := Nat) (fun x => x ≤ 8) (fun x => [(3, .int .u64 (x_ % 2 ^ (8 * x))), (7, .sl ((leK 8 x_).map u8)), (8, .int .i64 8), (9, .int .i64 x)]) (fun x => ([] : Own)) (fun x => 8 - x) (0) ?_ ?_ ?_); exact (Nat.zero_le _); (simp [Sub, get, keepL, acc0] <;> fail); (try simp only [List.cons_append, List.nil_append]); refine pl_ ?_; intro j hj; (try simp only [List.cons_append, List.nil_append]); have hll := leK_len 8 x_)
    | refine g_ ?_
    | ((with_reducible refine And.intro ?_ ?_); (exact sv_rnum_dc))
    | (refine DW.cond (by rfl) ?_ ?_ <;> (first | exact i0_ | (refine ic_ ?_; intro hb)))
    | ((with_reducible refine FVg_cases ?_ ?_) <;> (intro hb; rw [hb]; revert hb; (first | exact i0_ | (refine i_ ?_; intro hb))))
    | refine r_ ?_
    | refine k_ ?_
    | (refine p_ (take_dc _ _ _ _ _) ?_ (ha := by exact sv_rnum_dc); rintro d H1 ⟨rfl, rfl⟩ <;> refine s_ ?_)
    | refine o_ ?_
    | refine f_ ?_
    | with_reducible intro b)
  all_goals first
  | (have ha := acc_next x_ j (by omega) hx.1 hx.2
     refine ⟨j + 1, ?_, ?_, ?_, ?_⟩; (omega); (omega); (rw [← ha]; simp [Sub, get] <;> fail); (exact sub_); done)
  | (have hj : j = 8 := by omega
     subst hj
     rw [acc_8 x_ hx.1 hx.2]
     (first | exact fin_ | refine finq_ ?_); done)
end
theorem sv_rint_dc {p : Prop} (h : p := by first | exact sv | (simp [u8, V.one]; omega) | (simp [u8, V.one] <;> fail) | (refine ⟨?_, ?_, ?_⟩ <;> first | omega | (simp [leK_len, head_len] <;> omega)) | (refine ⟨?_, ?_⟩ <;> first | omega | (simp [leK_len, head_len] <;> omega)) | (simp [leK_len, head_len] <;> omega) | fail) : p := h
theorem rint_dc (b : Nat) (x_ : Int) (r : List UInt8) (k : Bool) (F : Own) : ((0 ≤ x_ ∧ x_ ≤ 9223372036854775807) ∧ r.length ≤ 999999999990) → DC Tryz.prog 134 [.raw (.pointer (some ⟨b, 0, none⟩))] ([.blk b [.sl ((leK 8 x_ ++ r).map u8), .bool k]] ++ F) fun d G => d = .int .i64 x_ ∧ G = .blk b [.sl (r.map u8), .bool k] :: F := by
  intro hA
  obtain ⟨hx, hr⟩ := hA
  refine DC.bodyS (n_ := 6) (show Tryz.prog.funcs[134]? = some Tryz.f134 by kernel_rfl) rfl rfl (by rfl) ?_
  simp only [env0, List.cons_append, List.nil_append]
  have kw := ksIs [0, 2]
  have ow := ownIs []
  repeat' (first
    | refine g_ ?_
    | ((with_reducible refine And.intro ?_ ?_); (exact sv_rint_dc))
    | (refine DW.cond (by rfl) ?_ ?_ <;> (first | exact i0_ | (refine ic_ ?_; intro hb)))
    | ((with_reducible refine FVg_cases ?_ ?_) <;> (intro hb; rw [hb]; revert hb; (first | exact i0_ | (refine i_ ?_; intro hb))))
    | refine r_ ?_
    | refine k_ ?_
    | (refine p_ (rnum_dc _ _ _ _ _) ?_ (ha := by exact sv_rint_dc); rintro d H1 ⟨rfl, rfl⟩ <;> refine s_ ?_)
    | refine o_ ?_
    | refine f_ ?_
    | with_reducible intro b)
  (first | exact fin_ | refine finq_ ?_)
  all_goals rfl
theorem sv_rtext_dc {p : Prop} (h : p := by first | exact sv | (simp [u8, V.one]; omega) | (simp [u8, V.one] <;> fail) | (refine ⟨?_, ?_, ?_⟩ <;> first | omega | (simp [leK_len, head_len] <;> omega)) | (refine ⟨?_, ?_⟩ <;> first | omega | (simp [leK_len, head_len] <;> omega)) | (simp [leK_len, head_len] <;> omega) | fail) : p := h
section
attribute [local push_cast 2000] takeL dropL byteOf_map isU8_map
theorem rtext_dc (b : Nat) (t_ r : List UInt8) (k : Bool) (F : Own) : (t_.length ≤ 100000000000 ∧ r.length ≤ 100000000000) → DC Tryz.prog 140 [.raw (.pointer (some ⟨b, 0, none⟩))] ([.blk b [.sl ((leK 8 (t_.length : Int) ++ (t_ ++ r)).map u8), .bool k]] ++ F) fun d G => d = .str t_ ∧ G = .blk b [.sl (r.map u8), .bool k] :: F := by
  intro hA
  obtain ⟨ht, hr⟩ := hA
  refine DC.bodyS (n_ := 8) (show Tryz.prog.funcs[140]? = some Tryz.f140 by kernel_rfl) rfl rfl (by rfl) ?_
  simp only [env0, List.cons_append, List.nil_append]
  have kw := ksIs [0, 2]
  have ow := ownIs []
  repeat' (first
    | refine g_ ?_
    | ((with_reducible refine And.intro ?_ ?_); (exact sv_rtext_dc))
    | (refine DW.cond (by rfl) ?_ ?_ <;> (first | exact i0_ | (refine ic_ ?_; intro hb)))
    | ((with_reducible refine FVg_cases ?_ ?_) <;> (intro hb; rw [hb]; revert hb; (first | exact i0_ | (refine i_ ?_; intro hb))))
    | refine r_ ?_
    | refine k_ ?_
    | (refine p_ (rnum_dc _ _ _ _ _) ?_ (ha := by exact sv_rtext_dc); rintro d H1 ⟨rfl, rfl⟩ <;> refine s_ ?_)
    | (refine p_ (take_dc _ _ _ _ _) ?_ (ha := by exact sv_rtext_dc); rintro d H1 ⟨rfl, rfl⟩ <;> refine s_ ?_)
    | refine o_ ?_
    | refine f_ ?_
    | with_reducible intro b)
  (first | exact fin_ | refine finq_ ?_)
  all_goals rfl
end
theorem rtexta_dc (b : Nat) (r : List UInt8) (k : Bool) (F : Own) : r.length ≤ 100000000000 → DC Tryz.prog 140 [.raw (.pointer (some ⟨b, 0, none⟩))] ([.blk b [.sl ((leK 8 1 ++ 97 :: r).map u8), .bool k]] ++ F) fun d G => d = .str [97] ∧ G = .blk b [.sl (r.map u8), .bool k] :: F := fun h =>
  rtext_dc b [97] r k F ⟨by decide, h⟩
theorem sv_clone_dc {p : Prop} (h : p := by first | exact sv | (simp [u8, V.one]; omega) | (simp [u8, V.one] <;> fail) | (simp [u8, V.one, List.map_eq_nil_iff] <;> first | assumption | omega) | fail) : p := h
section
attribute [local push_cast 2000] V.sl.injEq forall_eq' forall_eq
theorem clone_dc (l : List UInt8) (F : Own) : (l ≠ [] ∧ l.length ≤ 1000000000000) → DC Tryz.prog 70 [.sl (l.map u8)] (([] : Own) ++ F) fun d G => d = .sl (l.map u8) ∧ G = [] ++ F := by
  intro hA
  obtain ⟨hl, hn⟩ := hA
  refine DC.bodyS (n_ := 8) (show Tryz.prog.funcs[70]? = some Tryz.f70 by kernel_rfl) rfl rfl (by rfl) ?_
  simp only [env0, List.cons_append, List.nil_append]
  have kw := ksIs [0, 2, 4]
  have ow := ownIs [5]
  repeat' (first
    | refine g_ ?_
    | ((with_reducible refine And.intro ?_ ?_); (exact sv_clone_dc))
    | (refine DW.cond (by rfl) ?_ ?_ <;> (first | exact i0_ | (refine ic_ ?_; intro hb)))
    | ((with_reducible refine FVg_cases ?_ ?_) <;> (intro hb; rw [hb]; revert hb; (first | exact i0_ | (refine i_ ?_; intro hb))))
    | refine r_ ?_
    | refine k_ ?_
    | refine o_ ?_
    | refine f_ ?_
    | with_reducible intro b)
  (first | exact fin_ | refine finq_ ?_)
  all_goals rfl
end
end Go.Proofs.YtfmjboanoojhcaaGreatDoor
/- A law whose row lists tables, and whose program asks what a variable of the library holds: what is known of them stands in the frame. No statement of the program. -/
namespace Go.Proofs.YtfmjboanoojhcaaGreatDoor
open Go.RowKit Go.ChangeShapes Go.WideShapes Go.Deep
set_option linter.unusedSimpArgs false
set_option linter.unusedVariables false
set_option linter.unusedSectionVars false

theorem know_of {w : World} {H : Own} {b : Nat} {cs : List V} (hs : Sim w H) (hno : ∀ e ∈ H, ∀ a, ¬ e.owns a) (vs : Nat → Value) (h : ∀ k, k < cs.length → w.cell? ⟨b, k, none⟩ = some (vs k) ∧ ∀ S, R S w (vs k) (cs.getD k .any)) :
    Sim w (.know b cs :: H) ∧ Ext w H w (.know b cs :: H) :=
  hs.add (e1 := .know b cs) rfl rfl rfl (Nat.le_refl _) (fun _ _ => rfl) (fun _ h => h.elim) fun _ => fun k hk => by
    obtain ⟨h1, h2⟩ := h k hk
    refine ⟨⟨by rw [h1]; rfl, fun e he ha => ?_⟩, ?_⟩
    · rcases List.mem_cons.1 he with rfl | he
      · exact ha.elim
      · exact hno e he _ ha
    · unfold cellAt; rw [h1]; exact h2 _
theorem acc_at : ∀ i, i < 16 → accC.getD (2 * i) .any = .int .u8 (Go.Lib.accLo i) ∧ accC.getD (2 * i + 1) .any = .int .u8 (Go.Lib.accHi i)
  | 0, _ => ⟨rfl, rfl⟩ | 1, _ => ⟨rfl, rfl⟩ | 2, _ => ⟨rfl, rfl⟩ | 3, _ => ⟨rfl, rfl⟩ | 4, _ => ⟨rfl, rfl⟩ | 5, _ => ⟨rfl, rfl⟩ | 6, _ => ⟨rfl, rfl⟩ | 7, _ => ⟨rfl, rfl⟩
  | 8, _ => ⟨rfl, rfl⟩ | 9, _ => ⟨rfl, rfl⟩ | 10, _ => ⟨rfl, rfl⟩ | 11, _ => ⟨rfl, rfl⟩ | 12, _ => ⟨rfl, rfl⟩ | 13, _ => ⟨rfl, rfl⟩ | 14, _ => ⟨rfl, rfl⟩ | 15, _ => ⟨rfl, rfl⟩
  | n + 16, h => absurd h (by omega)
/-- What a law knows when it begins: the two tables and the variable. -/
theorem known_sim {w : World} {m : Int} (ht : Go.Lib.Utf8Tabs 1 2 w) (hm : w.cell? ⟨3, 0, none⟩ = some (.int .i64 m)) :
    Sim w [knF, knA, .know 3 [.int .i64 m]] ∧ Ext w [] w [knF, knA, .know 3 [.int .i64 m]] := by
  have h0 : Sim w [] := ⟨(fun _ h => nomatch h), List.Pairwise.nil, List.Pairwise.nil⟩
  obtain ⟨s1, x1⟩ := know_of (b := 3) (cs := [.int .i64 m]) h0 (fun e he => nomatch he) (fun _ => .int .i64 m) (fun k hk => by
    have hk0 : k = 0 := by simpa using hk
    subst hk0
    exact ⟨hm, fun S => .int _ _⟩)
  obtain ⟨s2, x2⟩ := know_of (b := 2) (cs := accC) s1 (fun e he a ha => by
    rcases List.mem_singleton.1 he with rfl
    exact ha.elim) (fun k => if k % 2 = 0 then .int .u8 (Go.Lib.accLo (k / 2)) else .int .u8 (Go.Lib.accHi (k / 2))) (fun k hk => by
    have hk : k < 32 := by simpa [acc_len] using hk
    obtain ⟨q1, q2⟩ := ht.2 (k / 2) (by omega)
    obtain ⟨a1, a2⟩ := acc_at (k / 2) (by omega)
    by_cases he : k % 2 = 0
    · have e : 2 * (k / 2) = k := by omega
      rw [e] at q1 a1
      refine ⟨by rw [if_pos he]; exact q1, fun S => ?_⟩
      rw [if_pos he, a1]; exact .int _ _
    · have e : 2 * (k / 2) + 1 = k := by omega
      rw [e] at q2 a2
      refine ⟨by rw [if_neg he]; exact q2, fun S => ?_⟩
      rw [if_neg he, a2]; exact .int _ _)
  obtain ⟨s3, x3⟩ := know_of (b := 1) (cs := firstC) s2 (fun e he a ha => by
    rcases List.mem_cons.1 he with rfl | he
    · exact ha.elim
    · rcases List.mem_singleton.1 he with rfl
      exact ha.elim) (fun k => .int .u8 (Go.Lib.firstT k)) (fun k hk => by
    have hk : k < 256 := by rw [first_len] at hk; exact hk
    refine ⟨ht.1 k hk, fun S => ?_⟩
    have e : firstC.getD k .any = .int .u8 (Go.Lib.firstT k) := by
      unfold firstC
      rw [List.getD_eq_getElem?_getD, List.getElem?_map, List.getElem?_range hk]; rfl
    rw [e]; exact .int _ _)
  exact ⟨s3, (x1.trans x2).trans x3⟩
/-- A law's contract where something is known when it begins. -/
theorem DC.lawK {P : Program} {f : FuncId} {args : List V} {K0 : Own} {xs : Array Value} {w : World} (h : DC P f args K0 fun d H' => d = .bool true ∧ H' = K0) (hK : Sim w K0 ∧ Ext w [] w K0) (hn : xs.size = args.length) (hr : ∀ k, k < args.length → R (stable w []) w (xs.getD k undef) (args.getD k .any)) :
    Calls P f xs w fun e w' => e = .returned (.bool true) ∧ Below w.heap.size w w' :=
  (h.2 xs w hK.1 hn fun k hk => hK.2.rel (hr k hk)).mono fun e w' ⟨v, d, H', he, s, x, r, hd, hH⟩ => by
    subst hd
    subst hH
    cases r
    exact ⟨he, (hK.2.trans x).below⟩
end Go.Proofs.YtfmjboanoojhcaaGreatDoor
