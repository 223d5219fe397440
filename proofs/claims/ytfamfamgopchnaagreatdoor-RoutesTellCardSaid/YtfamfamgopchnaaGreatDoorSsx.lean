/- strings.Split, as it lies in this program (printed by the kit). -/
import Derived.Shelf.Strings.Split
import Derived.Test.YtfamfamgopchnaaGreatDoorProg
import Derived.Test.YtfamfamgopchnaaGreatDoorPtfx
import Derived.Test.YtfamfamgopchnaaGreatDoorSox
import Derived.KernelRfl
namespace Go.Proofs.YtfamfamgopchnaaGreatDoor
open Go.Shelf Go.RowKit
set_option linter.unusedVariables false
def laySplit_ren : Go.Shelf.Ren := ⟨fun | 146 => 173 | 221 => 202 | 268 => 218 | 138 => 219 | 143 => 220 | 195 => 226 | 197 => 227 | 218 => 228 | 219 => 229 | 260 => 231 | 217 => 232 | 225 => 233 | 224 => 234 | 267 => 235 | 266 => 237 | 314 => 238 | n => n, fun | 9 => 9 | 31 => 62 | 3 => 3 | 4 => 4 | 0 => 0 | 105 => 205 | 21 => 21 | 5 => 5 | 46 => 162 | 119 => 227 | 139 => 230 | 138 => 229 | 146 => 235 | 51 => 196 | n => n, fun | 1 => 2 | 3 => 0 | 4 => 1 | n => n⟩
theorem laySplit : Go.Proofs.Lays.n146 Tryz.prog laySplit_ren := {
  mixed := by kernel_rfl
  f138 := Tryz.func219.trans (congrArg some (by kernel_rfl))
  f143 := Tryz.func220.trans (congrArg some (by kernel_rfl))
  f146 := Tryz.func173.trans (congrArg some (by kernel_rfl))
  f195 := Tryz.func226.trans (congrArg some (by kernel_rfl))
  f197 := Tryz.func227.trans (congrArg some (by kernel_rfl))
  f217 := Tryz.func232.trans (congrArg some (by kernel_rfl))
  f218 := Tryz.func228.trans (congrArg some (by kernel_rfl))
  f219 := Tryz.func229.trans (congrArg some (by kernel_rfl))
  f221 := Tryz.func202.trans (congrArg some (by kernel_rfl))
  f224 := Tryz.func234.trans (congrArg some (by kernel_rfl))
  f225 := Tryz.func233.trans (congrArg some (by kernel_rfl))
  f260 := Tryz.func231.trans (congrArg some (by kernel_rfl))
  f266 := Tryz.func237.trans (congrArg some (by kernel_rfl))
  f267 := Tryz.func235.trans (congrArg some (by kernel_rfl))
  f268 := Tryz.func218.trans (congrArg some (by kernel_rfl))
  f314 := Tryz.func238.trans (congrArg some (by kernel_rfl))
  t0 := Tryz.underlying0
  a0 := Tryz.isAgg0
  z0 := Tryz.sizeOf0
  v0 := Tryz.zeroValue0
  t3 := Tryz.underlying3
  a3 := Tryz.isAgg3
  z3 := Tryz.sizeOf3
  v3 := Tryz.zeroValue3
  t4 := Tryz.underlying4
  a4 := Tryz.isAgg4
  z4 := Tryz.sizeOf4
  v4 := Tryz.zeroValue4
  t5 := Tryz.underlying5
  a5 := Tryz.isAgg5
  z5 := Tryz.sizeOf5
  v5 := Tryz.zeroValue5
  t9 := Tryz.underlying9
  a9 := Tryz.isAgg9
  z9 := Tryz.sizeOf9
  v9 := Tryz.zeroValue9
  t21 := Tryz.underlying21
  a21 := Tryz.isAgg21
  z21 := Tryz.sizeOf21
  v21 := Tryz.zeroValue21
  t31 := Tryz.underlying62
  a31 := Tryz.isAgg62
  z31 := Tryz.sizeOf62
  v31 := Tryz.zeroValue62
  t46 := Tryz.underlying162
  a46 := Tryz.isAgg162
  z46 := Tryz.sizeOf162
  v46 := Tryz.zeroValue162
  t51 := Tryz.underlying196
  a51 := Tryz.isAgg196
  z51 := Tryz.sizeOf196
  v51 := Tryz.zeroValue196
  t105 := Tryz.underlying205
  a105 := Tryz.isAgg205
  z105 := Tryz.sizeOf205
  v105 := Tryz.zeroValue205
  t119 := Tryz.underlying227
  a119 := Tryz.isAgg227
  z119 := Tryz.sizeOf227
  t138 := Tryz.underlying229
  a138 := Tryz.isAgg229
  z138 := Tryz.sizeOf229
  v138 := Tryz.zeroValue229
  t139 := Tryz.underlying230
  a139 := Tryz.isAgg230
  z139 := Tryz.sizeOf230
  v139 := Tryz.zeroValue230
  t146 := Tryz.underlying235
  a146 := Tryz.isAgg235
  z146 := Tryz.sizeOf235
  v146 := Tryz.zeroValue235
  g1 := by kernel_rfl
  g3 := by kernel_rfl
  g4 := by kernel_rfl }
end Go.Proofs.YtfamfamgopchnaaGreatDoor
/- strings.Split at a slash, and a topic: its levels. -/
namespace Go.Proofs.YtfamfamgopchnaaGreatDoor
open Go.RowKit
set_option linter.unusedSimpArgs false
set_option linter.unusedVariables false
set_option linter.unusedSectionVars false
set_option maxHeartbeats 4000000
set_option maxRecDepth 100000


abbrev knM (m : Int) : Ent := .know 2 [.int .i64 m]
/-- A text that a topic may be. -/
def topicT (l : List UInt8) : Prop := goodT l = true ∧ l ≠ [] ∧ l.length ≤ 65535
/-- A text's levels. -/
def levs (l : List UInt8) : List (List UInt8) := (Lib.splitB (bs [47]) 0 (Lib.countB (bs l) (bs [47])) (bs l)).map (·.data.toList)
theorem bs_back (b : ByteArray) : bs b.data.toList = b := by cases b; simp [bs]
theorem split_one : ∀ (n : Nat) (cs : List V), n = cs.length → splitV 1 false n cs = cs
  | 0, [], _ => rfl
  | n + 1, c :: cs, h => by
    simp only [splitV, Bool.false_eq_true, if_false, List.getD_cons_zero, List.drop_succ_cons, List.drop_zero, split_one n cs (by simpa using h)]
theorem levs_len (l : List UInt8) : (levs l).length = Lib.countB (bs l) (bs [47]) + 1 := by
  unfold levs
  rw [List.length_map, Lib.splitB_all (bs [47]) (by decide) 0 _ (bs l) rfl]
theorem split_dc (m : Int) (l : List UInt8) (F : Own) : l.length ≤ 1000000000 → DC Tryz.prog 173 [.str l, .str [47]] ([knM m] ++ F) fun d G => d = .sl ((levs l).map V.str) ∧ G = [knM m] ++ F := fun hl => by
  refine ⟨by kernel_rfl, fun xs w hs hsz hr => ?_⟩
  have h0 := hr 0 (by simp)
  have h1 := hr 1 (by simp)
  obtain ⟨x0, x1, rfl⟩ := two_of hsz
  have e0 : x0 = .string (bs l) := by
    have h0 : R (stable w ([knM m] ++ F)) w x0 (.str l) := h0
    cases h0; rfl
  have e1 : x1 = .string (bs [47]) := by
    have h1 : R (stable w ([knM m] ++ F)) w x1 (.str [47]) := h1
    cases h1; rfl
  subst e0; subst e1
  have hh := hs.holds (knM m) (List.mem_cons_self ..)
  obtain ⟨k1, k2⟩ := hh 0 (by simp)
  have k2 : R (stable w ([knM m] ++ F)) w (cellAt w ⟨2, 0, none⟩) (.int .i64 m) := k2
  have hm : w.cell? ⟨2, 0, none⟩ = some (.int .i64 m) := by
    have k3 := k1.1
    unfold cellAt at k2
    cases hc : w.cell? ⟨2, 0, none⟩ with
    | none => rw [hc] at k3; cases k3
    | some v => rw [hc] at k2; cases k2; rfl
  have c := Any.strings_Split laySplit (by kernel_rfl) (bs l) (bs [47]) m w (by rw [bs_size]; omega) hm (by decide)
  refine c.mono ?_
  rintro e w' ⟨rfl, rfl⟩
  have hz : ((levs l).map V.str).length = (Lib.countB (bs l) (bs [47]) + 1) * 1 := by rw [List.length_map, levs_len, Nat.mul_one]
  have rr := row_rel (w := w) hs ((Lib.splitB (bs [47]) 0 (Lib.countB (bs l) (bs [47])) (bs l)).map Value.string).toArray (laySplit_ren.t 9) ((levs l).map V.str) (Lib.countB (bs l) (bs [47]) + 1) 1 false (by decide) (fun _ => ⟨rfl, by simp [V.flat]⟩) (by simp [levs]) hz (fun k hk => by
    have hk' : k < (Lib.splitB (bs [47]) 0 (Lib.countB (bs l) (bs [47])) (bs l)).length := by simpa [levs] using hk
    have e1 : (((Lib.splitB (bs [47]) 0 (Lib.countB (bs l) (bs [47])) (bs l)).map Value.string).toArray).getD k undef = Value.string (bs ((Lib.splitB (bs [47]) 0 (Lib.countB (bs l) (bs [47])) (bs l))[k]).data.toList) := by
      rw [bs_back]; simp [Array.getD_eq_getD_getElem?, hk']
    have e2 : ((levs l).map V.str).getD k .any = .str ((Lib.splitB (bs [47]) 0 (Lib.countB (bs l) (bs [47])) (bs l))[k]).data.toList := by
      simp [levs, List.getD_eq_getElem?_getD, hk']
    rw [e1, e2]; exact .str _)
  rw [split_one _ _ (by rw [hz, Nat.mul_one])] at rr
  exact ⟨_, _, _, rfl, (Sim.new hs _).1, (Sim.new hs _).2, rr, rfl, rfl⟩
attribute [local irreducible] DW SeqD DV DOp DC DVX
theorem levelsg_dc (m : Int) (l : List UInt8) (F : Own) : (l.length ≤ 1000000000) → DC Tryz.prog 129 [.str l] ([knM m] ++ F) fun d G => d = .sl ((levs l).map V.str) ∧ G = [knM m] ++ F := by
  intro hA
  have hl := hA
  refine DC.bodyS (n_ := 5) (show Tryz.prog.funcs[129]? = some Tryz.f129 by kernel_rfl) rfl rfl (by rfl) ?_
  simp only [env0, List.cons_append, List.nil_append]
  have kw := ksIs [0, 2]
  have ow := ownIs []
  repeat' (first
    | refine g_ ?_
    | ((with_reducible refine And.intro ?_ ?_); (exact sv))
    | (refine DW.cond (by rfl) ?_ ?_ <;> (first | exact i0_ | (refine ic_ ?_; intro hb)))
    | ((with_reducible refine FVg_cases ?_ ?_) <;> (intro hb; rw [hb]; revert hb; (first | exact i0_ | (refine i_ ?_; intro hb))))
    | refine r_ ?_
    | refine k_ ?_
    | (refine q_ (split_dc _ _ _) ?_)
    | refine o_ ?_
    | refine f_ ?_
    | with_reducible intro b)
  (first | exact fin_ | refine finq_ ?_)
  all_goals rfl
section
attribute [local push_cast 2000] u8
theorem textg_dc (l : List UInt8) (F : Own) : (topicT l) → DC Tryz.prog 128 [.str l] ([knF, knA] ++ F) fun d G => d = .bool true ∧ G = [knF, knA] ++ F := by
  intro hA
  obtain ⟨hg, hne, hl⟩ := hA
  refine DC.bodyS (n_ := 16) (show Tryz.prog.funcs[128]? = some Tryz.f128 by kernel_rfl) rfl rfl (by rfl) ?_
  simp only [env0, List.cons_append, List.nil_append]
  have kw := ksIs [0, 2]
  have ow := ownIs []
  repeat' (first
    | refine g_ ?_
    | ((with_reducible refine And.intro ?_ ?_); (exact sv))
    | (refine DW.cond (by rfl) ?_ ?_ <;> (first | exact i0_ | (refine ic_ ?_; intro hb)))
    | ((with_reducible refine FVg_cases ?_ ?_) <;> (intro hb; rw [hb]; revert hb; (first | exact i0_ | (refine i_ ?_; intro hb))))
    | refine r_ ?_
    | refine k_ ?_
    | (refine q_ (chkg_dc _ _) ?_)
    | refine o_ ?_
    | refine f_ ?_
    | with_reducible intro b)
  all_goals first
  | (exact absurd hb hne)
  | (exfalso; omega)
  | (simp only [decide_true]; (first | exact fin_ | refine finq_ ?_); done)
end
end Go.Proofs.YtfamfamgopchnaaGreatDoor
/- Wild runes in texts of plain runes; names. -/
namespace Go.Proofs.YtfamfamgopchnaaGreatDoor
open Go.RowKit
set_option linter.unusedSimpArgs false
set_option linter.unusedVariables false
set_option linter.unusedSectionVars false
set_option maxHeartbeats 4000000
set_option maxRecDepth 100000
attribute [local irreducible] DW SeqD DV DOp DC DVX


def wildT (l : List UInt8) : Bool := l.any fun c => c == 43 || c == 35
theorem wild_3 {l : List UInt8} {k : Nat} (h : goodT (l.drop k) = true) : (l.length ≤ k ∧ wildT (l.drop k) = false) ∨ (k < l.length ∧ 1 ≤ wideAt l k ∧ k + wideAt l k ≤ l.length ∧ goodT (l.drop (k + wideAt l k)) = true ∧ wildT (l.drop k) = (((runeAt l k : Int) == 43 || (runeAt l k : Int) == 35) || wildT (l.drop (k + wideAt l k)))) := by
  rcases Nat.lt_or_ge k l.length with hi | hi
  · refine .inr ⟨hi, ?_⟩
    rcases rune_good h hi with ⟨h0, h1, h2, h3, h4⟩ | ⟨h1, h2, h3, h4⟩
    · rw [h2, h3]
      refine ⟨Nat.le_refl _, by omega, h4, ?_⟩
      rw [drop_cons hi]
      unfold wildT
      rw [List.any_cons]
      congr 1
      have q (n : UInt8) : (l.getD k 0 == n) = (((l.getD k 0).toNat : Int) == (n.toNat : Int)) := by
        rw [Bool.eq_iff_iff]
        simp only [beq_iff_eq]
        constructor
        · intro e; rw [e]
        · intro e; exact UInt8.toNat_inj.1 (by omega)
      rw [q 43, q 35]
      rfl
    · rcases good_at h hi with ⟨g1, g2, g3⟩ | ⟨g1, g2, g3, g4⟩
      · exfalso
        have := h1
        unfold runeAt Utf8.decode at this
        simp only [Nat.add_zero, bs_get] at this
        rw [if_pos g2] at this
        simp only at this
        omega
      · rw [h1, h2]
        refine ⟨by decide, by omega, h4, ?_⟩
        rw [drop_cons hi, drop_cons h3, g1, g3]
        unfold wildT
        rfl
  · refine .inl ⟨hi, ?_⟩
    rw [List.drop_of_length_le hi]; rfl
theorem wildg_dc (r : Int) (F : Own) : (True) → DC Tryz.prog 131 [.int .i32 r] (([] : Own) ++ F) fun d G => d = .bool (r == 43 || r == 35) ∧ G = [] ++ F := by
  intro hA
  refine DC.bodyS (n_ := 9) (show Tryz.prog.funcs[131]? = some Tryz.f131 by kernel_rfl) rfl rfl (by rfl) ?_
  simp only [env0, List.cons_append, List.nil_append]
  have kw := ksIs [0, 2]
  have ow := ownIs []
  repeat' (first
    | refine g_ ?_
    | ((with_reducible refine And.intro ?_ ?_); (exact sv))
    | (refine DW.cond (by rfl) ?_ ?_ <;> (first | exact i0_ | (refine ic_ ?_; intro hb)))
    | ((with_reducible refine FVg_cases ?_ ?_) <;> (intro hb; rw [hb]; revert hb; (first | exact i0_ | (refine i_ ?_; intro hb))))
    | refine r_ ?_
    | refine k_ ?_
    | refine o_ ?_
    | refine f_ ?_
    | with_reducible intro b)
  all_goals
    refine ⟨_, _, le.of_eq ?_, ⟨rfl, rfl⟩, SubP.refl⟩
    simp_all
theorem idxw_dc (l : List UInt8) (F : Own) : (goodT l = true ∧ l.length ≤ 1000000000) → DC Tryz.prog 203 [.str l, .fn (.func 131) [] [], .bool true] (([] : Own) ++ F) fun d G => ((d = .int .i64 (-1) ∧ wildT l = false) ∨ (∃ k : Nat, d = .int .i64 k ∧ wildT l = true)) ∧ G = [] ++ F := by
  intro hA
  obtain ⟨hg, hl⟩ := hA
  refine DC.bodyS (n_ := 21) (show Tryz.prog.funcs[203]? = some Tryz.f203 by kernel_rfl) rfl rfl (by rfl) ?_
  simp only [env0, List.cons_append, List.nil_append]
  have kw := ksIs [0, 1, 2, 6, 7, 8, 10, 11, 12, 19]
  have ow := ownIs []
  repeat' (first
    | ((with_reducible refine DW.loopB 0 (X := Nat) (fun x => x ≤ l.length ∧ goodT (l.drop x) = true ∧ wildT (l.drop x) = wildT l) (fun x => [(1, .fn (.func 131) [] []), (2, .bool true), (10, .raw (.pointer (some ⟨b, 0, none⟩)))]) (fun x => .siter b l x :: ([] : Own)) (fun x => l.length - x) (0) ?_ ?_ ?_); exact (⟨Nat.zero_le _, hg, rfl⟩); (simp [Sub, get, keepL] <;> fail); (try simp only [List.cons_append, List.nil_append]); refine pl_ ?_; intro k ⟨hk, hgk, hwk⟩; (try simp only [List.cons_append, List.nil_append]); rcases wild_3 (k := k) hgk with ⟨q0, q1⟩ | ⟨q0, q1, q2, q3, q4⟩)
    | refine g_ ?_
    | ((with_reducible refine And.intro ?_ ?_); (exact sv))
    | (refine DW.cond (by rfl) ?_ ?_ <;> (first | exact i0_ | (refine ic_ ?_; intro hb)))
    | ((with_reducible refine FVg_cases ?_ ?_) <;> (intro hb; rw [hb]; revert hb; (first | exact i0_ | (refine i_ ?_; intro hb))))
    | ((refine Both.imp ?_ ?_) <;> (first | exact i0_ | (refine i_ ?_; intro hb)))
    | refine r_ ?_
    | refine k_ ?_
    | (refine q_ (wildg_dc _ _) ?_)
    | refine o_ ?_
    | refine f_ ?_
    | ((refine Both.imp (fun hb => ?_) (fun hb => ?_)) <;> (try (exfalso; omega)))
    | with_reducible intro b)
  all_goals first
  | ((refine ⟨_, _, le.rfl_, ⟨.inl ⟨rfl, ?_⟩, rfl⟩, ?_⟩); (rw [← hwk]; exact q1); (exact sub_))
  | ((refine ⟨_, _, le.rfl_, ⟨.inr ⟨k, rfl, ?_⟩, rfl⟩, ?_⟩); (rw [← hwk, q4, hb]; rfl); (exact sub_))
  | (refine ⟨k + wideAt l k, ?_, ?_, ?_, ?_⟩; ((exact ⟨q2, q3, by rw [← hwk, q4, hb]; rfl⟩)); (omega); (simp [Sub, get] <;> (fail)); (try dsimp only); (exact sub_); done)
theorem idxfw_dc (l : List UInt8) (F : Own) : (goodT l = true ∧ l.length ≤ 1000000000) → DC Tryz.prog 174 [.str l, .fn (.func 131) [] []] (([] : Own) ++ F) fun d G => ((d = .int .i64 (-1) ∧ wildT l = false) ∨ (∃ k : Nat, d = .int .i64 k ∧ wildT l = true)) ∧ G = [] ++ F := by
  intro hA
  obtain ⟨hg, hl⟩ := hA
  refine DC.bodyS (n_ := 8) (show Tryz.prog.funcs[174]? = some Tryz.f174 by kernel_rfl) rfl rfl (by rfl) ?_
  simp only [env0, List.cons_append, List.nil_append]
  have kw := ksIs [0, 1, 4]
  have ow := ownIs []
  repeat' (first
    | refine g_ ?_
    | ((with_reducible refine And.intro ?_ ?_); (exact sv))
    | (refine DW.cond (by rfl) ?_ ?_ <;> (first | exact i0_ | (refine ic_ ?_; intro hb)))
    | ((with_reducible refine FVg_cases ?_ ?_) <;> (intro hb; rw [hb]; revert hb; (first | exact i0_ | (refine i_ ?_; intro hb))))
    | refine r_ ?_
    | refine k_ ?_
    | (refine p_ (idxw_dc _ _) ?_; rintro d H1 ⟨⟨rfl, hw⟩ | ⟨k, rfl, hw⟩, rfl⟩ <;> refine s_ ?_)
    | refine o_ ?_
    | refine f_ ?_
    | with_reducible intro b)
  all_goals first
  | ((refine ⟨_, _, le.rfl_, ⟨.inl ⟨rfl, hw⟩, rfl⟩, ?_⟩); (exact sub_))
  | ((refine ⟨_, _, le.rfl_, ⟨.inr ⟨_, rfl, hw⟩, rfl⟩, ?_⟩); (exact sub_))
theorem conw_dc (l : List UInt8) (F : Own) : (goodT l = true ∧ l.length ≤ 1000000000) → DC Tryz.prog 130 [.str l, .fn (.func 131) [] []] (([] : Own) ++ F) fun d G => d = .bool (wildT l) ∧ G = [] ++ F := by
  intro hA
  obtain ⟨hg, hl⟩ := hA
  refine DC.bodyS (n_ := 9) (show Tryz.prog.funcs[130]? = some Tryz.f130 by kernel_rfl) rfl rfl (by rfl) ?_
  simp only [env0, List.cons_append, List.nil_append]
  have kw := ksIs [0, 1, 4]
  have ow := ownIs []
  repeat' (first
    | refine g_ ?_
    | ((with_reducible refine And.intro ?_ ?_); (exact sv))
    | (refine DW.cond (by rfl) ?_ ?_ <;> (first | exact i0_ | (refine ic_ ?_; intro hb)))
    | ((with_reducible refine FVg_cases ?_ ?_) <;> (intro hb; rw [hb]; revert hb; (first | exact i0_ | (refine i_ ?_; intro hb))))
    | refine r_ ?_
    | refine k_ ?_
    | (refine p_ (idxfw_dc _ _) ?_; rintro d H1 ⟨⟨rfl, hw⟩ | ⟨k, rfl, hw⟩, rfl⟩ <;> refine s_ ?_)
    | refine o_ ?_
    | refine f_ ?_
    | with_reducible intro b)
  all_goals first
  | ((refine ⟨_, _, le.of_eq ?_, ⟨rfl, rfl⟩, ?_⟩); (rw [hw]; first | rfl | (congr 1; exact decide_eq_true (by omega)) | (congr 1; exact decide_eq_false (by omega))); (exact sub_))
theorem nameg_dc (l : List UInt8) (F : Own) : (topicT l) → DC Tryz.prog 108 [.str l] ([knF, knA] ++ F) fun d G => d = .bool (!wildT l) ∧ G = [knF, knA] ++ F := by
  intro hA
  have hT := hA
  refine DC.bodyS (n_ := 14) (show Tryz.prog.funcs[108]? = some Tryz.f108 by kernel_rfl) rfl rfl (by rfl) ?_
  simp only [env0, List.cons_append, List.nil_append]
  have kw := ksIs [0, 2, 4, 6, 7, 8, 11]
  have ow := ownIs []
  have hg := hT.1
  have hl := hT.2.2
  repeat' (first
    | ((with_reducible refine DW.loopB 0 (X := Nat) (fun x => x ≤ l.length ∧ goodT (l.drop x) = true ∧ wildT (l.drop x) = wildT l) (fun x => [(0, .str l), (6, .raw (.pointer (some ⟨b, 0, none⟩)))]) (fun x => [.siter b l x, knF, knA]) (fun x => l.length - x) (0) ?_ ?_ ?_); exact (⟨Nat.zero_le _, hg, rfl⟩); (simp [Sub, get, keepL] <;> fail); (try simp only [List.cons_append, List.nil_append]); refine pl_ ?_; intro k ⟨hk, hgk, hwk⟩; (try simp only [List.cons_append, List.nil_append]); rcases wild_3 (k := k) hgk with ⟨q0, q1⟩ | ⟨q0, q1, q2, q3, q4⟩)
    | refine g_ ?_
    | ((with_reducible refine And.intro ?_ ?_); (exact sv))
    | (refine DW.cond (by rfl) ?_ ?_ <;> (first | exact i0_ | (refine ic_ ?_; intro hb)))
    | ((with_reducible refine FVg_cases ?_ ?_) <;> (intro hb; rw [hb]; revert hb; (first | exact i0_ | (refine i_ ?_; intro hb))))
    | ((refine Both.imp ?_ ?_) <;> (first | exact i0_ | (refine i_ ?_; intro hb)))
    | refine r_ ?_
    | refine k_ ?_
    | (refine q_ (wildg_dc _ _) ?_)
    | (refine q_ (textg_dc _ _) ?_)
    | refine o_ ?_
    | refine f_ ?_
    | ((refine Both.imp (fun hb => ?_) (fun hb => ?_)) <;> (try (exfalso; omega)))
    | with_reducible intro b)
  all_goals first
  | ((refine ⟨_, _, le.of_eq ?_, ⟨rfl, rfl⟩, ?_⟩); (rw [← hwk, q1]; rfl); (exact sub_))
  | ((refine ⟨_, _, le.of_eq ?_, ⟨rfl, rfl⟩, ?_⟩); (rw [← hwk, q4, hb]; rfl); (exact sub_))
  | (refine ⟨k + wideAt l k, ?_, ?_, ?_, ?_⟩; ((exact ⟨q2, q3, by rw [← hwk, q4, hb]; rfl⟩)); (omega); (simp [Sub, get] <;> (fail)); (try dsimp only); (exact sub_); done)
end Go.Proofs.YtfamfamgopchnaaGreatDoor
