/- Frames held against one another; what the laws on frames ask first. -/
import Derived.Test.YtfmjboanoojhcaaGreatDoorFm8x
import Derived.KernelRfl
namespace Go.Proofs.YtfmjboanoojhcaaGreatDoor
open Go.RowKit
set_option linter.unusedSimpArgs false
set_option linter.unusedVariables false
set_option linter.unusedSectionVars false
set_option maxHeartbeats 4000000
set_option maxRecDepth 100000
attribute [local irreducible] DW SeqD DV DOp DC DVX

theorem eqSelf (p : List UInt8) : (p == p) = true := by simp
theorem dots0_dc  (F : Own) : (True) → DC Tryz.prog 43 [.sl [], .sl []] (([] : Own) ++ F) fun d G => d = .bool true ∧ G = [] ++ F := by
  intro hA
  refine DC.bodyS (n_ := 26) (show Tryz.prog.funcs[43]? = some Tryz.f43 by kernel_rfl) rfl rfl (by rfl) ?_
  simp only [env0, List.cons_append, List.nil_append]
  have kw := ksIs [0, 1, 4, 5, 10, 14, 25]
  have ow := ownIs []
  have dw6 := drIs 6 [] [3, 7]
  repeat' (first
    | ((with_reducible refine DW.loopB 0 (X := Nat) (fun x => x ≤ 0) (fun x => [(0, .sl []), (1, .sl []), (5, .int .i64 x)]) (fun x => ([] : Own)) (fun x => 0 - x) (0) ?_ ?_ ?_); exact (Nat.zero_le _); (simp [Sub, get, keepL] <;> fail); (try simp only [List.cons_append, List.nil_append]); refine pl_ ?_; intro k hk; (try simp only [List.cons_append, List.nil_append]))
    | refine g_ ?_
    | ((with_reducible refine And.intro ?_ ?_); (exact sv))
    | (refine DW.cond (by rfl) ?_ ?_ <;> (first | exact i0_ | (refine ic_ ?_; intro hb)))
    | ((with_reducible first | refine FVg_cases ?_ ?_ | refine FDg_cases ?_ ?_) <;> (intro hb; rw [hb]; revert hb; (first | exact i0_ | (refine i_ ?_; intro hb))))
    | refine r_ ?_
    | refine d_ ?_
    | refine k_ ?_
    | refine vo_ ?_
    | refine o_ ?_
    | refine f_ ?_
    | refine vm_ ?_
    | with_reducible intro b)
  all_goals first
  | (exfalso; omega)
  | ((first | exact fin_ | refine finq_ ?_); done)
section
attribute [local push_cast 2000] byteOf_map isU8_map eq_aa eqSelf
theorem msg_dc (p : List UInt8) (q : Int) (F : Own) : (True) → DC Tryz.prog 73 [.agg [.str [97], .sl (p.map u8), .int .i64 q, .bool false], .agg [.str [97], .sl (p.map u8), .int .i64 q, .bool false]] (([] : Own) ++ F) fun d G => d = .bool true ∧ G = [] ++ F := by
  intro hA
  refine DC.bodyS (n_ := 33) (show Tryz.prog.funcs[73]? = some Tryz.f73 by kernel_rfl) rfl rfl (by rfl) ?_
  simp only [env0, List.cons_append, List.nil_append]
  have kw := ksIs [0, 1, 2, 3, 4]
  have ow := ownIs []
  repeat' (first
    | refine g_ ?_
    | ((with_reducible refine And.intro ?_ ?_); (exact sv))
    | (refine DW.cond (by rfl) ?_ ?_ <;> (first | exact i0_ | (refine ic_ ?_; intro hb)))
    | ((with_reducible refine FVg_cases ?_ ?_) <;> (intro hb; rw [hb]; revert hb; (first | exact i0_ | (refine i_ ?_; intro hb))))
    | refine r_ ?_
    | refine k_ ?_
    | refine o_ ?_
    | refine f_ ?_
    | with_reducible intro b)
  (first | exact fin_ | refine finq_ ?_)
  all_goals rfl
end
theorem rsame0_dc  (F : Own) : (True) → DC Tryz.prog 66 [.agg [.sl [], .sl [], .sl [], .sl []], .agg [.sl [], .sl [], .sl [], .sl []]] (([] : Own) ++ F) fun d G => d = .bool true ∧ G = [] ++ F := by
  intro hA
  refine DC.bodyS (n_ := 116) (show Tryz.prog.funcs[66]? = some Tryz.f66 by kernel_rfl) rfl rfl (by rfl) ?_
  simp only [env0, List.cons_append, List.nil_append]
  have kw := ksIs [0, 1, 2, 3, 4, 5, 6, 7, 8, 42, 47, 60, 65, 78, 83, 96, 101, 115]
  have ow := ownIs []
  have dw6 := drIs 6 [] [1, 4, 6, 9]
  have dw11 := drIs 11 [] [1, 4, 6, 9]
  have dw16 := drIs 16 [] [1, 4, 6, 9]
  have dw21 := drIs 21 [] [1, 4, 6, 9, 10]
  repeat' (first
    | ((with_reducible refine DW.loopB 0 (X := Nat) (fun x => x ≤ 0) (fun x => [(2, .sp [.sl [], .sl [], .sl [], .sl []]), (3, .sp [.sl [], .sl [], .sl [], .sl []]), (5, .int .i64 x)]) (fun x => ([] : Own)) (fun x => 0 - x) (0) ?_ ?_ ?_); exact (Nat.zero_le _); (simp [Sub, get, keepL] <;> fail); (try simp only [List.cons_append, List.nil_append]); refine pl_ ?_; intro k hk; (try simp only [List.cons_append, List.nil_append]))
    | ((with_reducible refine DW.loopB 2 (X := Nat) (fun x => x ≤ 0) (fun x => [(2, .sp [.sl [], .sl [], .sl [], .sl []]), (3, .sp [.sl [], .sl [], .sl [], .sl []]), (6, .int .i64 x)]) (fun x => ([] : Own)) (fun x => 0 - x) (0) ?_ ?_ ?_); exact (Nat.zero_le _); (simp [Sub, get, keepL] <;> fail); (try simp only [List.cons_append, List.nil_append]); refine pl_ ?_; intro k hk; (try simp only [List.cons_append, List.nil_append]))
    | ((with_reducible refine DW.loopB 4 (X := Nat) (fun x => x ≤ 0) (fun x => [(2, .sp [.sl [], .sl [], .sl [], .sl []]), (3, .sp [.sl [], .sl [], .sl [], .sl []]), (7, .int .i64 x)]) (fun x => ([] : Own)) (fun x => 0 - x) (0) ?_ ?_ ?_); exact (Nat.zero_le _); (simp [Sub, get, keepL] <;> fail); (try simp only [List.cons_append, List.nil_append]); refine pl_ ?_; intro k hk; (try simp only [List.cons_append, List.nil_append]))
    | ((with_reducible refine DW.loopB 6 (X := Nat) (fun x => x ≤ 0) (fun x => [(2, .sp [.sl [], .sl [], .sl [], .sl []]), (3, .sp [.sl [], .sl [], .sl [], .sl []]), (8, .int .i64 x)]) (fun x => ([] : Own)) (fun x => 0 - x) (0) ?_ ?_ ?_); exact (Nat.zero_le _); (simp [Sub, get, keepL] <;> fail); (try simp only [List.cons_append, List.nil_append]); refine pl_ ?_; intro k hk; (try simp only [List.cons_append, List.nil_append]))
    | refine g_ ?_
    | ((with_reducible refine And.intro ?_ ?_); (exact sv))
    | (refine DW.cond (by rfl) ?_ ?_ <;> (first | exact i0_ | (refine ic_ ?_; intro hb)))
    | ((with_reducible first | refine FVg_cases ?_ ?_ | refine FDg_cases ?_ ?_) <;> (intro hb; rw [hb]; revert hb; (first | exact i0_ | (refine i_ ?_; intro hb))))
    | refine r_ ?_
    | refine d_ ?_
    | refine k_ ?_
    | refine vo_ ?_
    | refine o_ ?_
    | refine f_ ?_
    | refine vm_ ?_
    | with_reducible intro b)
  all_goals first
  | (exfalso; omega)
  | ((first | exact fin_ | refine finq_ ?_); done)
theorem help_dc (fr ep at_ seq q : Int) (p : List UInt8) (F : Own) : (True) → DC Tryz.prog 22 [.agg [.int .i64 3, .int .i64 fr, .int .i64 ep, .int .i64 at_, .sl [], .sl [], .sl [], .sl [], .sl [], .sl [], .int .i64 seq, .str [97], .sl (p.map u8), .int .i64 q, .bool false], .agg [.int .i64 3, .int .i64 fr, .int .i64 ep, .int .i64 at_, .sl [], .sl [], .sl [], .sl [], .sl [], .sl [], .int .i64 seq, .str [97], .sl (p.map u8), .int .i64 q, .bool false]] (([] : Own) ++ F) fun d G => d = .bool true ∧ G = [] ++ F := by
  intro hA
  refine DC.bodyS (n_ := 87) (show Tryz.prog.funcs[22]? = some Tryz.f22 by kernel_rfl) rfl rfl (by rfl) ?_
  simp only [env0, List.cons_append, List.nil_append]
  have kw := ksIs [0, 1, 2, 3, 4, 5, 63, 68, 81]
  have ow := ownIs []
  have dw6 := drIs 6 [] [1, 4, 6, 9]
  repeat' (first
    | ((with_reducible refine DW.loopB 0 (X := Nat) (fun x => x ≤ 0) (fun x => [(2, .sp [.int .i64 3, .int .i64 fr, .int .i64 ep, .int .i64 at_, .sl [], .sl [], .sl [], .sl [], .sl [], .sl [], .int .i64 seq, .str [97], .sl (p.map u8), .int .i64 q, .bool false]), (3, .sp [.int .i64 3, .int .i64 fr, .int .i64 ep, .int .i64 at_, .sl [], .sl [], .sl [], .sl [], .sl [], .sl [], .int .i64 seq, .str [97], .sl (p.map u8), .int .i64 q, .bool false]), (5, .int .i64 x)]) (fun x => ([] : Own)) (fun x => 0 - x) (0) ?_ ?_ ?_); exact (Nat.zero_le _); (simp [Sub, get, keepL] <;> fail); (try simp only [List.cons_append, List.nil_append]); refine pl_ ?_; intro k hk; (try simp only [List.cons_append, List.nil_append]))
    | refine g_ ?_
    | ((with_reducible refine And.intro ?_ ?_); (exact sv))
    | (refine DW.cond (by rfl) ?_ ?_ <;> (first | exact i0_ | (refine ic_ ?_; intro hb)))
    | ((with_reducible first | refine FVg_cases ?_ ?_ | refine FDg_cases ?_ ?_) <;> (intro hb; rw [hb]; revert hb; (first | exact i0_ | (refine i_ ?_; intro hb))))
    | refine r_ ?_
    | refine d_ ?_
    | refine k_ ?_
    | ((refine dm_ ?_); (first | (refine v_ (dots0_dc _) ?_) | (refine v_ (msg_dc _ _ _) ?_) | (refine v_ (rsame0_dc _) ?_)))
    | refine vo_ ?_
    | (refine q_ (dots0_dc _) ?_)
    | (refine q_ (msg_dc _ _ _) ?_)
    | (refine q_ (rsame0_dc _) ?_)
    | refine o_ ?_
    | refine f_ ?_
    | refine vm_ ?_
    | with_reducible intro b)
  all_goals first
  | (exfalso; omega)
  | ((first | exact fin_ | refine finq_ ?_); done)
def fullK : List UInt8 := fullF 2 3 4 5 1 [120]
theorem fullK_len : fullK.length = 70 := full_len 2 3 4 5 1 [120]
theorem putK_dc (F : Own) : True → DC Tryz.prog 17 [.agg [.int .i64 3, .int .i64 2, .int .i64 3, .int .i64 4, .sl [], .sl [], .sl [], .sl [], .sl [], .sl [], .int .i64 5, .str [97], .sl [.int .u8 120], .int .i64 1, .bool false]] (([] : Own) ++ F) fun d G => ∃ v1, d = .tup [.gs v1 (fullK.map u8), .int .i64 0] ∧ G = .tail 1 v1 :: F := fun _ =>
  (putf_dc 2 3 4 5 1 [120] F (by decide)).mono fun d G h => by
    have := fullK_len
    rcases h with ⟨_, h⟩ | ⟨h, _⟩
    · exact h
    · exfalso; rw [show fullF 2 3 4 5 1 [120] = fullK from rfl] at h; omega
theorem readK4_dc (F : Own) : True → DC Tryz.prog 21 [.sl (fullK.map u8)] (([] : Own) ++ F) fun d G => d = .tup [.agg [.int .i64 3, .int .i64 2, .int .i64 3, .int .i64 4, .gs (.slice none 0 0) [], .gs (.slice none 0 0) [], .gs (.slice none 0 0) [], .gs (.slice none 0 0) [], .gs (.slice none 0 0) [], .gs (.slice none 0 0) [], .int .i64 5, .str [97], .sl [.int .u8 120], .int .i64 1, .bool false], .int .i64 0] ∧ G = [] ++ F := fun _ =>
  read4_dc 2 3 4 5 1 [120] fullK [] F ⟨rfl, rfl, by decide, by rw [fullK_len]; decide⟩
theorem readK2_dc (F : Own) : True → DC Tryz.prog 21 [.sl (.int .u8 0 :: fullK.map u8)] (([] : Own) ++ F) fun d G => d = .tup [.agg [.int .i64 0, .int .i64 0, .int .i64 0, .int .i64 0, .gs (.slice none 0 0) [], .gs (.slice none 0 0) [], .gs (.slice none 0 0) [], .gs (.slice none 0 0) [], .gs (.slice none 0 0) [], .gs (.slice none 0 0) [], .int .i64 0, .str [], .gs (.slice none 0 0) [], .int .i64 0, .bool false], .int .i64 21] ∧ G = [] ++ F := fun _ =>
  read2_dc fullK F ⟨by rw [fullK_len]; decide, by rw [fullK_len]; decide⟩
set_option maxRecDepth 100000 in
theorem readK3_dc (F : Own) : True → DC Tryz.prog 21 [.sl (fullK.map u8 ++ [.int .u8 0])] (([] : Own) ++ F) fun d G => d = .tup [.agg [.int .i64 0, .int .i64 0, .int .i64 0, .int .i64 0, .gs (.slice none 0 0) [], .gs (.slice none 0 0) [], .gs (.slice none 0 0) [], .gs (.slice none 0 0) [], .gs (.slice none 0 0) [], .gs (.slice none 0 0) [], .int .i64 0, .str [], .gs (.slice none 0 0) [], .int .i64 0, .bool false], .int .i64 27] ∧ G = [] ++ F := fun _ => by
  have hl : (fullK ++ [0]).length = 71 := by rw [List.length_append, fullK_len]; rfl
  have h63 : (((fullK ++ [0]).length : Int) - 8).toNat = 63 := by rw [hl]; rfl
  have := read3_dc (fullK ++ [0]) ((fullK ++ [0]).take 63) (fnvV (bodyF 2 3 4 5 1 [120]) / 256) F ⟨⟨by rw [hl]; decide, by rw [hl]; decide⟩, by decide +kernel, by rw [h63]; decide +kernel, by rw [h63], by decide +kernel, by decide +kernel, by rw [List.length_take, hl]; decide⟩
  rwa [List.map_append] at this
theorem helpK_dc (F : Own) : True → DC Tryz.prog 22 [.agg [.int .i64 3, .int .i64 2, .int .i64 3, .int .i64 4, .sl [], .sl [], .sl [], .sl [], .sl [], .sl [], .int .i64 5, .str [97], .sl [.int .u8 120], .int .i64 1, .bool false], .agg [.int .i64 3, .int .i64 2, .int .i64 3, .int .i64 4, .sl [], .sl [], .sl [], .sl [], .sl [], .sl [], .int .i64 5, .str [97], .sl [.int .u8 120], .int .i64 1, .bool false]] (([] : Own) ++ F) fun d G => d = .bool true ∧ G = [] ++ F := fun _ => help_dc 2 3 4 5 1 [120] F trivial
theorem sv_known14_dc {p : Prop} (h : p := by first | exact sv | (simp [u8, V.one]; omega) | (simp [u8, V.one] <;> fail) | (simp [u8, V.one, fullK_len] <;> omega) | fail) : p := h
section
attribute [local push_cast 2000] V.sl.injEq forall_eq' forall_eq fullK_len
theorem known14_dc  (F : Own) : (True) → DC Tryz.prog 12 [] (([] : Own) ++ F) fun d G => d = .bool true ∧ G = [] ++ F := by
  intro hA
  refine DC.bodyS (n_ := 63) (show Tryz.prog.funcs[12]? = some Tryz.f12 by kernel_rfl) rfl rfl (by rfl) ?_
  simp only [env0, List.cons_append, List.nil_append]
  have kw := ksIs [0, 1, 2, 3, 4, 5, 7, 9]
  have ow := ownIs [10, 11, 25, 34]
  refine DW.tail0 1 ?_
  repeat' (first
    | refine g_ ?_
    | ((with_reducible refine And.intro ?_ ?_); (exact sv_known14_dc))
    | (refine DW.cond (by rfl) ?_ ?_ <;> (first | exact i0_ | (refine ic_ ?_; intro hb)))
    | ((with_reducible refine FVg_cases ?_ ?_) <;> (intro hb; rw [hb]; revert hb; (first | exact i0_ | (refine i_ ?_; intro hb))))
    | refine r_ ?_
    | refine k_ ?_
    | (refine p_ (putK_dc _) ?_ (ha := by exact sv_known14_dc); rintro d H1 ⟨v1, rfl, rfl⟩ <;> refine s_ ?_)
    | (refine q_ (readK4_dc _) ?_ (ha := by exact sv_known14_dc))
    | (refine q_ (readK2_dc _) ?_ (ha := by exact sv_known14_dc))
    | (refine q_ (readK3_dc _) ?_ (ha := by exact sv_known14_dc))
    | (refine q_ (helpK_dc _) ?_ (ha := by exact sv_known14_dc))
    | (refine q_ (right0_dc _) ?_ (ha := by exact sv_known14_dc))
    | refine o_ ?_
    | refine f_ ?_
    | with_reducible intro b)
  all_goals first
  | ((first | exact fin_ | refine finq_ ?_); done)
  | (trivial)
end
end Go.Proofs.YtfmjboanoojhcaaGreatDoor
