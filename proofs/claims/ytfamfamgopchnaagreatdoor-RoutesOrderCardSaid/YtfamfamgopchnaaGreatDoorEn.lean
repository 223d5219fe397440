/- The rewrite rules of the walk as one set; loops behind their block. No statement of the program. -/
import Derived.Test.YtfamfamgopchnaaGreatDoorEm
import Derived.Test.YtfamfamgopchnaaGreatDoorTys
namespace Go.Proofs.YtfamfamgopchnaaGreatDoor
open Go.RowKit
set_option linter.unusedSimpArgs false
set_option linter.unusedVariables false
set_option linter.unusedSectionVars false

theorem tEq (b : Bool) : (true = b) = (b = true) := by cases b <;> simp
theorem fEq (b : Bool) : (false = b) = (b = false) := by cases b <;> simp
theorem tBeq (b : Bool) : (true == b) = b := by cases b <;> rfl
theorem fBeq (b : Bool) : (false == b) = !b := by cases b <;> rfl
theorem beqT (b : Bool) : (b == true) = b := by cases b <;> rfl
theorem beqF (b : Bool) : (b == false) = !b := by cases b <;> rfl
theorem beqSelf (b : Bool) : (b == b) = true := by cases b <;> rfl
theorem bneI (a : Int) : (a != a) = false := by simp
theorem beqI (a : Int) : (a == a) = true := by simp
attribute [push_cast] tBeq fBeq beqT beqF beqSelf bneI beqI Bool.not_not
attribute [push_cast] FV_nil FV_cons FVr_eq FVg_tt FVg_tf FVg_ft FVg_ff FVg_tup FD_nil FD_cons FDr_eq FDg_tt FDg_tf FDg_ft FDg_ff FDg_tup isF side val opd_tmp opd_const opd_global opd_func get_nil get_cons put_nil put_cons putO_some putO_none keepL_nil keepL_cons ofConst ofConst1 gval gd_true gd_false gf_true gf_false gd_tup gf_tup pickV binV binS unV unS convV convS partV partS lenV lenS idxAddrV idxAddrS idxV idxS sliceV bndS sliceS mmV mmS V.cs V.n V.solid V.one V.flat AppS_iff srcL List.forall_mem_map List.forall_mem_cons List.not_mem_nil false_implies implies_true forall_const lay_cons lay_len lay_zero lay_nil fillV fillS splitV loN hiN List.replicate_succ List.replicate_zero List.flatten_cons List.flatten_nil nilQ nilK eqR eqL eqTS eqLS nilS spS Option.isSome_some Option.isNone_some Option.isNone_none dropD List.length_drop List.append_assoc if_true if_false true_and and_true Bool.false_eq_true Bool.not_true Bool.not_false Bool.true_eq_false ne_eq not_false_eq_true List.getD_cons_zero List.getD_cons_succ List.drop_succ_cons List.drop_zero List.take_succ_cons List.take_zero List.take_nil List.drop_nil List.length_cons List.length_nil List.map_cons List.map_nil Option.map_some Option.map_none Option.bind_some List.toList_toArray List.getElem?_toArray List.getElem?_cons_zero List.getElem?_cons_succ List.contains_cons List.contains_nil List.append_nil List.nil_append List.cons_append List.nil_eq List.all_cons List.all_nil Int.toNat_natCast Nat.zero_add Nat.add_zero not_true_eq_false Nat.zero_mul Nat.one_mul Nat.mul_one List.length_map keep retV one_ addr_mk wrap_i64 wrap_u64 wrap_u8 wrap_i32 wrap_u32 getD_enc List.length_append List.length_replicate Bool.or_false Bool.or_true Bool.true_or Bool.false_or Bool.and_true Bool.true_and Bool.and_false Bool.false_and BEq.rfl and_self and_imp eq_self or_false false_or or_true true_or false_and and_false placeT RetK_nil RetK_tmp Both_r Both_l AppA_iff cells_nil cells_cons cells_append
attribute [push_cast] ty_0 ty_1 ty_2 ty_3 ty_4 ty_5 ty_6 ty_7 ty_8 ty_9 ty_10 ty_11 ty_12 ty_13 ty_14 ty_15 ty_16 ty_17 ty_18 ty_19 ty_20 ty_21 ty_22 ty_23 ty_24 ty_25 ty_26 ty_27 ty_28 ty_29 ty_30 ty_31 ty_32 ty_33 ty_34 ty_35 ty_36 ty_37 ty_38 ty_39 ty_40 ty_41 ty_42 ty_43 ty_44 ty_45 ty_46 ty_47 ty_48 ty_49 ty_50 ty_51 ty_52 ty_53 ty_54 ty_55 ty_56 ty_57 ty_58 ty_59 ty_60 ty_61 ty_62 ty_63 ty_64 ty_65 ty_66 ty_67 ty_68 ty_69 ty_70 ty_71 ty_72 ty_73 ty_74 ty_75 ty_76 ty_77 ty_78 ty_79 ty_80 ty_81 ty_82 ty_83 ty_84 ty_85 ty_86 ty_87 ty_88 ty_89 ty_90 ty_91 ty_92 ty_93 ty_94 ty_95 ty_96 ty_97 ty_98 ty_99 ty_100 ty_101 ty_102 ty_103 ty_104 ty_105 ty_106 ty_107 ty_108 ty_109 ty_110 ty_111 ty_112 ty_113 ty_114 ty_115 ty_116 ty_117 ty_118 ty_119 ty_120 ty_121 ty_122 ty_123 ty_124 ty_125 ty_126 ty_127 ty_128 ty_129 ty_130 ty_131 ty_132 ty_133 ty_134 ty_135 ty_136 ty_137 ty_138 ty_139 ty_140 ty_141 ty_142 ty_143 ty_144 ty_145 ty_146 ty_147 ty_148 ty_149 ty_150 ty_151 ty_152 ty_153 ty_154 ty_155 ty_156 ty_157 ty_158 ty_159 ty_160 ty_161 ty_162 ty_163 ty_164 ty_165 ty_166 ty_167 ty_168 ty_169 ty_170 ty_171 ty_172 ty_173 ty_174 ty_175 ty_176 ty_177 ty_178 ty_179 ty_180 ty_181 ty_182 ty_183 ty_184 ty_185 ty_186 ty_187 ty_188 ty_189 ty_190 ty_191 ty_192 ty_193 ty_194 ty_195 ty_196 ty_197 ty_198 ty_199 ty_200 ty_201 ty_202 ty_203 ty_204 ty_205 ty_206 ty_207 ty_208 ty_209 ty_210 ty_211 ty_212 ty_213 ty_214 ty_215 ty_216 ty_217 ty_218 ty_219 ty_220 ty_221 ty_222 ty_223 ty_224 ty_225 ty_226 ty_227 ty_228 ty_229 ty_230 ty_231 ty_232 ty_233 ty_234 ty_235 ty_236 ty_237 ty_238 ty_239 ty_240 ty_241 ty_242 ty_243 ty_244 ty_245 ty_246 ty_247 ty_248 ty_249 ty_250 eqT_48 eqT_50 eqT_102 eqT_121

/-- What closes a side condition. -/
theorem sv {p : Prop} (h : p := by first | exact True.intro | omega | assumption | (simp <;> fail) | (simp; omega) | (refine ⟨?_, ?_⟩ <;> first | omega | assumption | (simp <;> fail) | (simp; omega)) | (refine ⟨?_, ?_, ?_⟩ <;> first | omega | assumption | (simp <;> fail) | (simp; omega)) | fail) : p := h
/-- What a branch has asked, read. -/
theorem hbs : (∀ (p : Prop) [Decidable p], (decide p = true) = p) ∧ (∀ (p : Prop) [Decidable p], decide p = false ↔ ¬ p) ∧ (∀ {α : Type} [BEq α] [LawfulBEq α] {a b : α}, (a == b) = true ↔ a = b) ∧ (∀ {α : Type} [BEq α] [LawfulBEq α] {a b : α}, (a != b) = true ↔ a ≠ b) ∧
    (∀ {α : Type} (a b : α), (a ≠ b) = ¬ (a = b)) ∧ (∀ {α : Type} [BEq α] [LawfulBEq α] {a b : α}, (a == b) = false ↔ a ≠ b) ∧ (∀ {α : Type} [BEq α] [LawfulBEq α] {a b : α}, (a != b) = false ↔ a = b) ∧
    (∀ a b : Bool, ((a && b) = true) = (a = true ∧ b = true)) ∧ (∀ a : Bool, (a && true) = a) ∧ (∀ a : Bool, ((!a) = true) = (a = false)) ∧ (∀ a : Bool, ((!a) = false) = (a = true)) ∧ (∀ {a b : Int}, ¬ a < b ↔ b ≤ a) ∧ (∀ {a b : Int}, ¬ a ≤ b ↔ b < a) ∧
    (∀ {a b : Prop}, ¬ (a ∧ b) ↔ (a → ¬ b)) ∧ (∀ a b : Bool, ((!a) = b) = (a = !b)) ∧ ((!true) = false) ∧ ((!false) = true) ∧ (∀ b : Bool, (true = b) = (b = true)) ∧ (∀ b : Bool, (false = b) = (b = false)) ∧ (∀ b : Bool, (¬ b = true) = (b = false)) ∧ (∀ b : Bool, (¬ b = false) = (b = true)) :=
  ⟨fun _ _ => decide_eq_true_eq, fun _ _ => decide_eq_false_iff_not, beq_iff_eq, bne_iff_ne, fun _ _ => rfl, beq_eq_false_iff_ne, bne_eq_false_iff_eq, fun a b => by cases a <;> cases b <;> simp, fun a => by cases a <;> rfl, fun a => by cases a <;> simp, fun a => by cases a <;> simp, Int.not_lt, Int.not_le,
    not_and, fun a b => by cases a <;> cases b <;> simp, rfl, rfl, tEq, fEq, fun b => by cases b <;> simp, fun b => by cases b <;> simp⟩

section
variable {P : Program} {n : Nat} {Q : Exit → Env → Own → Prop} {e : Env} {H : Own}
/-- A test that is decided. -/
theorem DW.ct_ {c : Operand} {x y : Code} (h : DW P n x Q e H) (hc : opd e c = .bool true := by first | (simp only [opd_tmp, opd_const, ofConst, ofConst1, get_cons, Nat.reduceEqDiff, ↓reduceIte, if_true, if_false] <;> fail) | fail) : DW P n (.cond c x y) Q e H := DW.ct hc h
theorem DW.cf_ {c : Operand} {x y : Code} (h : DW P n y Q e H) (hc : opd e c = .bool false := by first | (simp only [opd_tmp, opd_const, ofConst, ofConst1, get_cons, Nat.reduceEqDiff, ↓reduceIte, if_true, if_false] <;> fail) | fail) : DW P n (.cond c x y) Q e H := DW.cf hc h
/-- A block counts as it is from here on. -/
theorem DW.frzB (id t : Nat) {b : Nat} {cs : List V} {ops : Array Oper} {d : Bool} (ht : get e t = .raw (.pointer (some ⟨b, 0, none⟩))) (ho : Out H (.blk b cs) fun F => DW P n (.region id ops d) Q (put e t (.sp cs)) F) : DW P n (.region id ops d) Q e H := by
  obtain ⟨F, hp, h⟩ := ho
  intro a w hs hr
  exact wp_mono (DW.freeze t b ht (L1 := []) (L2 := F) rfl h a w (hs.perm hp) (hr.ext (Ext.perm hp))) fun x a1 w1 ⟨hd, e1, H1, s, r, x1, q⟩ => ⟨hd, e1, H1, s, r, (Ext.perm hp).trans x1, q⟩
/-- A loop in its block. -/
theorem DW.loopB (id : Nat) {X : Type} {c : Code} (I : X → Prop) (E : X → Env) (G : X → Own) (m : X → Nat) (x0 : X) (h0 : I x0) (he : Sub (E x0) e)
    (hp : Pull H (G x0) fun F => ∀ x, I x → DW P n c (thenD (fun e' H' => ∃ x', I x' ∧ m x' < m x ∧ Sub (E x') e' ∧ SubP (G x' ++ F) H') (blockD id Q)) (E x) (G x ++ F)) : DW P n (.block id (.loop c)) Q e H :=
  DW.block (DW.loopP I E G m x0 h0 he hp)
end
end Go.Proofs.YtfamfamgopchnaaGreatDoor
