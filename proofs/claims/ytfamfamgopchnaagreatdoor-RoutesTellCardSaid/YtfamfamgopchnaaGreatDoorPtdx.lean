/- A fence among fences. -/
import Derived.Test.YtfamfamgopchnaaGreatDoorPtax
import Derived.KernelRfl
namespace Go.Proofs.YtfamfamgopchnaaGreatDoor
open Go.RowKit
set_option linter.unusedSimpArgs false
set_option linter.unusedVariables false
set_option linter.unusedSectionVars false
set_option maxHeartbeats 4000000
set_option maxRecDepth 100000


def placeF (l : List TFence) (n : Int) : Nat := firstK (fun i => !decide ((l.getD i default).node < n)) l.length 0
def foundF (l : List TFence) (n : Int) : Bool := decide (placeF l n < l.length) && (cmpI (l.getD (placeF l n) default).node n == 0)
theorem cmpI_lt (a b : Int) : cmpI a b < 0 ↔ a < b := by unfold cmpI; split <;> (try split) <;> omega
theorem cmpI_z (a b : Int) : cmpI a b = 0 ↔ a = b := by unfold cmpI; split <;> (try split) <;> omega
theorem cmpI_nlt (a b : Int) : 0 ≤ cmpI a b ↔ ¬ a < b := by unfold cmpI; split <;> (try split) <;> omega
theorem fence_mono {l : List TFence} (h : FR l) (n : Int) : ∀ a b, a ≤ b → b < l.length → decide ((l.getD b default).node < n) = true → decide ((l.getD a default).node < n) = true := fun a b hab hb ha => by
  rcases Nat.eq_or_lt_of_le hab with rfl | hlt
  · exact ha
  · have := pw_at h.1 hlt hb
    rw [decide_eq_true_eq] at *; omega
theorem bsF {l : List TFence} (h : FR l) {n : Int} {i : Nat} (hi : i ≤ l.length) (h1 : i = 0 ∨ (l.getD (i - 1) default).node < n) (h2 : i = l.length ∨ ¬ (l.getD i default).node < n) : placeF l n = i :=
  bs_end (fence_mono h n) hi (h1.imp id fun h => by simpa using h) (h2.imp id fun h => by simpa using h)
theorem foundF_lt {l : List TFence} {n : Int} (h : foundF l n = true) : placeF l n < l.length := by
  simp only [foundF, Bool.and_eq_true, decide_eq_true_eq] at h; exact h.1
theorem placeF_le (l : List TFence) (n : Int) : placeF l n ≤ l.length := by
  obtain ⟨h1, h2, h3, h4⟩ := firstK_le (fun i => !decide ((l.getD i default).node < n)) l.length 0
  show firstK (fun i => !decide ((l.getD i default).node < n)) l.length 0 ≤ l.length
  omega
def fenceP (l : List TFence) (n e : Int) : List TFence := if foundF l n = true then l.set (placeF l n) ⟨(l.getD (placeF l n) default).node, max (l.getD (placeF l n) default).epoch e⟩ else l.take (placeF l n) ++ ⟨n, e⟩ :: l.drop (placeF l n)
attribute [local irreducible] DW SeqD DV DOp DC DVX DVJ
theorem fc1_dc (a b x : Int) (F : Own) : (True) → DC Tryz.prog 79 [.agg [.int .i64 a, .int .i64 b], .int .i64 x] (([] : Own) ++ F) fun d G => d = .int .i64 (cmpI a x) ∧ G = [] ++ F := by
  intro hA
  refine DC.bodyS (n_ := 9) (show Tryz.prog.funcs[79]? = some Tryz.f79 by kernel_rfl) rfl rfl (by rfl) ?_
  simp only [env0, List.cons_append, List.nil_append]
  have kw := ksIs [0, 1, 2, 4]
  have ow := ownIs []
  repeat' (first
    | refine g_ ?_
    | ((with_reducible refine And.intro ?_ ?_); (exact sv))
    | (refine DW.cond (by rfl) ?_ ?_ <;> (first | exact i0_ | (refine ic_ ?_; intro hb)))
    | ((with_reducible refine FVg_cases ?_ ?_) <;> (intro hb; rw [hb]; revert hb; (first | exact i0_ | (refine i_ ?_; intro hb))))
    | refine r_ ?_
    | refine k_ ?_
    | (refine q_ (cmpi_dc _ _ _) ?_)
    | refine o_ ?_
    | refine f_ ?_
    | with_reducible intro b)
  (first | exact fin_ | refine finq_ ?_)
  all_goals rfl
section
attribute [local push_cast 2000] encFence encFence_eta half_eq cells_encf cells_encFence
theorem bsf0_dc (l : List TFence) (v : Value) (n : Nat) (nd : Int) (F : Own) : (n = l.length ∧ FR l ∧ l.length ≤ 1000000000) → DC Tryz.prog 78 [.ar v n, .int .i64 nd, .fn (.func 79) [] []] ([.arr 2 v (cells (l.map encFence))] ++ F) fun d G => d = .tup [.int .i64 (placeF l nd), .bool (foundF l nd)] ∧ G = [.arr 2 v (cells (l.map encFence))] ++ F := by
  intro hA
  obtain ⟨hn, hr, hl⟩ := hA
  refine DC.bodyS (n_ := 49) (show Tryz.prog.funcs[78]? = some Tryz.f78 by kernel_rfl) rfl rfl (by rfl) ?_
  simp only [env0, List.cons_append, List.nil_append]
  have kw := ksIs [0, 1, 2, 6, 7, 8, 9, 10, 11, 17, 31]
  have ow := ownIs []
  subst hn
  repeat' (first
    | ((with_reducible refine DW.loopB 0 (X := Nat × Nat) (fun x => x.1 ≤ x.2 ∧ x.2 ≤ l.length ∧ (x.1 = 0 ∨ (l.getD (x.1 - 1) default).node < nd) ∧ (x.2 = l.length ∨ ¬ (l.getD x.2 default).node < nd)) (fun x => [(0, .ar v l.length), (1, .int .i64 nd), (2, .fn (.func 79) [] []), (8, .int .i64 l.length), (9, .int .i64 x.1), (10, .int .i64 x.2)]) (fun x => .arr 2 v (cells (l.map encFence)) :: ([] : Own)) (fun x => x.2 - x.1) ((0, l.length)) ?_ ?_ ?_); exact (⟨Nat.zero_le _, Nat.le_refl _, .inl rfl, .inl rfl⟩); (simp [Sub, get, keepL] <;> fail); (try simp only [List.cons_append, List.nil_append]); refine pl_ ?_; intro ⟨i, j⟩ ⟨hij, hj, h1, h2⟩; (try simp only [List.cons_append, List.nil_append]); simp only at hij hj h1 h2)
    | refine g_ ?_
    | ((with_reducible refine And.intro ?_ ?_); (exact sv))
    | (refine DW.cond (by rfl) ?_ ?_ <;> (first | exact i0_ | (refine ic_ ?_; intro hb)))
    | ((with_reducible refine FVg_cases ?_ ?_) <;> (intro hb; rw [hb]; revert hb; (first | exact i0_ | (refine i_ ?_; intro hb))))
    | refine r_ ?_
    | refine k_ ?_
    | (refine q_ (fc1_dc _ _ _ _) ?_)
    | refine o_ ?_
    | refine f_ ?_
    | with_reducible intro b)
  all_goals first
  | (refine ⟨((i + j) / 2 + 1, j), ⟨by simp only; omega, by simp only; omega, .inr (by simpa using (cmpI_lt _ _).1 (by assumption)), h2⟩, by simp only; omega, by simp [Sub, get], ?_⟩; (exact sub_); done)
  | (refine ⟨(i, (i + j) / 2), ⟨by simp only; omega, by simp only; omega, h1, .inr ((cmpI_nlt _ _).1 (by assumption))⟩, by simp only; omega, by simp [Sub, get], ?_⟩; (exact sub_); done)
  | (obtain rfl : j = i := by omega
     have hp := bsF (n := nd) hr hj h1 h2
     have hf : foundF l nd = (cmpI (l.getD j default).node nd == 0) := by rw [foundF, hp, decide_eq_true (by omega), Bool.true_and]
     rw [hp, hf]; (first | exact fin_ | refine finq_ ?_); done)
  | (obtain rfl : j = i := by omega
     have hp := bsF (n := nd) hr hj h1 h2
     have hf : foundF l nd = false := by rw [foundF, hp, decide_eq_false (by omega), Bool.false_and]
     rw [hp, hf]; (first | exact fin_ | refine finq_ ?_); done)
end
theorem bsf_dc (l : List TFence) (v : Value) (n : Nat) (x : Int) (F : Own) : (n = l.length ∧ FR l ∧ l.length ≤ 1000000000) → DC Tryz.prog 78 [.ar v n, .int .i64 x, .fn (.func 79) [] []] ([.arr 2 v (cells (l.map encFence))] ++ F) fun d G => (foundF l x = true ∧ placeF l x < l.length ∧ d = .tup [.int .i64 (placeF l x), .bool true] ∨ foundF l x = false ∧ d = .tup [.int .i64 (placeF l x), .bool false]) ∧ G = [.arr 2 v (cells (l.map encFence))] ++ F := fun h =>
  (bsf0_dc l v n x F h).mono fun d G ⟨h1, h2⟩ => ⟨by
    cases hf : foundF l x with
    | true => rw [hf] at h1; exact .inl ⟨rfl, foundF_lt hf, h1⟩
    | false => rw [hf] at h1; exact .inr ⟨rfl, h1⟩, h2⟩
section
attribute [local push_cast 2000] encRoute encRoute_eta cells_encr cells_encRoute
theorem idxrE_dc (l : List TRoute) (g : FuncId) (v : Value) (n : Nat) (c1 : V) (b0 : Nat) (cs0 : List V) (p : TRoute → Bool) (F : Own) : ((∀ (a b c : Int) (fl : Str) (F : Own), True → DC Tryz.prog g [.agg [.int .i64 a, .int .i64 b, .int .i64 c, .str fl], c1] ([.blk b0 cs0] ++ F) fun d G => d = .bool (p ⟨⟨a, b, c⟩, fl⟩) ∧ G = [.blk b0 cs0] ++ F) ∧ n = l.length ∧ l.length ≤ 1000000000) → DC Tryz.prog 139 [.ar v n, .fn (.func g) [] [c1]] ([.arr 4 v (cells (l.map encRoute)), .blk b0 cs0] ++ F) fun d G => ((∀ q, q < l.length → p (l.getD q default) = false) ∧ d = .int .i64 (-1) ∨ ∃ k : Nat, (k < l.length ∧ p (l.getD k default) = true ∧ ∀ q, q < k → p (l.getD q default) = false) ∧ d = .int .i64 k) ∧ G = [.arr 4 v (cells (l.map encRoute)), .blk b0 cs0] ++ F := by
  intro hA
  obtain ⟨hcl, hn, hl⟩ := hA
  refine DC.bodyS (n_ := 19) (show Tryz.prog.funcs[139]? = some Tryz.f139 by kernel_rfl) rfl rfl (by rfl) ?_
  simp only [env0, List.cons_append, List.nil_append]
  have kw := ksIs [0, 1, 4, 5, 7, 8, 9, 16]
  have ow := ownIs []
  subst hn
  repeat' (first
    | ((with_reducible refine DW.loopB 0 (X := Nat) (fun x => x ≤ l.length ∧ ∀ q, q < x → p (l.getD q default) = false) (fun x => [(0, .ar v l.length), (1, .fn (.func g) [] [c1]), (7, .int .i64 l.length), (8, .int .i64 x)]) (fun x => .arr 4 v (cells (l.map encRoute)) :: .blk b0 cs0 :: ([] : Own)) (fun x => l.length - x) (0) ?_ ?_ ?_); exact (⟨Nat.zero_le _, fun q h => absurd h (Nat.not_lt_zero _)⟩); (simp [Sub, get, keepL] <;> fail); (try simp only [List.cons_append, List.nil_append]); refine pl_ ?_; intro k ⟨hk, ha⟩; (try simp only [List.cons_append, List.nil_append]))
    | refine g_ ?_
    | ((with_reducible refine And.intro ?_ ?_); (exact sv))
    | (refine DW.cond (by rfl) ?_ ?_ <;> (first | exact i0_ | (refine ic_ ?_; intro hb)))
    | ((with_reducible refine FVg_cases ?_ ?_) <;> (intro hb; rw [hb]; revert hb; (first | exact i0_ | (refine i_ ?_; intro hb))))
    | refine r_ ?_
    | refine k_ ?_
    | (refine q_ (hcl _ _ _ _ _) ?_)
    | refine o_ ?_
    | refine f_ ?_
    | with_reducible intro b)
  all_goals first
  | (refine ⟨_, _, le.rfl_, ⟨.inr ⟨k, ⟨by omega, hb, ha⟩, rfl⟩, rfl⟩, ?_⟩; (exact sub_); done)
  | (refine ⟨k + 1, ⟨by omega, fun q hq => ?_⟩, by omega, by simp [Sub, get], ?_⟩; (by_cases hqk : q = k; (subst hqk; exact hb); exact ha q (by omega)); (exact sub_); done)
  | (refine ⟨_, _, le.rfl_, ⟨.inl ⟨fun q hq => ha q (by omega), rfl⟩, rfl⟩, ?_⟩; (exact sub_); done)
end
theorem sv_delE_dc {p : Prop} (h : p := by first | exact sv | exact ⟨hcl, rfl, hl⟩ | fail) : p := h
section
attribute [local push_cast 2000] encRoute encRoute_eta cells_encr cells_encRoute lay_setr Nat.sub_zero
theorem delE_dc (l : List TRoute) (g : FuncId) (v : Value) (n : Nat) (c1 : V) (b0 : Nat) (cs0 : List V) (p : TRoute → Bool) (F : Own) : ((∀ (a b c : Int) (fl : Str) (F : Own), True → DC Tryz.prog g [.agg [.int .i64 a, .int .i64 b, .int .i64 c, .str fl], c1] ([.blk b0 cs0] ++ F) fun d G => d = .bool (p ⟨⟨a, b, c⟩, fl⟩) ∧ G = [.blk b0 cs0] ++ F) ∧ n = l.length ∧ l.length ≤ 1000000000) → DC Tryz.prog 72 [.ar v n, .fn (.func g) [] [c1]] ([.arr 4 v (cells (l.map encRoute)), .blk b0 cs0] ++ F) fun d G => ∃ v2, d = .ar v2 (l.filter (fun x => !p x)).length ∧ G = .arr 4 v2 (cells ((l.filter (fun x => !p x)).map encRoute)) :: .blk b0 cs0 :: F := by
  intro hA
  obtain ⟨hcl, hn, hl⟩ := hA
  refine DC.bodyS (n_ := 42) (show Tryz.prog.funcs[72]? = some Tryz.f72 by kernel_rfl) rfl rfl (by rfl) ?_
  simp only [env0, List.cons_append, List.nil_append]
  have kw := ksIs [0, 1, 4, 5, 6, 7, 12, 19, 29]
  have ow := ownIs []
  subst hn
  repeat' (first
    | ((with_reducible apply DW.preX 4); (focus (exact rfl)); (repeat (with_reducible first | refine OnA.here ?_ | refine OnA.next ?_)); refine ⟨⟨rfl, le_lay (by rw [cells_encr]; omega)⟩, fun v2 => ?_⟩; simp only [put_cons, put_nil, Nat.reduceEqDiff, ↓reduceIte, if_true, if_false, reduceCtorEq])
    | (have hst := DI_.start hk; ((with_reducible refine DW.loopB 0 (X := Nat × List TRoute) (fun x => DI_ p l x.1 x.2) (fun x => [(0, .ar v l.length), (1, .fn (.func g) [] [c1]), (5, .int .i64 (cnt p l x.1)), (6, .int .i64 x.1)]) (fun x => .arr 4 v (cells (x.2.map encRoute)) :: .blk b0 cs0 :: ([] : Own)) (fun x => l.length - x.1) ((k + 1, l)) ?_ ?_ ?_); exact (hst.2); (simp [Sub, get, keepL, hst.1] <;> fail); (try simp only [List.cons_append, List.nil_append]); refine pl_ ?_; intro ⟨j, m⟩ hI; (try simp only [List.cons_append, List.nil_append]); simp only at hI; have hjl := hI.jle; have hml := hI.len; have hcl2 := hI.lt))
    | refine g_ ?_
    | ((with_reducible refine And.intro ?_ ?_); (exact sv_delE_dc))
    | (refine DW.cond (by rfl) ?_ ?_ <;> (first | exact i0_ | (refine ic_ ?_; intro hb)))
    | ((with_reducible refine FVg_cases ?_ ?_) <;> (intro hb; rw [hb]; revert hb; (first | exact i0_ | (refine i_ ?_; intro hb))))
    | refine k_ ?_
    | ((with_reducible refine DW.regK [0, 1, 4, 5, 6, 7, 12, 19, 29] (by kernel_rfl) ?_) <;> (refine s_ ?_))
    | ((first | ((with_reducible refine SeqD.op rfl ?_); (first | (refine DOp.slicea_ rfl rfl ?_) | (refine DOp.capa_ rfl rfl ?_) | (refine DOp.lensub_ rfl rfl ?_) | (refine DOp.copyaa2_ rfl rfl rfl ?_; (repeat (with_reducible first | refine OnA.here ?_ | refine OnA.next ?_)); (repeat (with_reducible first | refine OnA.here ?_ | refine OnA.next ?_))) | (refine DOp.copyas2_ rfl rfl rfl ?_; (repeat (with_reducible first | refine OnA.here ?_ | refine OnA.next ?_))) | (refine DOp.cleara2_ rfl rfl ?_; (repeat (with_reducible first | refine OnA.here ?_ | refine OnA.next ?_))) | (refine DOp.appsubz_ rfl rfl rfl ?_; (repeat (with_reducible first | refine OnA.here ?_ | refine OnA.next ?_))) | (refine DOp.appsub_ rfl rfl rfl ?_; (repeat (with_reducible first | refine OnA.here ?_ | refine OnA.next ?_))) | (refine p_ (idxrE_dc _ _ _ _ _ _ _ _ _) ?_ (ha := by exact sv_delE_dc); rintro d H1 ⟨⟨hnn, rfl⟩ | ⟨k, hk, rfl⟩, rfl⟩ <;> refine s_ ?_) | (refine q_ (hcl _ _ _ _ _) ?_ (ha := by exact sv_delE_dc)) | (refine on_ ?_))) | (refine SeqD.opP rfl ?_) | (refine DOp.slicea_ rfl rfl ?_) | (refine DOp.capa_ rfl rfl ?_) | (refine DOp.lensub_ rfl rfl ?_) | (refine DOp.copyaa2_ rfl rfl rfl ?_; (repeat (with_reducible first | refine OnA.here ?_ | refine OnA.next ?_)); (repeat (with_reducible first | refine OnA.here ?_ | refine OnA.next ?_))) | (refine DOp.copyas2_ rfl rfl rfl ?_; (repeat (with_reducible first | refine OnA.here ?_ | refine OnA.next ?_))) | (refine DOp.cleara2_ rfl rfl ?_; (repeat (with_reducible first | refine OnA.here ?_ | refine OnA.next ?_))) | (refine DOp.appsubz_ rfl rfl rfl ?_; (repeat (with_reducible first | refine OnA.here ?_ | refine OnA.next ?_))) | (refine DOp.appsub_ rfl rfl rfl ?_; (repeat (with_reducible first | refine OnA.here ?_ | refine OnA.next ?_)))) <;> (refine s_ ?_))
    | (refine p_ (idxrE_dc _ _ _ _ _ _ _ _ _) ?_ (ha := by exact sv_delE_dc); rintro d H1 ⟨⟨hnn, rfl⟩ | ⟨k, hk, rfl⟩, rfl⟩ <;> refine s_ ?_)
    | (refine q_ (hcl _ _ _ _ _) ?_ (ha := by exact sv_delE_dc))
    | refine o_ ?_
    | refine f_ ?_
    | with_reducible intro b)
  all_goals first
  | (rw [flt_all hnn]; refine ⟨_, _, le.rfl_, ⟨_, rfl, rfl⟩, ?_⟩; (exact sub_); done)
  | (have hj : j < l.length := by omega
     have e := cnt_keep (p := p) (l := l) (j := j) hj (by rw [← hI.at_ hj]; exact hb)
     refine ⟨(j + 1, m.set (cnt p l j) (m.getD j default)), hI.keep hj hb, by simp only; omega, by simp [Sub, get, e], ?_⟩; (exact sub_); done)
  | (have hj : j < l.length := by omega
     have e := cnt_drop (p := p) (l := l) (j := j) hj (by rw [← hI.at_ hj]; exact hb)
     refine ⟨(j + 1, m), hI.drop hj hb, by simp only; omega, by simp [Sub, get, e], ?_⟩; (exact sub_); done)
  | (obtain ⟨e1, e2⟩ := hI.fin (by omega)
     have e3 := cells_tk (enc := encRoute) (s := 4) (fun _ => rfl) m (cnt p l j)
     rw [e1] at e3
     rw [e3, ← take_lay (d := ((List.replicate (l.length - cnt p l j) [V.int .i64 0, V.int .i64 0, V.int .i64 0, V.str []]).flatten)) (by rw [cells_encr]; omega), ← e2]
     refine ⟨_, _, le.rfl_, ⟨_, rfl, rfl⟩, ?_⟩; (exact sub_); done)
end
theorem fc2_dc (se : List TDot) (fe : List TFence) (ce : List TCell) (v1 v2 v3 v4 : Value) (n3 b0 : Nat) (a b c : Int) (fl : Str) (F : Own) : (fe.length ≤ 1000000000) → DC Tryz.prog 82 [.agg [.int .i64 a, .int .i64 b, .int .i64 c, .str fl], .raw (.pointer (some ⟨b0, 0, none⟩))] ([.blk b0 [.gs v1 (se.map encDot), .gs v2 (fe.map encFence), .ar v3 n3, .gs v4 (ce.map encCell)]] ++ F) fun d G => d = .bool (fencedL fe a b) ∧ G = [.blk b0 [.gs v1 (se.map encDot), .gs v2 (fe.map encFence), .ar v3 n3, .gs v4 (ce.map encCell)]] ++ F := by
  intro hA
  have hf := hA
  refine DC.bodyS (n_ := 12) (show Tryz.prog.funcs[82]? = some Tryz.f82 by kernel_rfl) rfl rfl (by rfl) ?_
  simp only [env0, List.cons_append, List.nil_append]
  have kw := ksIs [0, 1, 2, 3]
  have ow := ownIs []
  repeat' (first
    | refine g_ ?_
    | ((with_reducible refine And.intro ?_ ?_); (exact sv))
    | (refine DW.cond (by rfl) ?_ ?_ <;> (first | exact i0_ | (refine ic_ ?_; intro hb)))
    | ((with_reducible refine FVg_cases ?_ ?_) <;> (intro hb; rw [hb]; revert hb; (first | exact i0_ | (refine i_ ?_; intro hb))))
    | refine r_ ?_
    | refine k_ ?_
    | (refine q_ (pfencedv_dc _ _ _ _ _ _ _ _ _ _) ?_)
    | refine o_ ?_
    | refine f_ ?_
    | with_reducible intro b)
  (first | exact fin_ | refine finq_ ?_)
  all_goals rfl
end Go.Proofs.YtfamfamgopchnaaGreatDoor
/- A fence. -/
namespace Go.Proofs.YtfamfamgopchnaaGreatDoor
open Go.RowKit
set_option linter.unusedSimpArgs false
set_option linter.unusedVariables false
set_option linter.unusedSectionVars false
set_option maxHeartbeats 4000000
set_option maxRecDepth 100000


theorem cells_fe {l : List TFence} {k : Nat} (h : k < l.length) : (cells (l.map encFence)).getD (k * 2 + 1) V.any = .int .i64 (l.getD k default).epoch := by
  rw [cells_at (sz := 2) _ k 1 (fun y hy => by obtain ⟨x, _, rfl⟩ := List.mem_map.1 hy; rfl) (by simpa using h) (by decide)]
  simp [List.getD_eq_getElem?_getD, h, encFence, V.cell]
theorem cells_setf : ∀ (l : List TFence) (k : Nat) (n : Int), k < l.length → layV (cells (l.map encFence)) (k * 2 + 1) [.int .i64 n] = cells ((l.set k ⟨(l.getD k default).node, n⟩).map encFence)
  | [], k, n, h => absurd h (Nat.not_lt_zero _)
  | d :: l, 0, n, _ => rfl
  | d :: l, k + 1, n, h => by
    have := cells_setf l k n (by simpa using h)
    rw [List.getD_cons_succ, List.set_cons_succ, List.map_cons, List.map_cons, cells_cons, cells_cons, ← this]
    have e : (k + 1) * 2 + 1 = (encFence d).cs.length + (k * 2 + 1) := by show _ = 2 + _; omega
    rw [e, lay_app]
theorem fenceP_1 {l : List TFence} {n e : Int} (h : foundF l n = true) : fenceP l n e = l.set (placeF l n) ⟨(l.getD (placeF l n) default).node, max (l.getD (placeF l n) default).epoch e⟩ := by rw [fenceP, if_pos h]
theorem fenceP_2 {l : List TFence} {n e : Int} (h : foundF l n = false) : fenceP l n e = l.take (placeF l n) ++ ⟨n, e⟩ :: l.drop (placeF l n) := by rw [fenceP, if_neg (by rw [h]; simp)]
theorem fenceP_len (l : List TFence) (n e : Int) : (fenceP l n e).length ≤ l.length + 1 := by
  unfold fenceP; split
  · simp
  · simp; omega
theorem delF_dc (se : List TDot) (fe : List TFence) (ce : List TCell) (v1 v2 v3 v4 : Value) (n3 b0 : Nat) (l : List TRoute) (v : Value) (n : Nat) (F : Own) : (fe.length ≤ 1000000000 ∧ n = l.length ∧ l.length ≤ 1000000000) → DC Tryz.prog 72 [.ar v n, .fn (.func 82) [] [.raw (.pointer (some ⟨b0, 0, none⟩))]] ([.arr 4 v (cells (l.map encRoute)), .blk b0 [.gs v1 (se.map encDot), .gs v2 (fe.map encFence), .ar v3 n3, .gs v4 (ce.map encCell)]] ++ F) fun d G => ∃ v5, d = .ar v5 (unfR fe l).length ∧ G = .arr 4 v5 (cells ((unfR fe l).map encRoute)) :: .blk b0 [.gs v1 (se.map encDot), .gs v2 (fe.map encFence), .ar v3 n3, .gs v4 (ce.map encCell)] :: F := fun h =>
  delE_dc l 82 v n _ b0 _ (fun r => fencedL fe r.dot.node r.dot.epoch) F ⟨fun a b c fl F _ => fc2_dc se fe ce v1 v2 v3 v4 n3 b0 a b c fl F h.1, h.2.1, h.2.2⟩
attribute [local irreducible] DW SeqD DV DOp DC DVX DVJ
theorem ppair_dc (node epoch : Int) (F : Own) : (True) → DC Tryz.prog 69 [.int .i64 node, .int .i64 epoch] (([] : Own) ++ F) fun d G => d = .bool (pairB node epoch) ∧ G = [] ++ F := by
  intro hA
  refine DC.bodyS (n_ := 15) (show Tryz.prog.funcs[69]? = some Tryz.f69 by kernel_rfl) rfl rfl (by rfl) ?_
  simp only [env0, List.cons_append, List.nil_append]
  have kw := ksIs [0, 1, 4]
  have ow := ownIs []
  repeat' (first
    | refine g_ ?_
    | ((with_reducible refine And.intro ?_ ?_); (exact sv))
    | (refine DW.cond (by rfl) ?_ ?_ <;> (first | exact i0_ | (refine ic_ ?_; intro hb)))
    | ((with_reducible refine FVg_cases ?_ ?_) <;> (intro hb; rw [hb]; revert hb; (first | exact i0_ | (refine i_ ?_; intro hb))))
    | refine r_ ?_
    | refine k_ ?_
    | refine o_ ?_
    | refine f_ ?_
    | with_reducible intro b)
  all_goals
    refine ⟨_, _, le.of_eq ?_, ⟨rfl, rfl⟩, SubP.refl⟩
    unfold pairB
    simp_all <;> omega
theorem sv_pfence_dc {p : Prop} (h : p := by first | exact sv | exact hL | exact ⟨rfl, hfr, by omega⟩ | exact ⟨rfl, placeF_le _ _, by omega⟩ | exact ⟨by simp only [List.length_set, List.length_append, List.length_cons, List.length_take, List.length_drop]; omega, rfl, hr⟩ | fail) : p := h
section
attribute [local push_cast 2000] encFence encFence_eta cells_encf cells_encFence cells_fe cells_setf
theorem pfence_dc (se : List TDot) (fe : List TFence) (ro : List TRoute) (ce : List TCell) (node epoch : Int) (F : Own) : ((se.length ≤ 1000000000 ∧ fe.length ≤ 1000000000 ∧ ro.length ≤ 1000000000 ∧ ce.length ≤ 1000000000 ∧ ∀ k, k < ce.length → (ce.getD k default).payload.length ≤ 1000000000) ∧ FR fe ∧ fe.length ≤ 1000000) → DC Tryz.prog 25 [.agg [.sl (se.map encDot), .sl (fe.map encFence), .sl (ro.map encRoute), .sl (ce.map encCell)], .int .i64 node, .int .i64 epoch] (([] : Own) ++ F) fun d G => (pairB node epoch = false ∧ d = .agg [.sl ((se).map encDot), .sl ((fe).map encFence), .sl ((ro).map encRoute), .sl ((ce).map encCell)] ∨ pairB node epoch = true ∧ d = .agg [.sl ((se).map encDot), .sl ((fenceP fe node epoch).map encFence), .sl ((unfR (fenceP fe node epoch) ro).map encRoute), .sl ((ce).map encCell)]) ∧ G = [] ++ F := by
  intro hA
  obtain ⟨hL, hfr, hf⟩ := hA
  refine DC.bodyS (n_ := 52) (show Tryz.prog.funcs[25]? = some Tryz.f25 by kernel_rfl) rfl rfl (by rfl) ?_
  simp only [env0, List.cons_append, List.nil_append]
  have kw := ksIs [0, 1, 2, 3, 6, 7, 8, 14, 23]
  have ow := ownIs [3, 43]
  have dw6 := drIs 6 [13] [1, 4, 8]
  have rw_ := rsIs [.cell 6 35]
  have hr := hL.2.2.1
  repeat' (first
    | ((with_reducible apply DW.frzRO); (repeat (with_reducible first | apply OnA.here | apply OnA.next)); refine ⟨rfl, by decide, (by intro y hy; obtain ⟨x, _, rfl⟩ := List.mem_map.1 hy; rfl), ?_, ?_, ?_⟩; (focus (repeat (first | exact CvE.nil | apply CvE.cons (Cv.hit _) | apply CvE.cons (Cv.rfl _)))); (focus ((repeat (first | apply CvO.blk _ (by repeat (first | exact CvL.nil | apply CvL.cons (Cv.hit _) | apply CvL.cons (Cv.rfl _))) | apply CvO.keep | exact CvO.rfl_ _ _ _)))))
    | ((with_reducible apply DW.frzO2 8 v1); (repeat (with_reducible first | refine OnA.here ?_ | refine OnA.next ?_)); refine ⟨rfl, by decide, (by intro y hy; obtain ⟨x, _, rfl⟩ := List.mem_map.1 hy; rfl), ?_, ?_, ?_⟩; (focus (repeat (first | exact CvE.nil | apply CvE.cons (Cv.hit _) | apply CvE.cons (Cv.rfl _)))); (focus ((repeat (first | apply CvO.blk _ (by repeat (first | exact CvL.nil | apply CvL.cons (Cv.hit _) | apply CvL.cons (Cv.rfl _))) | apply CvO.keep | exact CvO.rfl_ _ _ _)))))
    | ((with_reducible apply DW.frzO2 8 v4); (repeat (with_reducible first | refine OnA.here ?_ | refine OnA.next ?_)); refine ⟨rfl, by decide, (by intro y hy; obtain ⟨x, _, rfl⟩ := List.mem_map.1 hy; rfl), ?_, ?_, ?_⟩; (focus (repeat (first | exact CvE.nil | apply CvE.cons (Cv.hit _) | apply CvE.cons (Cv.rfl _)))); (focus ((repeat (first | apply CvO.blk _ (by repeat (first | exact CvL.nil | apply CvL.cons (Cv.hit _) | apply CvL.cons (Cv.rfl _))) | apply CvO.keep | exact CvO.rfl_ _ _ _)))))
    | ((with_reducible apply DW.frzO2 8 v2); (repeat (with_reducible first | refine OnA.here ?_ | refine OnA.next ?_)); refine ⟨rfl, by decide, (by intro y hy; obtain ⟨x, _, rfl⟩ := List.mem_map.1 hy; rfl), ?_, ?_, ?_⟩; (focus (repeat (first | exact CvE.nil | apply CvE.cons (Cv.hit _) | apply CvE.cons (Cv.rfl _)))); (focus ((repeat (first | apply CvO.blk _ (by repeat (first | exact CvL.nil | apply CvL.cons (Cv.hit _) | apply CvL.cons (Cv.rfl _))) | apply CvO.keep | exact CvO.rfl_ _ _ _)))))
    | ((with_reducible apply DW.frzO2 8 v5); (repeat (with_reducible first | refine OnA.here ?_ | refine OnA.next ?_)); refine ⟨rfl, by decide, (by intro y hy; obtain ⟨x, _, rfl⟩ := List.mem_map.1 hy; rfl), ?_, ?_, ?_⟩; (focus (repeat (first | exact CvE.nil | apply CvE.cons (Cv.hit _) | apply CvE.cons (Cv.rfl _)))); (focus ((repeat (first | apply CvO.blk _ (by repeat (first | exact CvL.nil | apply CvL.cons (Cv.hit _) | apply CvL.cons (Cv.rfl _))) | apply CvO.keep | exact CvO.rfl_ _ _ _)))))
    | refine g_ ?_
    | ((with_reducible refine And.intro ?_ ?_); (exact sv_pfence_dc))
    | (refine DW.cond (by rfl) ?_ ?_ <;> (first | exact i0_ | (refine ic_ ?_; intro hb)))
    | ((with_reducible first | refine FVg_cases ?_ ?_ | refine FDg_cases ?_ ?_) <;> (intro hb; rw [hb]; revert hb; (first | exact i0_ | (refine i_ ?_; intro hb))))
    | refine r_ ?_
    | refine d_ ?_
    | refine k_ ?_
    | ((refine dm_ ?_); (first | (refine v_ (ppair_dc _ _ _) ?_ (ha := by exact sv_pfence_dc))))
    | refine vo_ ?_
    | ((first | (refine DOp.lista_ [43] rfl rfl ?_) | (refine DOp.makea_ [43] rfl rfl rfl rfl ?_)) <;> (refine s_ ?_))
    | (refine p_ (copy_dc _ _ _ _ _) ?_ (ha := by exact sv_pfence_dc); rintro d H1 ⟨v1, v2, v3, v4, rfl, rfl⟩ <;> refine s_ ?_)
    | (refine q_ (ppair_dc _ _ _) ?_ (ha := by exact sv_pfence_dc))
    | (refine p_ (bsf_dc _ _ _ _ _) ?_ (ha := by exact sv_pfence_dc); rintro d H1 ⟨⟨hff, hpl, rfl⟩ | ⟨hff, rfl⟩, rfl⟩ <;> refine s_ ?_)
    | (refine p_ (insf_dc _ _ _ _ _ _ _ _) ?_ (ha := by exact sv_pfence_dc); rintro d H1 ⟨v5, rfl, rfl⟩ <;> refine s_ ?_)
    | (refine p_ (delF_dc _ _ _ _ _ _ _ _ _ _ _ _ _) ?_ (ha := by exact sv_pfence_dc); rintro d H1 ⟨v6, rfl, rfl⟩ <;> refine s_ ?_)
    | refine o_ ?_
    | refine f_ ?_
    | refine vm_ ?_
    | ((fail_if_success (have zz := b1)); with_reducible intro b1)
    | ((fail_if_success (have zz := b2)); with_reducible intro b2)
    | with_reducible intro b)
  all_goals first
  | (have e := fenceP_1 (e := epoch) hff
     rw [e, hb]; (refine ⟨_, _, ?_, ⟨.inr ⟨rfl, rfl⟩, rfl⟩, ?_⟩; rotate_left; (exact sub_); refine le.agg ?_; (repeat (first | exact Les.nil | refine Les.cons le.rfl_ ?_ | refine Les.cons (le.gs rfl) ?_ | refine Les.cons (le.gs List.map_nil.symm) ?_ | refine Les.cons (le.agg ?_) ?_)); done))
  | (have e := fenceP_2 (e := epoch) hff
     rw [e, hb]; (refine ⟨_, _, ?_, ⟨.inr ⟨rfl, rfl⟩, rfl⟩, ?_⟩; rotate_left; (exact sub_); refine le.agg ?_; (repeat (first | exact Les.nil | refine Les.cons le.rfl_ ?_ | refine Les.cons (le.gs rfl) ?_ | refine Les.cons (le.gs List.map_nil.symm) ?_ | refine Les.cons (le.agg ?_) ?_)); done))
  | (rw [hb]; (refine ⟨_, _, ?_, ⟨.inl ⟨rfl, rfl⟩, rfl⟩, ?_⟩; rotate_left; (exact sub_); refine le.agg ?_; (repeat (first | exact Les.nil | refine Les.cons le.rfl_ ?_ | refine Les.cons (le.gs rfl) ?_ | refine Les.cons (le.gs List.map_nil.symm) ?_ | refine Les.cons (le.agg ?_) ?_)); done))
end
end Go.Proofs.YtfamfamgopchnaaGreatDoor
