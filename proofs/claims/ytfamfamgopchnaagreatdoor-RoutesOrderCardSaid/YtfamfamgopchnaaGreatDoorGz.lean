/- Appends of zeros; two rows that are owned do not overlap. No statement of the program. -/
import Derived.Test.YtfamfamgopchnaaGreatDoorFz
import Derived.Test.YtfamfamgopchnaaGreatDoorSo
import Derived.Lib.Overlaps
namespace Go.Proofs.YtfamfamgopchnaaGreatDoor
open Go.RowKit
set_option linter.unusedSimpArgs false
set_option linter.unusedVariables false
set_option linter.unusedSectionVars false
section
variable {P : Program} {o : Oper} {f : Operand → V} {H : Own} {K : V → Own → Prop}
/-- What is asked of an append of so many zeros. -/
def AppZ (P : Program) (sT xT : TypeId) (n : Nat) (m : Int) : Prop := (ty P sT).kind = 4 ∧ (ty P (ty P sT).elem).kind ≠ 0 ∧ (ty P (ty P sT).elem).kind ≠ 11 ∧ (ty P xT).ik = some .i64 ∧ 0 < (ty P (ty P sT).elem).size ∧
    (ty P (ty P sT).elem).zero.length = (ty P (ty P sT).elem).size ∧ (n + m.toNat) * (ty P (ty P sT).elem).bytes ≤ 140737488355328 ∧ n + m.toNat ≤ 4611686018427387904
/-- An append of so many zeros to a part that has no room: a new row; what the zeros are is not told. -/
theorem DOp.appsubz_ {s x : Operand} {sT xT : TypeId} {v : Value} {sz lo n : Nat} {kk : IntKind} {m : Int} (hop : o.op = .call { callee := .builtin .append, args := #[s, x], argTypes := #[sT, xT] }) (hfs : f s = .sub sz v lo n) (hfx : f x = .int kk m)
    (h : OnA H v fun z cs _ => (z = sz ∧ sz = (ty P (ty P sT).elem).size ∧ lo * sz + n * sz ≤ cs.length ∧ AppZ P sT xT n m ∧ 0 < m ∧ (capI v : Int) < lo + n + m) ∧ ∀ v', K (.ar v' (n + m.toNat)) (.arr sz v' ((cs.drop (lo * sz)).take (n * sz) ++ List.replicate (m.toNat * sz) .any) :: H)) : DOp P o f H K := by
  obtain ⟨z, cs, L1, L2, rfl, ⟨hzz, hsz, hf, hA, hm0, hcp⟩, hk⟩ := h
  have hzz := hzz.symm
  subst hzz
  generalize hE : (ty P sT).elem = E at *
  refine DOp.step fun a w hs hr => ?_
  have hvs := hr s (by simp [hop, Op.operands, Call.operands])
  rw [hfs] at hvs
  generalize hvv : a.eval s = u at hvs
  cases hvs with
  | sub sz A N cap lo n hc ha =>
  obtain ⟨hA0, hA1, hA2, hA3, hA6, hA7, hA8, hA9⟩ := hA
  rw [hE] at hA1 hA2 hA6 hA7 hA8
  rw [← hsz] at hA6 hA7
  obtain ⟨mm, rfl⟩ : ∃ mm : Nat, m = mm := ⟨m.toNat, by omega⟩
  have hcp : (cap : Int) < lo + n + mm := hcp
  have hcp : cap - lo < n + mm := by omega
  simp only [Int.toNat_natCast] at hA8 hA9 hk
  have hxv : a.eval x = .int kk mm := by
    have := hr x (by simp [hop, Op.operands, Call.operands])
    rw [hfx] at this
    generalize a.eval x = y at this ⊢
    cases this; rfl
  have hu := und_slice hA0
  rw [hE] at hu
  have hEsz : ∀ w, (sizeOf E).run P w = .ok sz w := fun w => by rw [run_sizeOf hA1 hA2, ← hsz]
  have hdx := und_int (P := P) hA3
  have hfit : ¬ n + mm ≤ cap - lo := by omega
  have hneed : cap - lo < n + mm := by omega
  have hgrow := growslice_fits hneed hA8
  obtain ⟨i, d', hi, _, _, _, hby, hz⟩ := ty_info (t := E) rfl hA1 hA2
  cases hzz : i.zero with
  | none => rw [hzz] at hz; simp [hz] at hA7; omega
  | some z =>
    obtain ⟨zr1, zr2⟩ := zero_rel (P := P) (S := stable w (L1 ++ .arr sz (.slice A N cap) cs :: L2)) (w := w) hi hzz hz
    have hzr : ∀ w, (zeroValue E).run P w = .ok z w := fun w => by simp [zeroValue, typeInfo, program, Sem.run, hi, hzz]
    have hti : ∀ w, (typeInfo E).run P w = .ok i w := fun w => by simp [typeInfo, program, Sem.run, hi]
    have hdr := hs.drew
    obtain ⟨olds, o1, o2, o3⟩ := read_sub (P := P) (n := n) (H := L1 ++ .arr sz (.slice A N cap) cs :: L2) hdr.1 n (Nat.le_refl _) hf
    have hcl : ((cs.drop (lo * sz)).take (n * sz)).length = n * sz := by rw [List.length_take, List.length_drop]; omega
    have hge := grownCap_ge w (n + mm) (cap - lo) E
    generalize hcapn : grownCap w (n + mm) (cap - lo) E = newCap at *
    have hrest := size_zeroCells z.cells (newCap - (n + mm))
    generalize hrs : Builtin.zeroCells z.cells (newCap - (n + mm)) = rest at *
    have hzc : z.cells.size = sz := zr1.trans hA7
    have hnews := size_zeroCells z.cells mm
    generalize hns : Builtin.zeroCells z.cells mm = news' at *
    have hsize : (olds.toArray ++ news' ++ rest).size = newCap * sz := by
      simp only [Array.size_append, List.size_toArray, o2, hnews, hrest, hzc, ← Nat.add_mul]
      congr 1; omega
    have hmul : n * sz + mm * sz ≤ newCap * sz := by rw [← Nat.add_mul]; exact Nat.mul_le_mul_right _ hge
    have hv1 : ∀ j, j < n * sz → (olds.toArray ++ news' ++ rest).getD j undef = olds.getD j undef := fun j hj => by
      simp only [Array.getD_eq_getD_getElem?, List.getD_eq_getElem?_getD]
      rw [Array.append_assoc, Array.getElem?_append_left (by simp; omega)]
      simp
    generalize hA : olds.toArray ++ news' ++ rest = row at *
    have hsw := hs.add (w' := w.drew.alloc (.cells row E)) (e1 := .arr sz (.slice (some ⟨w.heap.size, 0, none⟩) (n + mm) newCap) ((cs.drop (lo * sz)).take (n * sz) ++ List.replicate (mm * sz) .any)) rfl rfl rfl (by simp) (fun b hb => Below.heap_alloc w.drew _ b hb)
      (fun b h => Nat.le_of_eq h.1.symm) (fun hst => ⟨hge, by rw [List.length_append, hcl, List.length_replicate, Nat.add_mul], fun _ => ⟨rfl, row, E, (0, 0), heap_alloc_new w.drew _, ⟨.inl rfl, fun _ => rfl⟩, by simp only [hsize, Nat.zero_add]; exact Nat.le_refl _, fun k hk => by
        rw [List.length_append, hcl, List.length_replicate] at hk
        simp only [Nat.zero_add]
        by_cases hkc : k < n * sz
        · rw [hv1 k hkc, List.getD_eq_getElem?_getD (l := (cs.drop (lo * sz)).take (n * sz) ++ List.replicate (mm * sz) V.any), List.getElem?_append_left (by omega), ← List.getD_eq_getElem?_getD]
          exact (o3 k hkc).mono hst
        · rw [List.getD_eq_getElem?_getD (l := (cs.drop (lo * sz)).take (n * sz) ++ List.replicate (mm * sz) V.any), List.getElem?_append_right (by omega), hcl, List.getElem?_replicate, if_pos (by omega)]
          exact .any _⟩⟩)
    refine ⟨.slice (some ⟨w.heap.size, 0, none⟩) (n + mm) newCap, w.drew.alloc (.cells row E), .ar _ (n + mm), _, ?_, hsw, .ar _ _ _ hge (fun h => nomatch h), hk _⟩
    unfold execOp
    rw [hop]
    have hg2 : ¬ 281474976710656 < Builtin.nextslicecap (n + mm) (cap - lo) * i.bytes := by rw [← hby]; omega
    have hzd : (zeroValue E).run P w.drew = .ok z w.drew := hzr w.drew
    have htd : (typeInfo E).run P w.drew = .ok i w.drew := hti w.drew
    have hask : (askRoom (newCap * i.bytes)).run P w.drew = .ok () w.drew := by unfold askRoom; split <;> rfl
    unfold grownCap at hcapn
    revert o1 hvv
    generalize (if cap = lo then A else A.map (·.add (lo * sz))) = base
    intro hvv o1
    have hwr : IntKind.i64.wrap (mm : Int) = mm := by rw [IntKind.wrap_i64] <;> omega
    have hneg : ¬ ((mm : Int) < 0) := by omega
    have hb48 : ¬ (281474976710656 < (mm : Int) * (i.bytes : Int)) := by
      rw [← Int.natCast_mul]
      have : mm * i.bytes ≤ (n + mm) * i.bytes := Nat.mul_le_mul_right _ (by omega)
      rw [← hby] at this ⊢
      omega
    have hns0 : ¬ (mm * sz = 0) := Nat.mul_ne_zero (by omega) (by omega)
    have h63 : ¬ (9223372036854775807 < ((n : Int) + (mm : Int))) := by omega
    simp [resolve, invoke, Go.builtin, Builtin.append_, hvv, hxv, run_underlying hu, run_underlying hdx, hEsz, asInt, asIntOf, hwr, hneg, hb48, hns0, h63, hfit, hti, hg2, Question.forced, hcapn, hask, o1, hzd, hns, hrs, newRow]
    rw [← hA, Array.append_assoc]
/-- Two rows that are owned, at two places. -/
inductive InA (sz : Nat) (u : Value) : Own → Prop
  | here {cs : List V} {H : Own} : InA sz u (.arr sz u cs :: H)
  | next {e : Ent} {H : Own} (h : InA sz u H) : InA sz u (e :: H)
inductive Two (sz : Nat) (v u : Value) : Own → Prop
  | here {cs : List V} {H : Own} (h : InA sz u H) : Two sz v u (.arr sz v cs :: H)
  | there {cs : List V} {H : Own} (h : InA sz v H) : Two sz v u (.arr sz u cs :: H)
  | next {e : Ent} {H : Own} (h : Two sz v u H) : Two sz v u (e :: H)
theorem InA.mem {sz : Nat} {u : Value} {H : Own} (h : InA sz u H) : ∃ cs, Ent.arr sz u cs ∈ H := by
  induction h with
  | here => exact ⟨_, List.mem_cons_self ..⟩
  | next _ ih => obtain ⟨cs, h⟩ := ih; exact ⟨cs, List.mem_cons_of_mem _ h⟩
theorem touch_any {sz : Nat} {v : Value} (cs ds : List V) (b : Nat) : Ent.touches (.arr sz v cs) b → Ent.touches (.arr sz v ds) b := by
  unfold Ent.touches
  cases v with
  | slice a n cap => cases a <;> exact fun h => h
  | _ => exact fun h => h
theorem Two.spec {sz : Nat} {v u : Value} {H : Own} (h : Two sz v u H) : (∃ cs, Ent.arr sz v cs ∈ H) ∧ (∃ cs, Ent.arr sz u cs ∈ H) ∧ (H.Pairwise (fun e f => ∀ b, e.touches b → ¬ f.touches b) → ∀ b, (Ent.arr sz v []).touches b → ¬ (Ent.arr sz u []).touches b) := by
  induction h with
  | here h =>
    obtain ⟨cs, h⟩ := h.mem
    refine ⟨⟨_, List.mem_cons_self ..⟩, ⟨cs, List.mem_cons_of_mem _ h⟩, fun hp b h1 h2 => ?_⟩
    exact (List.pairwise_cons.1 hp).1 _ h b (touch_any _ _ b h1) (touch_any _ _ b h2)
  | there h =>
    obtain ⟨cs, h⟩ := h.mem
    refine ⟨⟨cs, List.mem_cons_of_mem _ h⟩, ⟨_, List.mem_cons_self ..⟩, fun hp b h1 h2 => ?_⟩
    exact (List.pairwise_cons.1 hp).1 _ h b (touch_any _ _ b h2) (touch_any _ _ b h1)
  | next _ ih =>
    obtain ⟨⟨c1, h1⟩, ⟨c2, h2⟩, h3⟩ := ih
    exact ⟨⟨c1, List.mem_cons_of_mem _ h1⟩, ⟨c2, List.mem_cons_of_mem _ h2⟩, fun hp => h3 (List.pairwise_cons.1 hp).2⟩
/-- slices.overlaps at two rows that are owned. -/
theorem DOp.over_ {c x y : Operand} {ts : Array TypeId} {k : FuncId} {tS tR : TypeId} {v u : Value} {n sz lo m : Nat} (hop : o.op = .call { callee := .value c, args := #[x, y], argTypes := ts }) (hc : f c = .fn (.func k) [] []) (hx : f x = .ar v n) (hy : f y = .sub sz u lo m)
    (hcl : ∀ args w, (callFunc k args).run P w = ((Extern.SlicesOverlaps.overlaps #[tS, tS] #[tR] args).run P w).andThen fun v w' => .ok (.value v) w')
    (h : ((ty P tS).kind = 4 ∧ (ty P (ty P tS).elem).kind ≠ 0 ∧ (ty P (ty P tS).elem).kind ≠ 11 ∧ (ty P (ty P tS).elem).size = sz ∧ 1 < sz ∧ 0 < n ∧ 0 < m) ∧ Two sz v u H ∧ K (.bool false) H) : DOp P o f H K := by
  obtain ⟨⟨h1, h2, h3, h4, h5, h6, h7⟩, ht, hk⟩ := h
  obtain ⟨⟨c1, m1⟩, ⟨c2, m2⟩, hap⟩ := ht.spec
  refine DOp.step fun a w hs hr => ?_
  have hcv := hr c (by simp [hop, Op.operands, Call.operands])
  have hxv := hr x (by simp [hop, Op.operands, Call.operands])
  have hyv := hr y (by simp [hop, Op.operands, Call.operands])
  rw [hc] at hcv
  rw [hx] at hxv
  rw [hy] at hyv
  have hcv : a.eval c = .func (.func k) #[] #[] := by
    generalize a.eval c = z at hcv
    cases hcv with
    | fn _ ys zs _ _ n1 r1 n2 r2 => rw [zero_of n1, zero_of n2]
  generalize hva : a.eval x = z1 at hxv
  generalize hvb : a.eval y = z2 at hyv
  cases hxv with
  | ar A1 n cap1 hc1 ha1 =>
  cases hyv with
  | sub sz A2 N cap2 lo m hc2 ha2 =>
  have hE : ∀ w, (sizeOf (ty P tS).elem).run P w = .ok sz w := fun w => by rw [run_sizeOf h2 h3, h4]
  have hu := und_slice h1
  have key : (Extern.SlicesOverlaps.overlaps #[tS, tS] #[tR] #[.slice A1 n cap1, .slice (if cap2 = lo then A2 else A2.map (·.add (lo * sz))) m (cap2 - lo)]).run P w = .ok (.bool false) w := by
    obtain ⟨L1, L2, hL⟩ := List.append_of_mem m1
    obtain ⟨M1, M2, hM⟩ := List.append_of_mem m2
    have hcz1 : cap1 ≠ 0 := by omega
    have hcz2 : cap2 ≠ 0 := by omega
    have hlo : ¬ cap2 = lo := by omega
    rw [if_neg hlo]
    cases A1 with
    | none => exact absurd (ha1 rfl) hcz1
    | some p =>
      cases A2 with
      | none => exact absurd (ha2 rfl) hcz2
      | some q0 =>
            obtain ⟨s1, _, _, xs1, T1, fr1, g1, g2, g3, _, g5, _⟩ := arr_of (hL ▸ hs) hcz1
            obtain ⟨s2, _, _, xs2, T2, fr2, k1, k2, k3, _, k5, _⟩ := arr_of (hM ▸ hs) hcz2
            have hne : p.block ≠ q0.block := fun e => hap hs.apart p.block ⟨rfl, hcz1⟩ ⟨e, hcz2⟩
            have hqb : (q0.add (lo * sz)).block = q0.block := by rw [addr_add q0 _ s2]
            rw [Option.map_some]
            have f1 := g2.2 (by omega)
            have hfz : ∀ b, b.block = p.block → w.frozen? b = false := fun b hb => by
              unfold World.frozen?
              rw [hb, g1]
              obtain ⟨x1, x2⟩ := fr1
              simp only at f1 ⊢
              subst f1
              simp only [Bool.and_eq_false_iff, decide_eq_false_iff_not]
              omega
            have hcs : 0 < cap2 * sz := Nat.mul_pos (by omega) (by omega)
            exact Lib.run_overlaps_apart w tS tR (ty P tS).elem hu sz hE p (q0.add (lo * sz)) n cap1 m (cap2 - lo) (by rw [hqb]; exact hne) T1 T2 xs1.size xs2.size (by unfold World.shape?; rw [g1]) (by unfold World.shape?; rw [hqb, k1]) (by omega) (hfz p rfl) (hfz _ rfl)
  refine ⟨.bool false, w, .bool false, H, ?_, ⟨hs, .refl _ _⟩, .bool _, hk⟩
  unfold execOp
  rw [hop]
  have e := hcl #[.slice A1 n cap1, .slice (if cap2 = lo then A2 else A2.map (·.add (lo * sz))) m (cap2 - lo)] w
  rw [key] at e
  simp only [resolve, hcv, Deferred.ofValue, invoke]
  simp [hva, hvb, e]
theorem DOp.slicexd_ {t : TypeId} {x y : Operand} {v : Value} {n : Nat} {k : IntKind} {m : Int} (ext : List Nat) (hd : o.dst.any (fun d => ext.contains d) = true) (hop : o.op = .slice t x none (some y) none) (hx : f x = .ar v n) (hy : f y = .int k m)
    (h : OnA H v fun sz cs C => (((ty P t).kind = 4 ∧ (ty P (ty P t).elem).kind ≠ 0 ∧ (ty P (ty P t).elem).kind ≠ 11) ∧ (n : Int) ≤ m ∧ m ≤ (capI v : Int)) ∧ ∀ v', capI v' = capI v → K (.ar v' m.toNat) (C (.arr sz v' (cs ++ List.replicate ((m.toNat - n) * sz) .any)))) : DOp P o f H K := DOp.slicex_ hop hx hy h
theorem DOp.copyaa2_ {d s : Operand} {T T' : TypeId} {sz lo n lo2 n2 : Nat} {v v2 : Value} (hop : o.op = .call { callee := .builtin .copy, args := #[d, s], argTypes := #[T, T'] }) (hd : f d = .sub sz v lo n) (hs2 : f s = .sub sz v2 lo2 n2)
    (h : OnA H v2 fun z2 cs2 _ => OnA H v fun z cs C => (((ty P T).kind = 4 ∧ (ty P (ty P T).elem).kind ≠ 0 ∧ (ty P (ty P T).elem).kind ≠ 11 ∧ (ty P (ty P T).elem).size = sz) ∧ (z2 = sz ∧ lo2 * sz + min n2 n * sz ≤ cs2.length ∧ ((cs2.drop (lo2 * sz)).take (min n2 n * sz)).all V.one = true) ∧
      (z = sz ∧ lo * sz + min n2 n * sz ≤ cs.length)) ∧ K (.int .i64 (min n2 n : Nat)) (C (.arr sz v (layV cs (lo * sz) ((cs2.drop (lo2 * sz)).take (min n2 n * sz)))))) : DOp P o f H K := by
  obtain ⟨z2, cs2, M1, M2, hM, z, cs, L1, L2, hL, ⟨h1, h2, h3⟩, hk⟩ := h
  exact DOp.copyaa_ hop hd hs2 ⟨h1, z2, cs2, M1, M2, hM, h2, z, cs, L1, L2, hL, h3, hk⟩
theorem DOp.copyas2_ {d s : Operand} {T T' : TypeId} {sz lo n : Nat} {v : Value} {xs : List V} (hop : o.op = .call { callee := .builtin .copy, args := #[d, s], argTypes := #[T, T'] }) (hd : f d = .sub sz v lo n) (hs2 : srcL (f s) = some xs)
    (h : OnA H v fun z cs C => (((ty P T).kind = 4 ∧ (ty P (ty P T).elem).kind ≠ 0 ∧ (ty P (ty P T).elem).kind ≠ 11 ∧ (ty P (ty P T).elem).size = sz ∧ 0 < sz) ∧ (xs.length ≤ n ∧ (∀ y ∈ xs, y.n = sz ∧ y.cs.all V.one = true)) ∧ (z = sz ∧ lo * sz + xs.length * sz ≤ cs.length)) ∧
      K (.int .i64 xs.length) (C (.arr sz v (layV cs (lo * sz) (cells xs))))) : DOp P o f H K := by
  obtain ⟨z, cs, L1, L2, hL, ⟨h1, h2, h3⟩, hk⟩ := h
  exact DOp.copyas_ hop hd hs2 ⟨h1, h2, z, cs, L1, L2, hL, h3, hk⟩
theorem DOp.cleara2_ {x : Operand} {T : TypeId} {sz lo n : Nat} {v : Value} (hop : o.op = .call { callee := .builtin .clear, args := #[x], argTypes := #[T] }) (hx : f x = .sub sz v lo n)
    (h : OnA H v fun z cs C => (((ty P T).kind = 4 ∧ (ty P (ty P T).elem).kind ≠ 0 ∧ (ty P (ty P T).elem).kind ≠ 11 ∧ (ty P (ty P T).elem).size = sz ∧ (ty P (ty P T).elem).zero.length = (ty P (ty P T).elem).size ∧ 0 < (ty P (ty P T).elem).size ∧ (ty P (ty P T).elem).zero.all V.one = true) ∧
      (z = sz ∧ lo * sz + n * sz ≤ cs.length)) ∧ K (.tup []) (C (.arr sz v (layV cs (lo * sz) ((List.replicate n (ty P (ty P T).elem).zero).flatten))))) : DOp P o f H K := by
  obtain ⟨z, cs, L1, L2, hL, ⟨h1, h3⟩, hk⟩ := h
  exact DOp.cleara_ hop hx ⟨h1, z, cs, L1, L2, hL, h3, hk⟩
theorem DVop.slicea_ {e : Env} {mv tm : List Nat} {ops : Array Oper} {K : Env → Own → Prop} {i : Nat} {o : Oper} {rest : List Oper} {t : TypeId} {x : Operand} {lo hi : Option Operand} {v : Value} {n : Nat} (hm : mv.contains i = false) (ht : tm.contains i = true) (hop : o.op = .slice t x lo hi none) (hx : opd e x = .ar v n)
    (h : ((ty P t).kind = 4 ∧ (ty P (ty P t).elem).kind ≠ 0 ∧ (ty P (ty P t).elem).kind ≠ 11 ∧ bndS n (lo.map (opd e)) (hi.map (opd e))) ∧
      FD P (mv ++ tm) ops (fun i' l' e' => DV P mv tm ops K i' l' e' H) (i + 1) rest (putO e o.dst (.sub (ty P (ty P t).elem).size v (loN (lo.map (opd e))) (hiN n (hi.map (opd e)) - loN (lo.map (opd e)))))) : DVop P mv tm ops K i o rest e H :=
  DVop.tm_ hm ht (DOp.slicea_ hop hx ⟨h.1, rfl, rfl⟩) h.2
theorem SeqD.opP {ops : Array Oper} {K : Env → Own → Prop} {e : Env} {o : Oper} {rest : List Oper} (hg : o.guard = none) (h : side P o (opd e) ∧ SeqD P ops K rest (putO e o.dst (val P o (opd e))) H) : SeqD P ops K (o :: rest) e H := SeqD.op hg (SeqD.one h.1 h.2)
end
end Go.Proofs.YtfamfamgopchnaaGreatDoor
