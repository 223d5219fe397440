/- Frames that are read are not too great. -/
import Derived.Test.YtfmjboanoojhcaaGreatDoorFq6x
import Derived.KernelRfl
import Derived.Test.YtfmjboanoojhcaaGreatDoorFm8x
import Derived.Test.YtfmjboanoojhcaaGreatDoorSp2x
import Derived.Test.YtfmjboanoojhcaaGreatDoorFp3x
namespace Go.Proofs.YtfmjboanoojhcaaGreatDoor
open Go.RowKit
set_option linter.unusedSimpArgs false
set_option linter.unusedVariables false
set_option linter.unusedSectionVars false
set_option maxHeartbeats 4000000
set_option maxRecDepth 100000


attribute [local irreducible] numR intR textR dotR takeR
theorem empty_light : LightT emptyT := ⟨Nat.zero_le _, Nat.zero_le _, Nat.zero_le _, Nat.zero_le _, (fun _ h => nomatch h), (fun _ h => nomatch h), (fun _ h => nomatch h)⟩
end Go.Proofs.YtfmjboanoojhcaaGreatDoor
/- What is laid down is read back, as it was. -/
namespace Go.Proofs.YtfmjboanoojhcaaGreatDoor
open Go.RowKit
set_option linter.unusedSimpArgs false
set_option linter.unusedVariables false
set_option linter.unusedSectionVars false
set_option maxHeartbeats 4000000
set_option maxRecDepth 100000


/-! What is laid down is read back. -/
def i64 (x : Int) : Prop := -9223372036854775808 ≤ x ∧ x ≤ 9223372036854775807
structure InD (d : TDot) : Prop where
  a : i64 d.node
  b : i64 d.epoch
  c : i64 d.n
structure InC (x : TCell) : Prop where
  d : InD x.dot
  l : i64 x.stamp.l
  c : i64 x.stamp.c
  n : i64 x.stamp.node
  q : i64 x.qos
structure InT (t : TTable) : Prop where
  s : ∀ d ∈ t.seen, InD d
  f : ∀ x ∈ t.fences, i64 x.node ∧ i64 x.epoch
  r : ∀ r ∈ t.routes, InD r.dot
  c : ∀ c ∈ t.cells, InC c
structure InF (f : TFrame) : Prop where
  u : ∀ x ∈ f.sums, 0 ≤ x ∧ x ≤ 18446744073709551615
  s : ∀ d ∈ f.seen, InD d
  t : InT f.tab
theorem valL_leK : ∀ (k : Nat) (x : Int), 0 ≤ x → x < 256 ^ k → valL (leK k x) = x
  | 0, x, h0, h1 => by
    have e : (256 : Int) ^ 0 = 1 := rfl
    have : x = 0 := by omega
    subst this; rfl
  | k + 1, x, h0, h1 => by
    rw [Int.pow_succ] at h1
    rw [leK_cons]
    show ((byteI x).toNat : Int) + 256 * valL (leK k (x.fdiv 256)) = x
    rw [Int.fdiv_eq_ediv_of_nonneg _ (by decide), valL_leK k (x / 256) (by omega) (by omega)]
    have : ((byteI x).toNat : Int) = x % 256 := by
      unfold byteI
      rw [UInt8.toNat_ofNat']
      omega
    omega
theorem wrap_back {x : Int} (h : i64 x) : IntKind.i64.wrap (IntKind.u64.wrap x) = x := by
  obtain ⟨h1, h2⟩ := h
  simp only [IntKind.wrap, IntKind.bits, IntKind.signed]
  simp
  omega
theorem u64_b (x : Int) : 0 ≤ IntKind.u64.wrap x ∧ IntKind.u64.wrap x ≤ 18446744073709551615 := by
  simp only [IntKind.wrap, IntKind.bits, IntKind.signed]
  simp
  omega
theorem numR_back {x : Int} (h : 0 ≤ x ∧ x ≤ 18446744073709551615) (r : Str) (k : Bool) : numR ⟨leK 8 x ++ r, k⟩ = (x, ⟨r, k⟩) := by
  have e : (256 : Int) ^ 8 = 18446744073709551616 := by decide
  unfold numR
  rw [if_pos (by simp only [List.length_append, leK_len]; omega)]
  simp only [List.take_left' (leK_len 8 x), List.drop_left' (leK_len 8 x)]
  rw [valL_leK 8 x h.1 (by omega)]
theorem nums_cons (x : Int) (l : List Int) : numsL (x :: l) = leK 8 (IntKind.u64.wrap x) ++ numsL l := by simp [numsL]
theorem intR_back {x : Int} (h : i64 x) (l : List Int) (r : Str) (k : Bool) : intR ⟨numsL (x :: l) ++ r, k⟩ = (x, ⟨numsL l ++ r, k⟩) := by
  unfold intR
  rw [nums_cons, List.append_assoc, numR_back (u64_b x)]
  simp only [wrap_back h]
theorem num_text (t r : Str) : textBy t ++ r = numsL [(t.length : Int)] ++ (t ++ r) := by simp [textBy]
theorem textR_back {t : Str} (h : t.length ≤ 2000000) (r : Str) (k : Bool) : textR ⟨textBy t ++ r, k⟩ = (t, ⟨r, k⟩) := by
  unfold textR
  rw [num_text, nums_cons, numsL_nil, List.append_nil, u64_nat _ ⟨by omega, by omega⟩, numR_back ⟨by omega, by omega⟩]
  simp only [takeR]
  rw [if_pos (by simp only [List.length_append]; omega)]
  simp only [Int.toNat_natCast, List.take_left', List.drop_left']
theorem nil_num (r : Str) : numsL [] ++ r = r := rfl
theorem dotR_back {d : TDot} (h : InD d) (r : Str) (k : Bool) : dotR ⟨dotBy d ++ r, k⟩ = (d, ⟨r, k⟩) := by
  unfold dotR dotBy
  simp only [intR_back h.a, intR_back h.b, intR_back h.c, nil_num]
theorem fenR_back {d : TFence} (h : i64 d.node ∧ i64 d.epoch) (r : Str) (k : Bool) : fenR ⟨fenceBy d ++ r, k⟩ = (d, ⟨r, k⟩) := by
  unfold fenR fenceBy
  simp only [intR_back h.1, intR_back h.2, nil_num]
theorem routeR_back {d : TRoute} (h : InD d.dot) (hf : d.filter.length ≤ 2000000) (r : Str) (k : Bool) : routeR ⟨routeBy d ++ r, k⟩ = (d, ⟨r, k⟩) := by
  unfold routeR routeBy
  have e : numsL [d.dot.node, d.dot.epoch, d.dot.n] ++ textBy d.filter ++ r = dotBy d.dot ++ (textBy d.filter ++ r) := by rw [List.append_assoc]; rfl
  rw [e]
  simp only [dotR_back h, textR_back hf]
attribute [local irreducible] numR intR textR dotR takeR
theorem numR_backI {x : Int} (l : List Int) (r : Str) (k : Bool) : numR ⟨numsL (x :: l) ++ r, k⟩ = (IntKind.u64.wrap x, ⟨numsL l ++ r, k⟩) := by
  rw [nums_cons, List.append_assoc, numR_back (u64_b x)]
theorem cellBy_is (c : TCell) (r : Str) : cellBy c ++ r = dotBy c.dot ++ (numsL [c.stamp.l, c.stamp.c, c.stamp.node] ++ (textBy c.topic ++ (textBy c.payload ++ (numsL [c.qos, goneI c.gone] ++ r)))) := by
  have e : numsL [c.dot.node, c.dot.epoch, c.dot.n, c.stamp.l, c.stamp.c, c.stamp.node] = dotBy c.dot ++ numsL [c.stamp.l, c.stamp.c, c.stamp.node] := by simp [dotBy, numsL]
  unfold cellBy
  rw [e]
  simp only [List.append_assoc]
theorem cellR_back {c : TCell} (h : InC c) (ht : c.topic.length ≤ 2000000) (hp : c.payload.length ≤ 2000000) (r : Str) (k : Bool) : cellR ⟨cellBy c ++ r, k⟩ = (c, ⟨r, k⟩) := by
  rw [cellBy_is]
  simp only [cellR, cS8, cS7, cS6, cS5, cS4, cS3, cS2, cS1, dotR_back h.d, numR_backI, intR_back h.n, nil_num, textR_back ht, textR_back hp, intR_back h.q, wrap_back h.l, wrap_back h.c]
  obtain ⟨_, _, _, _, _, g⟩ := c
  cases g <;> rfl
theorem listL_back {β : Type} {one : RS → β × RS} {by_ : β → Str} (hm : ∀ s, mu (one s).2 ≤ mu s ∧ (s.k = false → mu (one s).2 < mu s)) : ∀ (xs : List β) (r : Str) (q : Nat) (a : List β), (∀ x ∈ xs, ∀ r, one ⟨by_ x ++ r, false⟩ = (x, ⟨r, false⟩)) → mu ⟨flatBy by_ xs ++ r, false⟩ ≤ q → listL one q (xs.length : Int) a ⟨flatBy by_ xs ++ r, false⟩ = (a ++ xs, ⟨r, false⟩)
  | [], r, q, a, _, _ => by rw [listL_end (by simp)]; simp [flatBy]
  | x :: xs, r, q, a, h, hq => by
    have e : flatBy by_ (x :: xs) ++ r = by_ x ++ (flatBy by_ xs ++ r) := by simp [flatBy]
    have hx := h x (List.mem_cons_self ..) (flatBy by_ xs ++ r)
    rw [e] at hq ⊢
    obtain ⟨h1, h2, _⟩ := listL_go hm (a := a) (n := ((x :: xs).length : Int)) hq ⟨by simp only [List.length_cons]; omega, rfl⟩
    rw [h1]
    rw [hx] at h2 ⊢
    have := listL_back hm xs r (q - 1) (a ++ [x]) (fun y hy => h y (List.mem_cons_of_mem _ hy)) h2
    rw [show ((x :: xs).length : Int) - 1 = (xs.length : Int) by simp only [List.length_cons]; omega]
    rw [this, List.append_assoc]; rfl
theorem runL_back {β : Type} {one : RS → β × RS} {by_ : β → Str} (hm : ∀ s, mu (one s).2 ≤ mu s ∧ (s.k = false → mu (one s).2 < mu s)) {xs : List β} (r : Str) (h : ∀ x ∈ xs, ∀ r, one ⟨by_ x ++ r, false⟩ = (x, ⟨r, false⟩)) (hl : xs.length ≤ 2000000) : runL one ⟨numsL [(xs.length : Int)] ++ (flatBy by_ xs ++ r), false⟩ = (xs, ⟨r, false⟩) := by
  unfold runL
  rw [numR_backI, nil_num, u64_nat _ ⟨by omega, by omega⟩]
  rw [listL_back hm xs r _ [] h (Nat.le_refl _)]; rfl
theorem runD_back {ds : List TDot} (h : ∀ d ∈ ds, InD d) (hl : ds.length ≤ 2000000) (r : Str) : runL dotR ⟨dotsBy ds ++ r, false⟩ = (ds, ⟨r, false⟩) := by
  rw [show dotsBy ds ++ r = numsL [(ds.length : Int)] ++ (flatBy dotBy ds ++ r) by rw [dotsBy, List.append_assoc]]
  exact runL_back dotR_mu r (fun d hd r => dotR_back (h d hd) r false) hl
theorem tableBy_is (t : TTable) (r : Str) : tableBy t ++ r = dotsBy t.seen ++ (numsL [(t.fences.length : Int)] ++ (flatBy fenceBy t.fences ++ (numsL [(t.routes.length : Int)] ++ (flatBy routeBy t.routes ++ (numsL [(t.cells.length : Int)] ++ (flatBy cellBy t.cells ++ r)))))) := by
  unfold tableBy; simp only [List.append_assoc]
theorem tabR_back {t : TTable} (h : InT t) (hl : LightT t) (r : Str) : tabR ⟨tableBy t ++ r, false⟩ = (t, ⟨r, false⟩) := by
  rw [tableBy_is]
  have e1 := runD_back h.s (Nat.le_trans hl.s (by decide)) (numsL [(t.fences.length : Int)] ++ (flatBy fenceBy t.fences ++ (numsL [(t.routes.length : Int)] ++ (flatBy routeBy t.routes ++ (numsL [(t.cells.length : Int)] ++ (flatBy cellBy t.cells ++ r))))))
  have e2 := runL_back (by_ := fenceBy) fenR_mu (xs := t.fences) (numsL [(t.routes.length : Int)] ++ (flatBy routeBy t.routes ++ (numsL [(t.cells.length : Int)] ++ (flatBy cellBy t.cells ++ r)))) (fun d hd r => fenR_back (h.f d hd) r false) (Nat.le_trans hl.f (by decide))
  have e3 := runL_back (by_ := routeBy) routeR_mu (xs := t.routes) (numsL [(t.cells.length : Int)] ++ (flatBy cellBy t.cells ++ r)) (fun d hd r => routeR_back (h.r d hd) (hl.rf d hd) r false) (Nat.le_trans hl.r (by decide))
  have e4 := runL_back (by_ := cellBy) cellR_mu (xs := t.cells) r (fun d hd r => cellR_back (h.c d hd) (hl.ct d hd) (hl.cp d hd) r false) (Nat.le_trans hl.c (by decide))
  simp only [tabR, tS3, tS2, tS1, e1, e2, e3, e4]
theorem frameR_back {f : TFrame} (hB : frameB f = true) (hi : InF f) (hl : LightF f) {c : UInt8} (hc : c = byteI f.kind) : frameR c ⟨numsL [f.fr, f.ep, f.at_] ++ restBy f, false⟩ = (f, ⟨[], false⟩) := by
  subst hc
  have hk := frameB_kind hB
  have hcn : ((byteI f.kind).toNat : Int) = f.kind := by unfold byteI; rw [UInt8.toNat_ofNat']; omega
  obtain ⟨k, fr, ep, at_, sums, seen, tab, seq, topic, payload, qos, retain⟩ := f
  have hs := hl.sums; have hsn := hl.seen; have ht := hl.top; have hp := hl.msg
  have hu := hi.u; have hd := hi.s; have htb := hi.t; have hlt := hl.tab
  simp only at hk hcn hs hsn ht hp hu hd htb hlt ⊢
  unfold frameB at hB
  simp only [Bool.and_eq_true, decide_eq_true_eq] at hB
  obtain ⟨⟨⟨⟨⟨⟨b1, b2⟩, b3⟩, b4⟩, b5⟩, b6⟩, hB⟩ := hB
  have i1 : i64 fr := ⟨by omega, by omega⟩
  have i2 : i64 ep := ⟨by omega, by omega⟩
  have i3 : i64 at_ := ⟨by omega, by omega⟩
  by_cases k1 : k = 1
  · subst k1
    rw [if_pos rfl] at hB
    simp only [Bool.and_eq_true, decide_eq_true_eq, wordB, Bool.not_eq_true'] at hB
    obtain ⟨⟨⟨q1, q2⟩, q3⟩, ⟨⟨⟨q4, q5⟩, q6⟩, q7⟩, q8⟩ := hB
    subst q3; subst q4; subst q5; subst q6; subst q7; subst q8
    have e1 := runL_back (by_ := sumBy) numR_mu (xs := sums) (dotsBy seen) (fun d hd r => numR_back (hu d hd) r false) (Nat.le_trans hs (by decide))
    have e2 := runD_back hd (Nat.le_trans hsn (by decide)) []
    rw [List.append_nil] at e2
    rw [frameR_1 hcn, restP_1 rfl, List.append_assoc]
    simp only [gS3, gS2, gS1, intR_back i1, intR_back i2, intR_back i3, nil_num, e1, e2, hcn]
  · by_cases k2 : k = 2
    · subst k2
      rw [if_neg (by decide), if_pos rfl] at hB
      simp only [Bool.and_eq_true, decide_eq_true_eq, wordB, Bool.not_eq_true'] at hB
      obtain ⟨⟨⟨q1, q2⟩, q3⟩, ⟨⟨⟨q4, q5⟩, q6⟩, q7⟩, q8⟩ := hB
      subst q1; subst q2; subst q4; subst q5; subst q6; subst q7; subst q8
      have e1 := tabR_back htb hlt []
      rw [List.append_nil] at e1
      rw [frameR_2 hcn, restP_2 rfl]
      simp only [gS3, gS2, gS1, intR_back i1, intR_back i2, intR_back i3, nil_num, e1, hcn]
    · have k3 : k = 3 := by omega
      subst k3
      rw [if_neg (by decide), if_neg (by decide), if_pos rfl] at hB
      simp only [Bool.and_eq_true, decide_eq_true_eq, Bool.not_eq_true'] at hB
      obtain ⟨⟨⟨⟨⟨⟨⟨⟨q1, q2⟩, q3⟩, q4⟩, q5⟩, q6⟩, q7⟩, q8⟩, q9⟩ := hB
      subst q1; subst q2; subst q3; subst q9
      have i4 : i64 seq := ⟨by omega, by omega⟩
      have i5 : i64 qos := ⟨by omega, by omega⟩
      rw [frameR_3 hcn, restP_3 rfl]
      have e0 : numsL [seq] ++ textBy topic ++ textBy payload ++ numsL [qos] = numsL [seq] ++ (textBy topic ++ (textBy payload ++ (numsL [qos] ++ []))) := by simp only [List.append_assoc, List.append_nil]
      rw [e0]
      simp only [gS6, gS5, gS4, gS3, gS2, gS1, intR_back i1, intR_back i2, intR_back i3, intR_back i4, intR_back i5, nil_num, textR_back ht, textR_back hp, hcn]
/-! What is read is within the numbers of the machine. -/
theorem empty_in : InT emptyT := ⟨(fun _ h => nomatch h), (fun _ h => nomatch h), (fun _ h => nomatch h), (fun _ h => nomatch h)⟩
/-! What any bytes are. -/
def zeroF : TFrame := ⟨0, 0, 0, 0, [], [], emptyT, 0, [], [], 0, false⟩
structure IsFrame (l : Str) (f : TFrame) : Prop where
  i : InF f
  b : LightF f
  r : frameB f = true
  e : fullBy f = l
def bodyOf (l : Str) : Str := l.take (l.length - 8)
def sumOk (l : Str) : Prop := l.drop (l.length - 8) = leK 8 (fnvV (bodyOf l))
/-- Which frame bytes are, or why none. -/
inductive ReadQ (l : Str) : TFrame → Int → Prop
  | short (h : l.length < 12 ∨ l.take 3 ≠ magicL) : ReadQ l zeroF 21
  | sum (h1 : 12 ≤ l.length) (h2 : l.take 3 = magicL) (h3 : ¬ sumOk l) : ReadQ l zeroF 27
  | no (h1 : 12 ≤ l.length) (h2 : l.take 3 = magicL) (h3 : sumOk l) (h : ∀ f, ¬ IsFrame l f) : ReadQ l zeroF 21
  | yes {f : TFrame} (h : IsFrame l f) : ReadQ l f 0
theorem full_parts {f : TFrame} {l : Str} (h : fullBy f = l) : 12 ≤ l.length ∧ l.take 3 = magicL ∧ sumOk l ∧ (bodyOf l).drop 3 = byteI f.kind :: (numsL [f.fr, f.ep, f.at_] ++ restBy f) := by
  subst h
  have hl : (fullBy f).length = (bodyBy f).length + 8 := by rw [fullBy, List.length_append, leK_len]
  have hb : bodyOf (fullBy f) = bodyBy f := by
    unfold bodyOf; rw [hl, Nat.add_sub_cancel, fullBy, List.take_left]
  have hr : bodyBy f = 72 :: 66 :: 49 :: byteI f.kind :: (numsL [f.fr, f.ep, f.at_] ++ restBy f) := by
    unfold bodyBy headBy; rfl
  refine ⟨?_, ?_, ?_, ?_⟩
  · have := fullBy_len f; omega
  · rw [fullBy, hr]; rfl
  · unfold sumOk; rw [hb, hl, Nat.add_sub_cancel, fullBy, List.drop_left]
  · rw [hb, hr]; rfl
theorem IsFrame.read {l : Str} {f : TFrame} (h : IsFrame l f) {c : UInt8} {r : Str} (hr : (bodyOf l).drop 3 = c :: r) : frameR c ⟨r, false⟩ = (f, ⟨[], false⟩) := by
  have e := (full_parts h.e).2.2.2
  rw [hr] at e
  obtain ⟨rfl, rfl⟩ := List.cons.inj e
  exact frameR_back h.r h.i h.b rfl
end Go.Proofs.YtfmjboanoojhcaaGreatDoor
/- A frame of a story, as it is. -/
namespace Go.Proofs.YtfmjboanoojhcaaGreatDoor
open Go.RowKit
set_option linter.unusedSimpArgs false
set_option linter.unusedVariables false
set_option linter.unusedSectionVars false
set_option maxHeartbeats 4000000
set_option maxRecDepth 100000


theorem tables_seen {l : List TDeed} (hn : l.length ≤ 20) (h : ∀ d ∈ l, deedOk d) {k : Int} (hk : 0 ≤ k ∧ k < 3) : ((tablesM l).getD k.toNat default).seen.length ≤ 96 := by
  obtain ⟨t1, t2, _⟩ := (Story.of h).tab hk
  exact (story_len hn t1 t2).1
theorem neat_in {t : TTable} (h : Neat t) : InT t := by
  have dn : ∀ {d : TDot}, dotIn d → InD d := fun h => ⟨⟨by have := h.1.1; omega, h.1.2⟩, ⟨by have := h.2.1.1; omega, h.2.1.2⟩, ⟨by have := h.2.2.1; omega, h.2.2.2⟩⟩
  have ni : ∀ {x : Int}, natIn x → i64 x := fun h => ⟨by have := h.1; omega, h.2⟩
  refine ⟨fun d hd => ?_, fun d hd => ?_, fun d hd => ?_, fun d hd => ?_⟩
  · obtain ⟨k, hk, rfl⟩ := mem_getD hd; exact dn (h.d k)
  · obtain ⟨k, hk, rfl⟩ := mem_getD hd; exact ⟨ni (h.f k).1, ni (h.f k).2⟩
  · obtain ⟨k, hk, rfl⟩ := mem_getD hd; exact dn (h.r k).1
  · obtain ⟨k, hk, rfl⟩ := mem_getD hd
    obtain ⟨c1, ⟨c2, c3, c4⟩, c5, _⟩ := h.c k
    exact ⟨dn c1, ni c2, ni c3, ni c4, ni c5⟩
theorem neat_light {t : TTable} (h : Neat t) : LightT t := by
  refine ⟨Nat.le_trans h.ls (by decide), Nat.le_trans h.lf (by decide), Nat.le_trans h.lr (by decide), Nat.le_trans h.lc (by decide), fun r hr => ?_, fun c hc => ?_, fun c hc => ?_⟩
  · obtain ⟨k, hk, rfl⟩ := mem_getD hr; exact Nat.le_trans (h.r k).2 (by decide)
  · obtain ⟨k, hk, rfl⟩ := mem_getD hc; exact Nat.le_trans (h.c k).2.2.2.1 (by decide)
  · obtain ⟨k, hk, rfl⟩ := mem_getD hc; exact Nat.le_trans (h.c k).2.2.2.2 (by decide)
/-- What a frame of a story is. -/
structure SomeF (x : Str) (f : TFrame) : Prop where
  i : InF f
  b : LightF f
  r : frameB f = true
  n : (fullBy f).length ≤ 60100
  p : f.kind = 3 → f.payload = x
  d : Lite 1000000000 f.tab ∧ f.topic.length ≤ 1000
  s : f.sums.length ≤ 20 ∧ f.seen.length ≤ 100 ∧ f.payload.length ≤ 40
theorem empty_lite : Lite 1000000000 emptyT := ⟨Nat.zero_le _, Nat.zero_le _, Nat.zero_le _, Nat.zero_le _, (fun _ h => nomatch h), (fun _ h => nomatch h), (fun _ h => nomatch h)⟩
theorem len_nil0 : ∀ x ∈ ([] : List Int), 0 ≤ x ∧ x ≤ 18446744073709551615 := fun _ h => nomatch h
theorem some_1 {a b c : Int} {ls : List Int} {se : List TDot} {x : Str} (ha : 0 ≤ a ∧ a < 16) (hb : 1 ≤ b ∧ b ≤ 2147483647) (hc : 0 ≤ c ∧ c ≤ 1099511627776) (h1 : ls.length = 10) (h2 : ∀ x ∈ ls, 0 ≤ x ∧ x ≤ 18446744073709551615) (h3 : rightB se = true) (h4 : se.length ≤ 96) (h5 : ∀ d ∈ se, InD d) : SomeF x ⟨1, a, b, c, ls, se, emptyT, 0, [], [], 0, false⟩ := by
  refine ⟨⟨h2, h5, empty_in⟩, ⟨by simp only; omega, by simp only; omega, empty_light, Nat.zero_le _, Nat.zero_le _⟩, ?_, ?_, (fun h => by cases h), ⟨empty_lite, Nat.zero_le _⟩, by simp only; omega, by simp only; omega, Nat.zero_le _⟩
  · unfold frameB wordB
    simp [ha.1, ha.2, hb.1, hb.2, hc.1, hc.2, h1, h3]
  · rw [fullBy_len, restP_1 rfl]
    have := flatBy_len (f := sumBy) (n := 8) (l := ls) (fun x _ => sumP_len x)
    simp only [List.length_append, numsL_len, dotsBy_len, List.length_cons, List.length_nil, this]
    omega
theorem some_2 {a b c : Int} {t : TTable} {x : Str} (ha : 0 ≤ a ∧ a < 16) (hb : 1 ≤ b ∧ b ≤ 2147483647) (hc : 0 ≤ c ∧ c ≤ 1099511627776) (h1 : Neat t) (h2 : Lite 3072 t) (h3 : tabB t = true) (h4 : (tableBy t).length ≤ 60000) : SomeF x ⟨2, a, b, c, [], [], t, 0, [], [], 0, false⟩ := by
  refine ⟨⟨len_nil0, (fun _ h => nomatch h), neat_in h1⟩, ⟨Nat.zero_le _, Nat.zero_le _, neat_light h1, Nat.zero_le _, Nat.zero_le _⟩, ?_, ?_, (fun h => by cases h), ⟨h2.mono (by decide), Nat.zero_le _⟩, Nat.zero_le _, Nat.zero_le _, Nat.zero_le _⟩
  · unfold frameB wordB
    simp [ha.1, ha.2, hb.1, hb.2, hc.1, hc.2, h3]
  · rw [fullBy_len, restP_2 rfl]; exact Nat.le_trans (Nat.add_le_add_left h4 36) (by decide)
theorem some_3 {a b c d q : Int} {tp x : Str} (ha : 0 ≤ a ∧ a < 16) (hb : 1 ≤ b ∧ b ≤ 2147483647) (hc : 0 ≤ c ∧ c ≤ 1099511627776) (hd : 1 ≤ d ∧ d ≤ 2147483647) (hq : 0 ≤ q ∧ q ≤ 2) (h1 : nameB tp = true) (h2 : tp.length ≤ 1000) (h3 : x.length ≤ 40) : SomeF x ⟨3, a, b, c, [], [], emptyT, d, tp, x, q, false⟩ := by
  refine ⟨⟨len_nil0, (fun _ h => nomatch h), empty_in⟩, ⟨Nat.zero_le _, Nat.zero_le _, empty_light, Nat.le_trans h2 (by decide), Nat.le_trans h3 (by decide)⟩, ?_, ?_, (fun _ => rfl), ⟨empty_lite, h2⟩, Nat.zero_le _, Nat.zero_le _, h3⟩
  · unfold frameB
    simp [ha.1, ha.2, hb.1, hb.2, hc.1, hc.2, hd.1, hd.2, hq.1, hq.2, h1]
  · rw [fullBy_len, restP_3 rfl]
    simp only [List.length_append, numsL_len, textBy_len, List.length_cons, List.length_nil]
    omega
def deedR (d : TDeed) : Prop := (0 ≤ d.what ∧ d.what ≤ 255) ∧ (0 ≤ d.who ∧ d.who ≤ 255) ∧ (0 ≤ d.k ∧ d.k ≤ 255)
theorem deeds_ok {l : List TDeed} (h : ∀ d ∈ l, deedR d) (h2 : ∀ k, (l.getD k default).x.length ≤ 30) : ∀ d ∈ l, deedOk d := fun d hd => by
  obtain ⟨k, hk, rfl⟩ := mem_getD hd
  obtain ⟨a, b, c⟩ := h _ hd
  exact ⟨a, b, c, h2 k⟩
attribute [local irreducible] DW SeqD DV DOp DC DVX DVJ
theorem sv_someF_dc {p : Prop} (h : p := by first | exact sv | exact ⟨hn, hl⟩ | exact ⟨hnt, hlt.mono (by decide), htb⟩ | fail) : p := h
section
attribute [local push_cast 2000] encTable
theorem someF_dc (l : List TDeed) (k a : Int) (x : List UInt8) (F : Own) : (l.length ≤ 20 ∧ (∀ d ∈ l, deedOk d) ∧ (0 ≤ k ∧ k ≤ 255) ∧ (0 ≤ a ∧ a ≤ 255) ∧ x.length ≤ 40) → DC Tryz.prog 15 [.sl (l.map encDeed), .int .u8 k, .int .u8 a, .sl (x.map u8)] (([] : Own) ++ F) fun d G => ∃ f : TFrame, SomeF x f ∧ d = .agg [.int .i64 f.kind, .int .i64 f.fr, .int .i64 f.ep, .int .i64 f.at_, .sl (f.sums.map encU), .sl (f.seen.map encDot), .sl (f.tab.seen.map encDot), .sl (f.tab.fences.map encFence), .sl (f.tab.routes.map encRoute), .sl (f.tab.cells.map encCell), .int .i64 f.seq, .str f.topic, .sl (f.payload.map u8), .int .i64 f.qos, .bool f.retain] ∧ G = [] ++ F := by
  intro hA
  obtain ⟨hn, hl, hk, ha, hx⟩ := hA
  refine DC.bodyS (n_ := 58) (show Tryz.prog.funcs[15]? = some Tryz.f15 by kernel_rfl) rfl rfl (by rfl) ?_
  simp only [env0, List.cons_append, List.nil_append]
  have kw := ksIs [0, 1, 2, 3, 8, 9, 10, 32, 45, 53]
  have ow := ownIs [8, 10]
  have dw6 := drIs 6 [1, 5, 7] [0]
  have rw_ := rsIs [.cell 8 33]
  have h3 := tmod3 hk.1
  obtain ⟨htn, htr, hnt, hlt, htl⟩ := tables_at hn hl h3
  have hsm := tables_small hn hl h3
  have htb := tr_iff.2 htr
  have a0 := Int.tmod_nonneg 16 ha.1
  have a1 := Int.tmod_lt_of_pos a (show (0 : Int) < 16 by decide)
  have a3 := tmod3 ha.1
  have htp := topic_name ha.1
  have hse := tables_seen hn hl h3
  repeat' (first
    | ((with_reducible apply DW.frzB 2 9); (focus (exact rfl)); (repeat (with_reducible first | refine Out.here ?_ | refine Out.next ?_)); simp only [put_cons, put_nil, Nat.reduceEqDiff, ↓reduceIte, if_true, if_false, reduceCtorEq])
    | refine g_ ?_
    | ((with_reducible refine And.intro ?_ ?_); (exact sv_someF_dc))
    | (refine DW.cond (by rfl) ?_ ?_ <;> (first | exact i0_ | (refine ic_ ?_; intro hb)))
    | ((with_reducible first | refine FVg_cases ?_ ?_ | refine FDg_cases ?_ ?_) <;> (intro hb; rw [hb]; revert hb; (first | exact i0_ | (refine i_ ?_; intro hb))))
    | refine r_ ?_
    | refine d_ ?_
    | refine k_ ?_
    | ((refine dm_ ?_); (first | ((first | refine v_ (story_dc _ _) ?_ (ha := by exact sv_someF_dc) | refine v_ (topic_dc _ _) ?_ (ha := by exact sv_someF_dc)))))
    | refine vo_ ?_
    | ((first | refine q_ (story_dc _ _) ?_ (ha := by exact sv_someF_dc) | refine q_ (topic_dc _ _) ?_ (ha := by exact sv_someF_dc)))
    | (refine p_ (rsums_dc _ _) ?_ (ha := by exact sv_someF_dc); rintro d H1 ⟨ls, rfl, hls, rfl⟩ <;> refine s_ ?_)
    | refine o_ ?_
    | refine f_ ?_
    | refine vm_ ?_
    | with_reducible intro b)
  all_goals first
  | (exfalso; omega)
  | (have hk3 : k.tmod 3 = 0 := by omega
     rw [hk3] at htr hnt hlt htl htb hsm hse
     try rw [hk3]
     refine ⟨_, _, ?_, ⟨⟨1, a.tmod 16, k + 1, a * 5, ls, ((tablesM l).getD 0 default).seen, emptyT, 0, [], [], 0, false⟩, some_1 ⟨by omega, by omega⟩ ⟨by omega, by omega⟩ ⟨by omega, by omega⟩ hls.1 hls.2 htr.seen hse (neat_in hnt).s, rfl, rfl⟩, ?_⟩; rotate_left; (exact sub_); exact le.agg (by repeat (first | exact Les.nil | refine Les.cons le.rfl_ ?_ | refine Les.cons (le.gs rfl) ?_ | refine Les.cons (le.gs List.map_nil.symm) ?_ | refine Les.cons (le.agg ?_) ?_)); done)
  | (have hk3 : k.tmod 3 = 1 := by omega
     rw [hk3] at htr hnt hlt htl htb hsm hse
     try rw [hk3]
     refine ⟨_, _, ?_, ⟨⟨2, a.tmod 16, k + 1, a * 5, [], [], ((tablesM l).getD 1 default), 0, [], [], 0, false⟩, some_2 ⟨by omega, by omega⟩ ⟨by omega, by omega⟩ ⟨by omega, by omega⟩ hnt hlt htb hsm, rfl, rfl⟩, ?_⟩; rotate_left; (exact sub_); exact le.agg (by repeat (first | exact Les.nil | refine Les.cons le.rfl_ ?_ | refine Les.cons (le.gs rfl) ?_ | refine Les.cons (le.gs List.map_nil.symm) ?_ | refine Les.cons (le.agg ?_) ?_)); done)
  | (have hk3 : k.tmod 3 = 2 := by omega
     rw [hk3] at htr hnt hlt htl htb hsm hse
     try rw [hk3]
     refine ⟨_, _, ?_, ⟨⟨3, a.tmod 16, k + 1, a * 5, [], [], emptyT, a + 1, topicM a, x, a.tmod 3, false⟩, some_3 ⟨by omega, by omega⟩ ⟨by omega, by omega⟩ ⟨by omega, by omega⟩ ⟨by omega, by omega⟩ ⟨by omega, by omega⟩ htp.1 htp.2 hx, rfl, rfl⟩, ?_⟩; rotate_left; (exact sub_); exact le.agg (by repeat (first | exact Les.nil | refine Les.cons le.rfl_ ?_ | refine Les.cons (le.gs rfl) ?_ | refine Les.cons (le.gs List.map_nil.symm) ?_ | refine Les.cons (le.agg ?_) ?_)); done)
  | (trace_state; fail)
end
end Go.Proofs.YtfmjboanoojhcaaGreatDoor
