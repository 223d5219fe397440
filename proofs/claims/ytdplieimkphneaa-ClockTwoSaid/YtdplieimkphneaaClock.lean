/- What the clock's functions compute (package clock, and the reference's clock): each called on a block that is known whole. -/
import Derived.Test.YtdplieimkphneaaRelSim
namespace Go.Proofs.Ytdplieimkphneaa
open Go.RowKit
/-- The nearest number that may be. -/
def near (v : Int) : Int := min (max v 0) 4611686018427387904
theorem near_bd (v : Int) : 0 ≤ near v ∧ near v ≤ 4611686018427387904 := by unfold near; omega
def nowL (l c v : Int) : Int × Int :=
  if l < near v then (near v, 0) else if c < 4611686018427387904 then (l, c + 1) else if l < 4611686018427387904 then (l + 1, 0) else (l, c)
def Clk (w : World) (T b : Nat) (l c n : Int) : Prop := Blk w b T #[.int .i64 l, .int .i64 c, .int .i64 n]
theorem Clk.set2 {w : World} {T b : Nat} {l c n : Int} (h : Clk w T b l c n) (l' c' : Int) : Clk ((w.setCell ⟨b, 0, none⟩ (.int .i64 l')).setCell ⟨b, 1, none⟩ (.int .i64 c')) T b l' c' n := by
  have := (Blk.set_ h 0 (.int .i64 l')).set_ 1 (.int .i64 c')
  simpa [Clk] using this
theorem Clk.set1 {w : World} {T b : Nat} {l c n : Int} (h : Clk w T b l c n) (c' : Int) : Clk (w.setCell ⟨b, 1, none⟩ (.int .i64 c')) T b l c' n := by
  have := Blk.set_ h 1 (.int .i64 c')
  simpa [Clk] using this

set_option maxHeartbeats 400000 in
theorem near_any (v : Int) (w : World) : Calls Try.prog 37 #[.int .i64 v] w fun e w' => e = .returned (.int .i64 (near v)) ∧ w = w' := by
  go_enter Try.func37, Try.ntmps37
  go_wp2
  go_ret
  exact ⟨rfl, rfl⟩
set_option maxHeartbeats 400000 in
theorem held_any (v : Int) (w : World) : Calls Try.prog 39 #[.int .i64 v] w fun e w' => e = .returned (.int .i64 (near v)) ∧ w = w' := by
  go_enter Try.func39, Try.ntmps39
  go_wp2
  go_ret
  exact ⟨rfl, rfl⟩

def NowP (T b : Nat) (l c n v : Int) (w : World) (e : Ending) (w' : World) : Prop :=
  e = .returned (.agg #[.int .i64 (nowL l c v).1, .int .i64 (nowL l c v).2, .int .i64 n]) ∧ Clk w' T b (nowL l c v).1 (nowL l c v).2 n ∧ Only b w w'

set_option maxHeartbeats 1000000 in
theorem now_any (b : Nat) (l c n v : Int) (w : World) (hc : Clk w 82 b l c n) (b0 : 0 ≤ l) (b1 : l ≤ 4611686018427387904) (b2 : 0 ≤ c) (b3 : c ≤ 4611686018427387904) :
    Calls Try.prog 28 #[.pointer (some ⟨b, 0, none⟩), .int .i64 v] w (NowP 82 b l c n v w) := by
  have hb := Blk.lt hc
  have h0 : w.cell? ⟨b, 0, none⟩ = some (.int .i64 l) := Blk.cell hc 0
  have h1 : w.cell? ⟨b, 1, none⟩ = some (.int .i64 c) := Blk.cell hc 1
  have h2 : w.cell? ⟨b, 2, none⟩ = some (.int .i64 n) := Blk.cell hc 2
  have f0 := Blk.frozen hc 0
  have f1 := Blk.frozen hc 1
  have hn := near_bd v
  by_cases k1 : l < near v
  · have hfin : nowL l c v = (near v, 0) := by simp [nowL, k1]
    have H := Lib.hid hfin
    clear hfin
    go_enter Try.func28, Try.ntmps28
    go_wp2_with (first | (go_at_call 37; refine (near_any _ _).mono ?_; rintro e w' ⟨rfl, rfl⟩))
    refine bodyPost_ret (v := .agg #[.int .i64 (near v), .int .i64 0, .int .i64 n]) (by simp [results, Try.results28, go_sem]) rfl ?_
    unfold NowP
    rw [H.out]
    exact ⟨rfl, (Clk.set2 hc _ _).alloc _, (((Only.refl b w).self_ 0 _).self_ 1 _).alloc _⟩
  · by_cases k2 : c < 4611686018427387904
    · have hfin : nowL l c v = (l, c + 1) := by simp [nowL, k1, k2]
      have H := Lib.hid hfin
      clear hfin
      go_enter Try.func28, Try.ntmps28
      go_wp2_with (first | (go_at_call 37; refine (near_any _ _).mono ?_; rintro e w' ⟨rfl, rfl⟩))
      refine bodyPost_ret (v := .agg #[.int .i64 l, .int .i64 (c + 1), .int .i64 n]) (by simp [results, Try.results28, go_sem]) rfl ?_
      unfold NowP
      rw [H.out]
      exact ⟨rfl, (Clk.set1 hc _).alloc _, ((Only.refl b w).self_ 1 _).alloc _⟩
    · by_cases k3 : l < 4611686018427387904
      · have hfin : nowL l c v = (l + 1, 0) := by simp [nowL, k1, k2, k3]
        have H := Lib.hid hfin
        clear hfin
        go_enter Try.func28, Try.ntmps28
        go_wp2_with (first | (go_at_call 37; refine (near_any _ _).mono ?_; rintro e w' ⟨rfl, rfl⟩))
        refine bodyPost_ret (v := .agg #[.int .i64 (l + 1), .int .i64 0, .int .i64 n]) (by simp [results, Try.results28, go_sem]) rfl ?_
        unfold NowP
        rw [H.out]
        exact ⟨rfl, (Clk.set2 hc _ _).alloc _, (((Only.refl b w).self_ 0 _).self_ 1 _).alloc _⟩
      · have hfin : nowL l c v = (l, c) := by simp [nowL, k1, k2, k3]
        have H := Lib.hid hfin
        clear hfin
        go_enter Try.func28, Try.ntmps28
        go_wp2_with (first | (go_at_call 37; refine (near_any _ _).mono ?_; rintro e w' ⟨rfl, rfl⟩))
        refine bodyPost_ret (v := .agg #[.int .i64 l, .int .i64 c, .int .i64 n]) (by simp [results, Try.results28, go_sem]) rfl ?_
        unfold NowP
        rw [H.out]
        exact ⟨rfl, Blk.alloc hc _, (Only.refl b w).alloc _⟩
set_option maxHeartbeats 1000000 in
theorem refNow_any (b : Nat) (l c n v : Int) (w : World) (hc : Clk w 54 b l c n) (b0 : 0 ≤ l) (b1 : l ≤ 4611686018427387904) (b2 : 0 ≤ c) (b3 : c ≤ 4611686018427387904) :
    Calls Try.prog 29 #[.pointer (some ⟨b, 0, none⟩), .int .i64 v] w (NowP 54 b l c n v w) := by
  have hb := Blk.lt hc
  have h0 : w.cell? ⟨b, 0, none⟩ = some (.int .i64 l) := Blk.cell hc 0
  have h1 : w.cell? ⟨b, 1, none⟩ = some (.int .i64 c) := Blk.cell hc 1
  have h2 : w.cell? ⟨b, 2, none⟩ = some (.int .i64 n) := Blk.cell hc 2
  have f0 := Blk.frozen hc 0
  have f1 := Blk.frozen hc 1
  have hn := near_bd v
  by_cases k1 : l < near v
  · have hfin : nowL l c v = (near v, 0) := by simp [nowL, k1]
    have H := Lib.hid hfin
    clear hfin
    go_enter Try.func29, Try.ntmps29
    go_wp2_with (first | (go_at_call 39; refine (held_any _ _).mono ?_; rintro e w' ⟨rfl, rfl⟩))
    refine bodyPost_ret (v := .agg #[.int .i64 (near v), .int .i64 0, .int .i64 n]) (by simp [results, Try.results29, go_sem]) rfl ?_
    unfold NowP
    rw [H.out]
    exact ⟨rfl, (Clk.set2 hc _ _).alloc _, (((Only.refl b w).self_ 0 _).self_ 1 _).alloc _⟩
  · by_cases k2 : c < 4611686018427387904
    · have hfin : nowL l c v = (l, c + 1) := by simp [nowL, k1, k2]
      have H := Lib.hid hfin
      clear hfin
      go_enter Try.func29, Try.ntmps29
      go_wp2_with (first | (go_at_call 39; refine (held_any _ _).mono ?_; rintro e w' ⟨rfl, rfl⟩))
      refine bodyPost_ret (v := .agg #[.int .i64 l, .int .i64 (c + 1), .int .i64 n]) (by simp [results, Try.results29, go_sem]) rfl ?_
      unfold NowP
      rw [H.out]
      exact ⟨rfl, (Clk.set1 hc _).alloc _, ((Only.refl b w).self_ 1 _).alloc _⟩
    · by_cases k3 : l < 4611686018427387904
      · have hfin : nowL l c v = (l + 1, 0) := by simp [nowL, k1, k2, k3]
        have H := Lib.hid hfin
        clear hfin
        go_enter Try.func29, Try.ntmps29
        go_wp2_with (first | (go_at_call 39; refine (held_any _ _).mono ?_; rintro e w' ⟨rfl, rfl⟩))
        refine bodyPost_ret (v := .agg #[.int .i64 (l + 1), .int .i64 0, .int .i64 n]) (by simp [results, Try.results29, go_sem]) rfl ?_
        unfold NowP
        rw [H.out]
        exact ⟨rfl, (Clk.set2 hc _ _).alloc _, (((Only.refl b w).self_ 0 _).self_ 1 _).alloc _⟩
      · have hfin : nowL l c v = (l, c) := by simp [nowL, k1, k2, k3]
        have H := Lib.hid hfin
        clear hfin
        go_enter Try.func29, Try.ntmps29
        go_wp2_with (first | (go_at_call 39; refine (held_any _ _).mono ?_; rintro e w' ⟨rfl, rfl⟩))
        refine bodyPost_ret (v := .agg #[.int .i64 l, .int .i64 c, .int .i64 n]) (by simp [results, Try.results29, go_sem]) rfl ?_
        unfold NowP
        rw [H.out]
        exact ⟨rfl, Blk.alloc hc _, (Only.refl b w).alloc _⟩

theorem new_any (n : Int) (w : World) : Calls Try.prog 25 #[.int .i64 n] w fun e w' => e = .returned (.pointer (some ⟨w.heap.size, 0, none⟩)) ∧ w.alloc (.cells #[.int .i64 0, .int .i64 0, .int .i64 n] 82) = w' := by
  go_enter Try.func25, Try.ntmps25
  go_wp2
  go_ret
  exact ⟨rfl, rfl⟩

theorem last_any (b : Nat) (l c n : Int) (w : World) (hc : Clk w 82 b l c n) : Calls Try.prog 30 #[.pointer (some ⟨b, 0, none⟩)] w fun e w' => e = .returned (.agg #[.int .i64 l, .int .i64 c, .int .i64 n]) ∧ Below w.heap.size w w' := by
  have hb := Blk.lt hc
  have h0 : w.cell? ⟨b, 0, none⟩ = some (.int .i64 l) := Blk.cell hc 0
  have h1 : w.cell? ⟨b, 1, none⟩ = some (.int .i64 c) := Blk.cell hc 1
  have h2 : w.cell? ⟨b, 2, none⟩ = some (.int .i64 n) := Blk.cell hc 2
  go_enter Try.func30, Try.ntmps30
  go_wp2
  refine bodyPost_ret (v := .agg #[.int .i64 l, .int .i64 c, .int .i64 n]) (by simp [results, Try.results30, go_sem]) rfl ?_
  exact ⟨rfl, (Below.refl _ _).alloc (Nat.le_refl _) _⟩

def cmpI (a b : Int) : Int := if a < b then -1 else if b < a then 1 else 0
theorem nan64 (a : Int) (w : World) : Calls Try.prog 40 #[.int .i64 a] w fun e w' => e = .returned (.bool false) ∧ w = w' := by
  go_enter Try.func40, Try.ntmps40
  go_wp2
  go_ret
  simp
theorem nanI (a : Int) (w : World) : Calls Try.prog 41 #[.int .i64 a] w fun e w' => e = .returned (.bool false) ∧ w = w' := by
  go_enter Try.func41, Try.ntmps41
  go_wp2
  go_ret
  simp
theorem cmp64 (a b : Int) (w : World) : Calls Try.prog 36 #[.int .i64 a, .int .i64 b] w fun e w' => e = .returned (.int .i64 (cmpI a b)) ∧ w = w' := by
  unfold cmpI
  go_enter Try.func36, Try.ntmps36
  go_wp2_with (go_at_call 40; refine (nan64 _ _).mono ?_; rintro e w' ⟨rfl, rfl⟩)
  all_goals (go_ret; simp [*])
theorem cmpInt (a b : Int) (w : World) : Calls Try.prog 38 #[.int .i64 a, .int .i64 b] w fun e w' => e = .returned (.int .i64 (cmpI a b)) ∧ w = w' := by
  unfold cmpI
  go_enter Try.func38, Try.ntmps38
  go_wp2_with (go_at_call 41; refine (nanI _ _).mono ?_; rintro e w' ⟨rfl, rfl⟩)
  all_goals (go_ret; simp [*])

def seeL (l c v sl sc : Int) : Int × Int :=
  (max l (max (near sl) (near v)),
   near (if max l (max (near sl) (near v)) = near sl then max (if max l (max (near sl) (near v)) = l then c + 1 else 0) (near sc + 1) else (if max l (max (near sl) (near v)) = l then c + 1 else 0)))

end Go.Proofs.Ytdplieimkphneaa
