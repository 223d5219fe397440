/- A region that draws its order, walked once, in the order of the text: an operation either yields one value in every world of a class, or yields some value of which a relation tells what holds in every later world. No statement of the program. -/
import Derived.Test.YtdplieimkphneaaLib
import Derived.StillTailTactics
namespace Go.Proofs.Ytdplieimkphneaa
open Go.RowKit

def blockOf : Value → Option Nat
  | .pointer (some a) => some a.block
  | .slice (some a) _ _ => some a.block
  | .map (some b) => some b
  | _ => none

structure Fact where
  place : Nat
  val : Value
  holds : World → Prop

def gives (P : Program) (S : Value → World → Prop) : Result Next → Prop
  | .ok (.value v) w' => S v w'
  | .ok (.enter f args) w' => Calls P f args w' fun e w'' => ∃ v, e = .returned v ∧ S v w''
  | _ => False

/-- Operation k comes behind operation j, by the edges. -/
def UnderN (ops : Array Oper) : Nat → Nat → Nat → Prop
  | 0, k, j => Region.waitsFor .any ops k j = true
  | f + 1, k, j => ∃ m, Region.waitsFor .any ops k m = true ∧ UnderN ops f m j
def Under (ops : Array Oper) (k j : Nat) : Prop := ∃ f, UnderN ops f k j
theorem Under.one {ops : Array Oper} {k j : Nat} (h : Region.waitsFor .any ops k j = true) : Under ops k j := ⟨0, h⟩
theorem Under.step {ops : Array Oper} {k m j : Nat} (h : Region.waitsFor .any ops k m = true) (h' : Under ops m j) : Under ops k j := h'.elim fun f hf => ⟨f + 1, m, h, hf⟩

/-- What is told of an operation's value: what it is, whatever the world; what holds of it in every later world. -/
structure Told where
  is_ : Value → Prop
  holds : Value → World → Prop
  step : World → World → Prop

def Deps (ops : Array Oper) (rs : List Fact) (k : Nat) (w : World) : Prop := ∀ r ∈ rs, Under ops k r.place → r.holds w

def Apart (fresh : List Nat) (rs : List Fact) : Prop :=
  ∀ r ∈ rs, ∀ r' ∈ rs, fresh.contains r.place = true → fresh.contains r'.place = true → r.place ≠ r'.place → blockOf r.val ≠ blockOf r'.val
def FreshAt (fresh : List Nat) (k : Nat) (w : World) (v : Value) (w' : World) : Prop :=
  fresh.contains k = true → ∃ g, blockOf v = some g ∧ w.heap.size ≤ g ∧ g < w'.heap.size

section
variable {P : Program} {ops : Array Oper} {C : World → Prop} {Pre : Nat → World → Prop} {Rt : Nat → Option Told} {fresh pu : List Nat} {Q : Act → World → Prop}

/-- What is asked of operation k at the frame a. -/
def PlainAt (P : Program) (ops : Array Oper) (C : World → Prop) (Pre : Nat → World → Prop) (pu : List Nat) (rs : List Fact) (k : Nat) (o : Oper) (a : Act) (v : Value) : Prop :=
  ∀ w, (pu.contains k = false → C w ∧ Pre k w ∧ Deps ops rs k w) → (execOp a.eval o).run P w = .ok (.value v) w
def RelAt (P : Program) (ops : Array Oper) (C : World → Prop) (Pre : Nat → World → Prop) (fresh : List Nat) (rs : List Fact) (k : Nat) (o : Oper) (a : Act) (R : Told) : Prop :=
  (∃ v, R.is_ v) ∧
  ∀ w, C w → Pre k w → Deps ops rs k w → gives P (fun v w' => R.is_ v ∧ C w' ∧ R.step w w' ∧ w.heap.size ≤ w'.heap.size ∧ FreshAt fresh k w v w' ∧ R.holds v w') ((execOp a.eval o).run P w)

/-- The walk, those operations left out that are listed. -/
def wpLexL (P : Program) (ops : Array Oper) (C : World → Prop) (Pre : Nat → World → Prop) (Rt : Nat → Option Told) (fresh pu : List Nat) (Q : Act → World → Prop) (listed : Array Bool) : Nat → List Fact → List Oper → Act → Prop
  | _, rs, [], a => ∀ w, C w → (∀ r ∈ rs, r.holds w) → Apart fresh rs → Q a w
  | k, rs, o :: rest, a =>
    if listed.getD k false = true then wpLexL P ops C Pre Rt fresh pu Q listed (k + 1) rs rest a
    else if Region.wanted o (yielded ops a.tmps) = true then
      match Rt k with
      | none => ∃ v, PlainAt P ops C Pre pu rs k o a v ∧ wpLexL P ops C Pre Rt fresh pu Q listed (k + 1) rs rest (a.put o.dst v)
      | some R => RelAt P ops C Pre fresh rs k o a R ∧ ∀ v, R.is_ v → wpLexL P ops C Pre Rt fresh pu Q listed (k + 1) (⟨k, v, R.holds v⟩ :: rs) rest (a.put o.dst v)
    else wpLexL P ops C Pre Rt fresh pu Q listed (k + 1) rs rest (a.put o.dst undef)

theorem Deps.sub {rs rs' : List Fact} {k : Nat} {w : World} (hs : ∀ r ∈ rs, r ∈ rs') (h : Deps ops rs' k w) : Deps ops rs k w := fun r hr hu => h r (hs r hr) hu
theorem PlainAt.sub {rs rs' : List Fact} {k : Nat} {o : Oper} {a : Act} {v : Value} (hs : ∀ r ∈ rs, r ∈ rs') (h : PlainAt P ops C Pre pu rs k o a v) : PlainAt P ops C Pre pu rs' k o a v :=
  fun w hw => h w fun hp => ⟨(hw hp).1, (hw hp).2.1, (hw hp).2.2.sub hs⟩
theorem RelAt.sub {rs rs' : List Fact} {k : Nat} {o : Oper} {a : Act} {R : Told} (hs : ∀ r ∈ rs, r ∈ rs') (h : RelAt P ops C Pre fresh rs k o a R) : RelAt P ops C Pre fresh rs' k o a R :=
  ⟨h.1, fun w hC hp hd => h.2 w hC hp (hd.sub hs)⟩

theorem wpLexL_sub {listed : Array Bool} : ∀ (l : List Oper) (k : Nat) (rs rs' : List Fact) (a : Act), (∀ r ∈ rs, r ∈ rs') → wpLexL P ops C Pre Rt fresh pu Q listed k rs l a → wpLexL P ops C Pre Rt fresh pu Q listed k rs' l a
  | [], _, rs, rs', a, hs, h => fun w hC hr hap => h w hC (fun r hr' => hr r (hs r hr')) (fun r hr1 r' hr2 => hap r (hs r hr1) r' (hs r' hr2))
  | o :: rest, k, rs, rs', a, hs, h => by
    unfold wpLexL at h ⊢
    split
    · rename_i hl; rw [if_pos hl] at h; exact wpLexL_sub rest _ _ _ _ hs h
    · rename_i hl
      rw [if_neg hl] at h
      split
      · rename_i hw
        rw [if_pos hw] at h
        cases hR : Rt k with
        | none =>
          simp only [hR] at h ⊢
          obtain ⟨v, h1, h2⟩ := h
          exact ⟨v, h1.sub hs, wpLexL_sub rest _ _ _ _ hs h2⟩
        | some R =>
          simp only [hR] at h ⊢
          exact ⟨h.1.sub hs, fun v hv => wpLexL_sub rest _ _ _ _ (fun r hr => by
            rcases List.mem_cons.1 hr with e | hr
            · exact e ▸ List.mem_cons_self
            · exact List.mem_cons_of_mem _ (hs r hr)) (h.2 v hv)⟩
      · rename_i hw; rw [if_neg hw] at h; exact wpLexL_sub rest _ _ _ _ hs h

theorem wpLexL_congr {listed listed' : Array Bool} : ∀ (l : List Oper) (k : Nat) (rs : List Fact) (a : Act), (∀ j, k ≤ j → listed.getD j false = listed'.getD j false) → wpLexL P ops C Pre Rt fresh pu Q listed k rs l a → wpLexL P ops C Pre Rt fresh pu Q listed' k rs l a
  | [], _, _, _, _, h => h
  | o :: rest, k, rs, a, he, h => by
    have hk := he k (Nat.le_refl _)
    have he' : ∀ j, k + 1 ≤ j → listed.getD j false = listed'.getD j false := fun j hj => he j (by omega)
    unfold wpLexL at h ⊢
    rw [← hk]
    split
    · rename_i hl; rw [if_pos hl] at h; exact wpLexL_congr rest _ _ _ he' h
    · rename_i hl
      rw [if_neg hl] at h
      split
      · rename_i hw
        rw [if_pos hw] at h
        cases hR : Rt k with
        | none =>
          simp only [hR] at h ⊢
          obtain ⟨v, h1, h2⟩ := h
          exact ⟨v, h1, wpLexL_congr rest _ _ _ he' h2⟩
        | some R =>
          simp only [hR] at h ⊢
          exact ⟨h.1, fun v hv => wpLexL_congr rest _ _ _ he' (h.2 v hv)⟩
      · rename_i hw; rw [if_neg hw] at h; exact wpLexL_congr rest _ _ _ he' h

/-- What operation i, taken first, comes to. -/
def Taken (P : Program) (ops : Array Oper) (C : World → Prop) (Pre : Nat → World → Prop) (Rt : Nat → Option Told) (fresh pu : List Nat) (Q : Act → World → Prop) (listed : Array Bool) (i : Nat) (oi : Oper) (w : World) (k : Nat) (rs : List Fact) (l : List Oper) (a : Act) : Prop :=
  if Region.wanted oi (yielded ops a.tmps) = true then
    match Rt i with
    | none => ∃ v, ((execOp a.eval oi).run P w = .ok (.value v) w ∧ (pu.contains i = true → ∀ w', (execOp a.eval oi).run P w' = .ok (.value v) w')) ∧ wpLexL P ops C Pre Rt fresh pu Q (listed.setIfInBounds i true) k rs l (a.put oi.dst v)
    | some R => ((∃ v, R.is_ v) ∧ gives P (fun v w' => R.is_ v ∧ C w' ∧ R.step w w' ∧ w.heap.size ≤ w'.heap.size ∧ FreshAt fresh i w v w' ∧ R.holds v w') ((execOp a.eval oi).run P w)) ∧ ∀ v, R.is_ v → wpLexL P ops C Pre Rt fresh pu Q (listed.setIfInBounds i true) k (⟨i, v, R.holds v⟩ :: rs) l (a.put oi.dst v)
  else wpLexL P ops C Pre Rt fresh pu Q (listed.setIfInBounds i true) k rs l (a.put oi.dst undef)

theorem getD_set_ne' {listed : Array Bool} {i j : Nat} (d : Bool) (h : i ≠ j) : (listed.setIfInBounds i true).getD j d = listed.getD j d := getD_set_ne d h
theorem getD_set_at {listed : Array Bool} {i : Nat} (h : i < listed.size) : (listed.setIfInBounds i true).getD i false = true := by simp [h]

theorem pull {i : Nat} {oi : Oper} {listed : Array Bool} {w : World} (hun : listed.getD i false = false) (hil : i < listed.size) (hC : C w) (hPre : Pre i w)
    (hsel : ∀ (j : Nat) (o : Oper) cs b, ops[j]? = some o → o.op ≠ .select cs b) (hoi : ops[i]? = some oi)
    (hap : ∀ j oj, j < i → ops[j]? = some oj → listed.getD j false = false → oi.apart ops oj = true)
    (hnd : ∀ j, listed.getD j false = false → ¬ Under ops i j) :
    ∀ (l : List Oper) (k : Nat) (rs : List Fact) (a : Act), (∀ j, j < l.length → l[j]? = ops[k + j]?) → k ≤ i → i < k + l.length → Deps ops rs i w →
      wpLexL P ops C Pre Rt fresh pu Q listed k rs l a → Taken P ops C Pre Rt fresh pu Q listed i oi w k rs l a
  | [], k, rs, a, _, h1, h2, _, _ => by simp at h2; omega
  | o :: rest, k, rs, a, hl, hki, hik, hd, h => by
    have h0 : ops[k]? = some o := by simpa using (hl 0 (by simp)).symm
    have hl' : ∀ j, j < rest.length → rest[j]? = ops[k + 1 + j]? := fun j hj => by have := hl (j + 1) (by simp; omega); simpa [Nat.add_assoc, Nat.add_comm 1 j] using this
    by_cases hk : k = i
    · subst hk
      have ho : o = oi := Option.some.inj (h0.symm.trans hoi)
      subst ho
      have hcg : ∀ rs a, wpLexL P ops C Pre Rt fresh pu Q listed (k + 1) rs rest a → wpLexL P ops C Pre Rt fresh pu Q (listed.setIfInBounds k true) k rs (o :: rest) a := fun rs a h => by
        unfold wpLexL
        rw [if_pos (getD_set_at hil)]
        exact wpLexL_congr rest _ _ _ (fun j hj => by rw [getD_set_ne' false (by omega)]) h
      unfold wpLexL at h
      rw [if_neg (by rw [hun]; exact Bool.false_ne_true)] at h
      unfold Taken
      split
      · rename_i hw
        rw [if_pos hw] at h
        cases hR : Rt k with
        | none =>
          simp only [hR] at h ⊢
          obtain ⟨v, h1, h2⟩ := h
          exact ⟨v, ⟨h1 w fun _ => ⟨hC, hPre, hd⟩, fun hp w' => h1 w' fun hp' => by rw [hp] at hp'; cases hp'⟩, hcg _ _ h2⟩
        | some R =>
          simp only [hR] at h ⊢
          exact ⟨⟨h.1.1, h.1.2 w hC hPre hd⟩, fun v hv => hcg _ _ (h.2 v hv)⟩
      · rename_i hw; rw [if_neg hw] at h; exact hcg _ _ h
    · have hlt : k < i := by omega
      have hik' : i < k + 1 + rest.length := by simp at hik; omega
      by_cases hlk : listed.getD k false = true
      · unfold wpLexL at h
        rw [if_pos hlk] at h
        have hsk : ∀ rs a, wpLexL P ops C Pre Rt fresh pu Q (listed.setIfInBounds i true) (k + 1) rs rest a → wpLexL P ops C Pre Rt fresh pu Q (listed.setIfInBounds i true) k rs (o :: rest) a := fun rs a h => by
          unfold wpLexL
          rw [if_pos (by rw [getD_set_ne' false (by omega)]; exact hlk)]
          exact h
        have ih := pull hun hil hC hPre hsel hoi hap hnd rest (k + 1) rs a hl' hlt hik' hd h
        unfold Taken at ih ⊢
        split
        · rename_i hw
          rw [if_pos hw] at ih
          cases hR : Rt i with
          | none =>
            simp only [hR] at ih ⊢
            obtain ⟨v, h1, h2⟩ := ih
            exact ⟨v, h1, hsk _ _ h2⟩
          | some R =>
            simp only [hR] at ih ⊢
            exact ⟨ih.1, fun v hv => hsk _ _ (ih.2 v hv)⟩
        · rename_i hw; rw [if_neg hw] at ih; exact hsk _ _ ih
      · have hlk' : listed.getD k false = false := by simpa using hlk
        obtain ⟨g1, g2, g3⟩ := Oper.apart_spec (hap k o hlt h0 hlk')
        have gs := fun cs b => hsel i oi cs b hoi
        have gk := fun cs b => hsel k o cs b h0
        have hexI : ∀ v, execOp (a.put o.dst v).eval oi = execOp a.eval oi := fun v => execOp_put oi gs a o.dst v g3
        have hexK : ∀ v, execOp (a.put oi.dst v).eval o = execOp a.eval o := fun v => execOp_put o gk a oi.dst v g1
        have hwI : ∀ v, Region.wanted oi (yielded ops (a.put o.dst v).tmps) = Region.wanted oi (yielded ops a.tmps) := fun v => wanted_put oi a o.dst v g3
        have hwK : ∀ v, Region.wanted o (yielded ops (a.put oi.dst v).tmps) = Region.wanted o (yielded ops a.tmps) := fun v => wanted_put o a oi.dst v g1
        have hcomm : ∀ v u, (a.put oi.dst v).put o.dst u = (a.put o.dst u).put oi.dst v := fun v u => Act.put_comm a v u g2
        have hls : ¬ (listed.setIfInBounds i true).getD k false = true := by rw [getD_set_ne' false (by omega)]; exact hlk
        have plK : ∀ {rs v u}, PlainAt P ops C Pre pu rs k o a v → PlainAt P ops C Pre pu rs k o (a.put oi.dst u) v := fun h w hw => by rw [hexK]; exact h w hw
        have rlK : ∀ {rs R u}, RelAt P ops C Pre fresh rs k o a R → RelAt P ops C Pre fresh rs k o (a.put oi.dst u) R := fun h => ⟨h.1, fun w h1 hp h2 => by rw [hexK]; exact h.2 w h1 hp h2⟩
        unfold wpLexL at h
        rw [if_neg hlk] at h
        by_cases hw : Region.wanted o (yielded ops a.tmps) = true
        · rw [if_pos hw] at h
          cases hRk : Rt k with
          | none =>
            simp only [hRk] at h
            obtain ⟨u, h1, h2⟩ := h
            have mk : ∀ rs v, (∀ r ∈ rs, r ∈ rs) → PlainAt P ops C Pre pu rs k o a u → wpLexL P ops C Pre Rt fresh pu Q (listed.setIfInBounds i true) (k + 1) rs rest ((a.put o.dst u).put oi.dst v) → wpLexL P ops C Pre Rt fresh pu Q (listed.setIfInBounds i true) k rs (o :: rest) (a.put oi.dst v) := fun rs v _ hp h => by
              unfold wpLexL
              rw [if_neg hls, if_pos (by rw [hwK]; exact hw)]
              simp only [hRk]
              exact ⟨u, plK hp, by rw [hcomm]; exact h⟩
            have ih := pull hun hil hC hPre hsel hoi hap hnd rest (k + 1) rs (a.put o.dst u) hl' hlt hik' hd h2
            unfold Taken at ih ⊢
            rw [hwI, hexI] at ih
            split
            · rename_i hwi
              rw [if_pos hwi] at ih
              cases hR : Rt i with
              | none =>
                simp only [hR] at ih ⊢
                obtain ⟨v, h3, h4⟩ := ih
                exact ⟨v, h3, mk _ _ (fun _ h => h) h1 h4⟩
              | some R =>
                simp only [hR] at ih ⊢
                exact ⟨ih.1, fun v hv => mk _ _ (fun _ h => h) (h1.sub fun r hr => List.mem_cons_of_mem _ hr) (ih.2 v hv)⟩
            · rename_i hwi; rw [if_neg hwi] at ih; exact mk _ _ (fun _ h => h) h1 ih
          | some Rk =>
            simp only [hRk] at h
            have mk : ∀ rs v, RelAt P ops C Pre fresh rs k o a Rk → (∀ u, Rk.is_ u → wpLexL P ops C Pre Rt fresh pu Q (listed.setIfInBounds i true) (k + 1) (⟨k, u, Rk.holds u⟩ :: rs) rest ((a.put o.dst u).put oi.dst v)) → wpLexL P ops C Pre Rt fresh pu Q (listed.setIfInBounds i true) k rs (o :: rest) (a.put oi.dst v) := fun rs v hp h => by
              unfold wpLexL
              rw [if_neg hls, if_pos (by rw [hwK]; exact hw)]
              simp only [hRk]
              exact ⟨rlK hp, fun u hu => by rw [hcomm]; exact h u hu⟩
            have ih := fun u (hu0 : Rk.is_ u) => pull hun hil hC hPre hsel hoi hap hnd rest (k + 1) (⟨k, u, Rk.holds u⟩ :: rs) (a.put o.dst u) hl' hlt hik' (fun r hr hu => by
              rcases List.mem_cons.1 hr with e | hr
              · subst e; exact absurd hu (hnd k hlk')
              · exact hd r hr hu) (h.2 u hu0)
            obtain ⟨u0, hu0⟩ := h.1.1
            unfold Taken at ih ⊢
            simp only [hwI, hexI] at ih
            split
            · rename_i hwi
              simp only [if_pos hwi] at ih
              cases hR : Rt i with
              | none =>
                simp only [hR] at ih ⊢
                obtain ⟨v, h3, _⟩ := ih u0 hu0
                refine ⟨v, h3, mk _ _ h.1 fun u hu => ?_⟩
                obtain ⟨v', h3', h4'⟩ := ih u hu
                have e : v' = v := by
                  have := h3'.1.symm.trans h3.1
                  injection this with this _
                  injection this
                subst e
                exact h4'
              | some R =>
                simp only [hR] at ih ⊢
                exact ⟨(ih u0 hu0).1, fun v hv => mk _ _ (h.1.sub fun r hr => List.mem_cons_of_mem _ hr) fun u hu => wpLexL_sub rest _ _ _ _ (fun r hr => by
                  rcases List.mem_cons.1 hr with e | hr
                  · exact e ▸ List.mem_cons_of_mem _ List.mem_cons_self
                  · rcases List.mem_cons.1 hr with e | hr
                    · exact e ▸ List.mem_cons_self
                    · exact List.mem_cons_of_mem _ (List.mem_cons_of_mem _ hr)) ((ih u hu).2 v hv)⟩
            · rename_i hwi
              simp only [if_neg hwi] at ih
              exact mk _ _ h.1 ih
        · rw [if_neg hw] at h
          have mk : ∀ rs v, wpLexL P ops C Pre Rt fresh pu Q (listed.setIfInBounds i true) (k + 1) rs rest ((a.put o.dst undef).put oi.dst v) → wpLexL P ops C Pre Rt fresh pu Q (listed.setIfInBounds i true) k rs (o :: rest) (a.put oi.dst v) := fun rs v h => by
            unfold wpLexL
            rw [if_neg hls, if_neg (by rw [hwK]; exact hw), hcomm]
            exact h
          have ih := pull hun hil hC hPre hsel hoi hap hnd rest (k + 1) rs (a.put o.dst undef) hl' hlt hik' hd h
          unfold Taken at ih ⊢
          rw [hwI, hexI] at ih
          split
          · rename_i hwi
            rw [if_pos hwi] at ih
            cases hR : Rt i with
            | none =>
              simp only [hR] at ih ⊢
              obtain ⟨v, h3, h4⟩ := ih
              exact ⟨v, h3, mk _ _ h4⟩
            | some R =>
              simp only [hR] at ih ⊢
              exact ⟨ih.1, fun v hv => mk _ _ (ih.2 v hv)⟩
          · rename_i hwi; rw [if_neg hwi] at ih; exact mk _ _ ih
end
end Go.Proofs.Ytdplieimkphneaa
