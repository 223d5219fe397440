/- What is owned, exchanged and added: the steps that write, over data. No statement of the program. -/
import Derived.Test.YtnnigbnlhhikjaaDoorEf
import Derived.Laws.IdiomCopy
namespace Go.Proofs.YtnnigbnlhhikjaaDoor
open Go.RowKit
set_option linter.unusedSimpArgs false
set_option linter.unusedVariables false
set_option linter.unusedSectionVars false

theorem val_congr {P : Program} (o : Oper) (f f' : Operand → V) (h : ∀ x, x ∈ o.op.operands → f x = f' x) : val P o f = val P o f' ∧ (side P o f → side P o f') := by
  have hl : ∀ (parts : Array (Nat × Operand)), (∀ p, p ∈ parts → f p.2 = f' p.2) → (parts.toList.map fun (i, x) => (i, f x)) = (parts.toList.map fun (i, x) => (i, f' x)) := fun parts hp =>
    List.map_congr_left fun p hp' => by
      obtain ⟨i, x⟩ := p
      simp only
      rw [hp (i, x) (by simpa using hp')]
  have ha : ∀ (l : Array Operand), (∀ p, p ∈ l → f p = f' p) → l.toList.map f = l.toList.map f' := fun l hp => List.map_congr_left fun p hp' => hp p (by simpa using hp')
  unfold val side
  cases hop : o.op with
  | move x => simp only; rw [h x (by simp [hop, Op.operands])]; exact ⟨rfl, id⟩
  | assign x => simp only; rw [h x (by simp [hop, Op.operands])]; exact ⟨rfl, id⟩
  | pick c a b => simp only; rw [h c (by simp [hop, Op.operands]), h a (by simp [hop, Op.operands]), h b (by simp [hop, Op.operands])]; exact ⟨rfl, id⟩
  | binOp op t x y z => simp only; rw [h x (by simp [hop, Op.operands]), h y (by simp [hop, Op.operands])]; exact ⟨rfl, id⟩
  | unOp op t x => simp only; rw [h x (by simp [hop, Op.operands])]; exact ⟨rfl, id⟩
  | convert s d x => simp only; rw [h x (by simp [hop, Op.operands])]; exact ⟨rfl, id⟩
  | nilCheck x => simp only; rw [h x (by simp [hop, Op.operands])]; exact ⟨rfl, id⟩
  | load t x => simp only; rw [h x (by simp [hop, Op.operands])]; exact ⟨rfl, id⟩
  | fieldAddr s x i => simp only; rw [h x (by simp [hop, Op.operands])]; exact ⟨rfl, id⟩
  | field s x i => simp only; rw [h x (by simp [hop, Op.operands])]; exact ⟨rfl, id⟩
  | indexAddr t x i => simp only; rw [h x (by simp [hop, Op.operands]), h i (by simp [hop, Op.operands])]; exact ⟨rfl, id⟩
  | index t x i => simp only; rw [h x (by simp [hop, Op.operands]), h i (by simp [hop, Op.operands])]; exact ⟨rfl, id⟩
  | extract x i => simp only; rw [h x (by simp [hop, Op.operands])]; exact ⟨rfl, id⟩
  | box t x => simp only; rw [h x (by simp [hop, Op.operands])]; exact ⟨rfl, id⟩
  | build t parts =>
    simp only
    rw [hl parts fun p hp => h p.2 (by simp only [hop, Op.operands, List.mem_toArray, List.mem_map, Array.mem_toList_iff]; exact ⟨p, hp, rfl⟩)]
    exact ⟨rfl, id⟩
  | buildSlice t n parts =>
    simp only
    rw [hl parts fun p hp => h p.2 (by simp only [hop, Op.operands, List.mem_toArray, List.mem_map, Array.mem_toList_iff]; exact ⟨p, hp, rfl⟩)]
    exact ⟨rfl, id⟩
  | makeFunc fn first cap =>
    simp only
    rw [ha first fun p hp => h p (by simp [hop, Op.operands, hp]), ha cap fun p hp => h p (by simp [hop, Op.operands, hp])]
    exact ⟨rfl, id⟩
  | slice t x lo hi mx =>
    cases mx with
    | some m => exact ⟨rfl, id⟩
    | none =>
      simp only
      have hx := h x (by simp [hop, Op.operands])
      have hlo : lo.map f = lo.map f' := by cases lo with | none => rfl | some y => simp only [Option.map_some]; rw [h y (by simp [hop, Op.operands])]
      have hhi : hi.map f = hi.map f' := by cases hi with | none => rfl | some y => simp only [Option.map_some]; rw [h y (by simp [hop, Op.operands])]
      rw [hx, hlo, hhi]
      exact ⟨rfl, id⟩
  | call c =>
    obtain ⟨callee, args, argTypes⟩ := c
    cases callee with
    | builtin b =>
      have two : ∀ (args : Array Operand) (G : V → V → V) (G' : V → V → Prop), (∀ x, x ∈ args → f x = f' x) →
          (match args.toList with | [x, y] => G (f x) (f y) | _ => .any) = (match args.toList with | [x, y] => G (f' x) (f' y) | _ => V.any) ∧ ((match args.toList with | [x, y] => G' (f x) (f y) | _ => False) → (match args.toList with | [x, y] => G' (f' x) (f' y) | _ => False)) := fun args G G' h => by
        obtain ⟨args⟩ := args
        match args with
        | [x, y] => simp only; rw [h x (by simp), h y (by simp)]; exact ⟨rfl, id⟩
        | [] => exact ⟨rfl, id⟩
        | [_] => exact ⟨rfl, id⟩
        | _ :: _ :: _ :: _ => exact ⟨rfl, id⟩
      cases b <;> first | exact ⟨rfl, id⟩ | skip
      case max => exact two args (mmV true) mmS fun x hx => h x (by simp [hop, Op.operands, Call.operands, hx])
      case min => exact two args (mmV false) mmS fun x hx => h x (by simp [hop, Op.operands, Call.operands, hx])
      simp only
      obtain ⟨args⟩ := args
      obtain ⟨argTypes⟩ := argTypes
      match args, argTypes with
      | [x], [T] => simp only; rw [h x (by simp [hop, Op.operands, Call.operands])]; exact ⟨rfl, id⟩
      | [], _ => exact ⟨rfl, id⟩
      | _ :: _ :: _, _ => exact ⟨rfl, id⟩
      | [_], [] => exact ⟨rfl, id⟩
      | [_], _ :: _ :: _ => exact ⟨rfl, id⟩
    | _ => exact ⟨rfl, id⟩
  | _ => exact ⟨rfl, id⟩
end Go.Proofs.YtnnigbnlhhikjaaDoor
