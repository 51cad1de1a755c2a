/- Layer 10: the document's reader, in plain words: what is left, or nothing any more. -/
import Derived.Test.YtdbhcdhenapfoaaLaw10P
set_option linter.unusedVariables false
set_option linter.unusedSimpArgs false
namespace Go.Proofs.Ytdbhcdhenapfoaa
open Go.RowKit Go.Maps
/-- a step of a reader: it has read x and has o1 left; or there was nothing to read, and it has nothing any more -/
def Step {α : Type} (p : Bs → Option (α × Bs)) (o : Option Bs) (x : α) (o1 : Option Bs) : Prop := (∃ r, o.bind p = some (x, r) ∧ o1 = some r) ∨ (o.bind p = none ∧ o1 = none)
theorem bind_of {α : Type} {p : Bs → Option α} {o : Option Bs} {y : α} (h : o.bind p = some y) : ∃ l, o = some l ∧ p l = some y := by
  cases o with
  | none => cases h
  | some l => exact ⟨l, rfl, h⟩
theorem Step.pair {α β : Type} {A : Cod α} {B : Cod β} {o o1 o2 : Option Bs} {x : α} {y : β} (h : Step A.par o x o1) (k : Step B.par o1 y o2) : Step (pairC A B).par o (x, y) o2 := by
  rcases h with ⟨r, e, rfl⟩ | ⟨e, rfl⟩
  · obtain ⟨l, rfl, e⟩ := bind_of e
    rcases k with ⟨s, e2, rfl⟩ | ⟨e2, rfl⟩
    · exact Or.inl ⟨s, pairC_some e e2, rfl⟩
    · exact Or.inr ⟨pairC_none2 e e2, rfl⟩
  · rcases k with ⟨s, e2, rfl⟩ | ⟨e2, rfl⟩
    · cases e2
    · refine Or.inr ⟨?_, rfl⟩
      cases o with
      | none => rfl
      | some l => exact pairC_none1 e
/-- i of n have been read -/
def Loop {α : Type} (A : Cod α) (o : Option Bs) (n i : Nat) (xs : List α) (o1 : Option Bs) : Prop := (∃ l r, o = some l ∧ many A i l = some (xs, r) ∧ o1 = some r) ∨ (o1 = none ∧ o.bind (many A n) = none)
theorem Loop.start {α : Type} (A : Cod α) (o : Option Bs) (n : Nat) : Loop A o n 0 [] o := by
  cases o with
  | none => exact Or.inr ⟨rfl, rfl⟩
  | some l => exact Or.inl ⟨l, l, rfl, rfl, rfl⟩
theorem Loop.next {α : Type} {A : Cod α} {o o1 o2 : Option Bs} {n i : Nat} {xs : List α} {x : α} (h : Loop A o n i xs o1) (hi : i < n) (k : Step A.par o1 x o2) : Loop A o n (i + 1) (xs ++ [x]) o2 := by
  rcases h with ⟨l, r, rfl, hm, rfl⟩ | ⟨rfl, hf⟩
  · rcases k with ⟨s, e2, rfl⟩ | ⟨e2, rfl⟩
    · exact Or.inl ⟨l, s, rfl, many_next A hm e2, rfl⟩
    · exact Or.inr ⟨rfl, many_stop A hm e2 n hi⟩
  · rcases k with ⟨s, e2, rfl⟩ | ⟨e2, rfl⟩
    · cases e2
    · exact Or.inr ⟨rfl, hf⟩
theorem Loop.fixed {α : Type} {A : Cod α} {o o1 : Option Bs} {n : Nat} {xs : List α} (h : Loop A o n n xs o1) : Step (fixC n A).par o xs o1 := by
  rcases h with ⟨l, r, rfl, hm, rfl⟩ | ⟨rfl, hf⟩
  · exact Or.inl ⟨r, hm, rfl⟩
  · exact Or.inr ⟨hf, rfl⟩
theorem Loop.listed {α : Type} {A : Cod α} {o o1 o2 : Option Bs} {m n i : Nat} {xs : List α} (hc : Step (parC m) o n o1) (h : Loop A o1 n i xs o2) (hi : o2 = none ∨ i = n) : Step (listC m A).par o xs o2 := by
  rcases hc with ⟨r1, e, rfl⟩ | ⟨e, rfl⟩
  · obtain ⟨l, rfl, e⟩ := bind_of e
    rcases h with ⟨l2, r, e2, hm, rfl⟩ | ⟨rfl, hf⟩
    · obtain rfl := Option.some.inj e2
      rcases hi with hi | rfl
      · cases hi
      · exact Or.inl ⟨r, (listC_go e).trans hm, rfl⟩
    · exact Or.inr ⟨(listC_go e).trans hf, rfl⟩
  · rcases h with ⟨l2, r, e2, hm, rfl⟩ | ⟨rfl, hf⟩
    · cases e2
    · refine Or.inr ⟨?_, rfl⟩
      cases o with
      | none => rfl
      | some l => exact listC_none0 e
/-- behind a byte -/
def beg (k : UInt8) : Bs → Option Bs
  | [] => none
  | b :: r => if b = k then some r else none
theorem rd_beg {α : Type} {k : UInt8} {C : Cod α} (l : Bs) : rd k C l = match (beg k l).bind C.par with | some (x, []) => some x | _ => none := by
  cases l with
  | nil => rfl
  | cons b r =>
    simp only [rd, beg]
    by_cases hb : b = k
    · rw [if_pos hb, if_pos hb]; rfl
    · rw [if_neg hb, if_neg hb]; rfl
def isEnd : Option Bs → Bool
  | some [] => true
  | _ => false
theorem rd_yes {α : Type} {k : UInt8} {C : Cod α} {l : Bs} {x : α} {o : Option Bs} (h : Step C.par (beg k l) x o) (he : isEnd o = true) : rd k C l = some x := by
  rw [rd_beg]
  rcases h with ⟨r, e, rfl⟩ | ⟨e, rfl⟩
  · rw [e]
    cases r with
    | nil => rfl
    | cons b r => cases he
  · cases he
theorem rd_no {α : Type} {k : UInt8} {C : Cod α} {l : Bs} {x : α} {o : Option Bs} (h : Step C.par (beg k l) x o) (he : isEnd o = false) : rd k C l = none := by
  rw [rd_beg]
  rcases h with ⟨r, e, rfl⟩ | ⟨e, rfl⟩
  · rw [e]
    cases r with
    | nil => cases he
    | cons b r => rfl
  · rw [e]
end Go.Proofs.Ytdbhcdhenapfoaa
