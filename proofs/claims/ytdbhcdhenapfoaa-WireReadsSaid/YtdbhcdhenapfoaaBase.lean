/- Small words for the walks: a world that only draws away from another; returns; quiet calls. -/
import Derived.WalkKit
import Derived.Lib.Hide
import Derived.Deep.QuietTactic
import Derived.BigQuiet
import Derived.Deep.DeepCutAuto
import Derived.Deep.CutBlock
import Derived.WalkLawsBesides
import Derived.Below
set_option linter.unusedVariables false
set_option linter.unusedSimpArgs false
namespace Go.Proofs.Ytdbhcdhenapfoaa
open Go.RowKit
/-- the world is the old one, some orders having been drawn -/
structure Drawn (w w' : World) : Prop where
  out : ∃ n, w' = w.drewN n
theorem Drawn.refl (w : World) : Drawn w w := ⟨⟨0, rfl⟩⟩
theorem Drawn.of (w : World) (n : Nat) : Drawn w (w.drewN n) := ⟨⟨n, rfl⟩⟩
theorem Drawn.trans {w w1 w2 : World} (h : Drawn w w1) (k : Drawn w1 w2) : Drawn w w2 := by
  obtain ⟨n, rfl⟩ := h.out
  obtain ⟨m, rfl⟩ := k.out
  exact ⟨⟨n + m, World.drewN_drewN ..⟩⟩
theorem Drawn.drewN {w w1 : World} (h : Drawn w w1) (n : Nat) : Drawn w (w1.drewN n) := h.trans (Drawn.of _ _)
theorem Drawn.below {w w' : World} (h : Drawn w w') : Below w.heap.size w w' := by
  obtain ⟨n, hn⟩ := h.out
  subst hn
  clear h
  induction n with
  | zero => exact Below.refl _ _
  | succ n ih => rw [← World.drew_drewN]; exact ih.drew
theorem Drawn.cell {w w' : World} (h : Drawn w w') (a : Addr) : w'.cell? a = w.cell? a := by
  obtain ⟨n, rfl⟩ := h.out
  simp
theorem ret_int {k : IntKind} {a b : Int} (h : a = b) : Ending.returned (.int k a) = .returned (.int k b) := by rw [h]
theorem ret_bool {a b : Bool} (h : a = b) : Ending.returned (.bool a) = .returned (.bool b) := by rw [h]
theorem ret_two {k l : IntKind} {a b c d : Int} (h1 : a = c) (h2 : b = d) : Ending.returned (.tuple #[.int k a, .int l b]) = Ending.returned (.tuple #[.int k c, .int l d]) := by rw [h1, h2]
theorem ret_int_bool {k : IntKind} {a c : Int} {b d : Bool} (h1 : a = c) (h2 : b = d) : Ending.returned (.tuple #[.int k a, .bool b]) = Ending.returned (.tuple #[.int k c, .bool d]) := by rw [h1, h2]
theorem quiet_drawn {P : Program} {f : FuncId} {args : Array Value} {w : World} {n : Nat} {v : Value}
    (h : Calls P f args (w.drewN n) fun e w' => e = .returned v ∧ Drawn (w.drewN n) w') : Calls P f args (w.drewN n) fun e w'' => e = .returned v ∧ ∃ m, w'' = w.drewN m :=
  h.mono fun _ _ ⟨he, ⟨m, hm⟩⟩ => ⟨he, n + m, by rw [hm, World.drewN_drewN]⟩
theorem quiet_same {P : Program} {f : FuncId} {args : Array Value} {w : World} {n : Nat} {v : Value}
    (h : Calls P f args (w.drewN n) fun e w' => e = .returned v ∧ w.drewN n = w') : Calls P f args (w.drewN n) fun e w'' => e = .returned v ∧ ∃ m, w'' = w.drewN m :=
  h.mono fun _ _ ⟨he, hm⟩ => ⟨he, n, hm.symm⟩
end Go.Proofs.Ytdbhcdhenapfoaa
