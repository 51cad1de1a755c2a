/- Lay and Back as whole numbers: plain Lean, no program in it. -/
import Derived.Test.YtdinemhodnleeaaGrpS
set_option linter.unusedVariables false
set_option linter.unusedSimpArgs false
namespace Go.Proofs.Ytdinemhodnleeaa
open NT
noncomputable def layV (P Q k : Int) : Int := if k < Q then (if inB P Q (k + 1) then k + 1 else P - (k + 1)) else 0
noncomputable def backV (P Q x : Int) : Int := if inB P Q x then (if x ≤ Q then x - 1 else P - x - 1) else 0
theorem layV_no {P Q k : Int} (h : ¬ k < Q) : layV P Q k = 0 := by unfold layV; rw [if_neg h]
theorem layV_in {P Q k : Int} (h : k < Q) (hi : InP P Q (k + 1)) : layV P Q k = k + 1 := by unfold layV; rw [if_pos h, inB_yes hi]; rfl
theorem layV_out {P Q k : Int} (h : k < Q) (hi : ¬ InP P Q (k + 1)) : layV P Q k = P - (k + 1) := by unfold layV; rw [if_pos h, inB_no hi]; rfl
theorem backV_no {P Q x : Int} (h : ¬ InP P Q x) : backV P Q x = 0 := by unfold backV; rw [inB_no h]; rfl
theorem backV_low {P Q x : Int} (h : InP P Q x) (hx : x ≤ Q) : backV P Q x = x - 1 := by unfold backV; rw [inB_yes h, if_pos rfl, if_pos hx]
theorem backV_high {P Q x : Int} (h : InP P Q x) (hx : ¬ x ≤ Q) : backV P Q x = P - x - 1 := by unfold backV; rw [inB_yes h, if_pos rfl, if_neg hx]
end Go.Proofs.Ytdinemhodnleeaa
