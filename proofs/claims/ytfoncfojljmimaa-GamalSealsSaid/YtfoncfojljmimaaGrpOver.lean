/- spandrel/group.Over computes the quotient of two elements. -/
import Derived.Test.YtfoncfojljmimaaGrpB
import Derived.Test.YtfoncfojljmimaaModInv
import Derived.Test.YtfoncfojljmimaaModMul
set_option linter.unusedVariables false
set_option linter.unusedSimpArgs false
namespace Go.Proofs.Ytfoncfojljmimaa
open Go.RowKit NT
theorem over_any (P Q G H : Int) (ra : Option Addr) (rn rc : Nat) (x y : Int) (P0 : 0 ≤ P) (x0 : 0 ≤ x) (y0 : 0 ≤ y) (w : World) :
    Calls Try.prog 34 #[.agg #[.int .u64 P, .int .u64 Q, .int .u64 G, .int .u64 H, .slice ra rn rc], .int .u64 x, .int .u64 y] w fun z w' => z = .returned (.int .u64 (overI P x y)) ∧ Same w w' := by
  obtain ⟨W, bx, eW, eb, hS, c0, c1, c2, c3, c4⟩ := par_box w P Q G H (.slice ra rn rc)
  have EW := Lib.hid eW
  have EB := Lib.hid eb
  have hi := invI_u y P
  obtain ⟨v, hv⟩ : ∃ v, (invS y.toNat P.toNat : Int) = v := ⟨_, rfl⟩
  have hv0 : 0 ≤ v := by rw [← hv]; omega
  have HV := Lib.hid hv
  clear eW eb hi hv
  go_enter Try.func34, Try.ntmps34
  go_upto_region 1 with fail
  rw [EW.out, EB.out]
  go_wp2_with fail
  refine (inv_any y P y0 P0 _).mono ?_
  rintro e1 w1 ⟨rfl, hD1⟩
  rw [HV.out]
  have c0' := same_cell hD1.below c0
  clear c0 c1 c2 c3 c4
  go_wp2_with fail
  refine (mul_any x v P x0 hv0 P0 _).mono ?_
  rintro e1 w2 ⟨rfl, hD2⟩
  go_wp2_with fail
  go_ret
  exact ⟨ret_int (by unfold overI mulI invI; rw [HV.out]), (hS.drawn hD1).drawn hD2⟩
end Go.Proofs.Ytfoncfojljmimaa
