/- spandrel/spandrelref04.Exp computes the power of an element. -/
import Derived.Test.YtfoncfojljmimaaGrpB
import Derived.Test.YtfoncfojljmimaaRefPow
set_option linter.unusedVariables false
set_option linter.unusedSimpArgs false
namespace Go.Proofs.Ytfoncfojljmimaa
open Go.RowKit NT
theorem rexp_any (P Q G H : Int) (ra : Option Addr) (rn rc : Nat) (x e : Int) (P0 : 0 ≤ P) (Q0 : 0 ≤ Q) (Q1 : Q < 18446744073709551616) (x0 : 0 ≤ x) (e0 : 0 ≤ e) (e1 : e < 18446744073709551616) (w : World) :
    Calls Try.prog 37 #[.agg #[.int .u64 P, .int .u64 Q, .int .u64 G, .int .u64 H, .slice ra rn rc], .int .u64 x, .int .u64 e] w fun z w' => z = .returned (.int .u64 (expI Q P x e)) ∧ Same w w' := by
  obtain ⟨W, bx, eW, eb, hS, c0, c1, c2, c3, c4⟩ := par_box w P Q G H (.slice ra rn rc)
  have EW := Lib.hid eW
  have EB := Lib.hid eb
  clear eW eb
  by_cases hq : Q < 2
  · have d1 : decide (Q < 2) = true := decide_eq_true hq
    have hv : expI Q P x e = 0 := by unfold expI; rw [if_pos hq]
    have HV := Lib.hid hv
    clear hv
    go_enter Try.func37, Try.ntmps37
    go_upto_region 1 with fail
    rw [EW.out, EB.out]
    go_wp2_with fail
    go_ret
    exact ⟨ret_int HV.out.symm, hS⟩
  · have d1 : decide (Q < 2) = false := decide_eq_false hq
    have z0 : ¬ Q = 0 := by omega
    have r1 := Int.emod_nonneg e (show Q ≠ 0 by omega)
    have r2 := Int.emod_lt_of_pos e (show 0 < Q by omega)
    obtain ⟨z, hz⟩ : ∃ z, e % Q = z := ⟨_, rfl⟩
    rw [hz] at r1 r2
    have et : e.tmod Q = z := by rw [← hz]; exact Int.tmod_eq_emod_of_nonneg e0
    have hcall : ∀ W, Calls Try.prog 41 #[.int .u64 x, .int .u64 z, .int .u64 P] W fun z' w' => z' = .returned (.int .u64 (expI Q P x e)) ∧ Drawn W w' := fun W => by
      unfold expI; rw [if_neg hq, hz]; exact rpow_any x z P x0 r1 (by omega) P0 W
    have HC := Lib.hid hcall
    clear hcall hz
    go_enter Try.func37, Try.ntmps37
    go_upto_region 1 with fail
    rw [EW.out, EB.out]
    go_wp2_with fail
    go_quiet ((go_at_call 41; exact quiet_drawn (HC.out _)))
    go_wp2_with fail
    go_ret
    exact ⟨rfl, hS.drewN _⟩
end Go.Proofs.Ytfoncfojljmimaa
