/- gamal.Key, Share, Join: an element's power, a product of keys. -/
import Derived.Test.YtfoncfojljmimaaGrpExp
import Derived.Test.YtfoncfojljmimaaGrpProd
import Derived.Outline
set_option linter.unusedVariables false
set_option linter.unusedSimpArgs false
namespace Go.Proofs.Ytfoncfojljmimaa
open Go.RowKit NT
theorem key_any (P Q G H : Int) (ra : Option Addr) (rn rc : Nat) (x : Int) (P0 : 0 ≤ P) (Q0 : 0 ≤ Q) (Q1 : Q < 18446744073709551616) (G0 : 0 ≤ G) (x0 : 0 ≤ x) (x1 : x < 18446744073709551616) (w : World) :
    Calls Try.prog 16 #[.agg #[.int .u64 P, .int .u64 Q, .int .u64 G, .int .u64 H, .slice ra rn rc], .int .u64 x] w fun z w' => z = .returned (.int .u64 (expI Q P G x)) ∧ Same w w' := by
  obtain ⟨W, bx, eW, eb, hS, c0, c1, c2, c3, c4⟩ := par_box w P Q G H (.slice ra rn rc)
  have EW := Lib.hid eW
  have EB := Lib.hid eb
  clear eW eb
  go_enter Try.func16, Try.ntmps16
  go_upto_region 1 with fail
  rw [EW.out, EB.out]
  go_wp2_with fail
  refine (exp_any P Q G H ra rn rc G x P0 Q0 Q1 G0 x0 x1 _).mono ?_
  rintro e1 w1 ⟨rfl, hS1⟩
  go_wp2_with fail
  go_ret
  exact ⟨rfl, hS.trans hS1⟩
theorem join_any (P Q G H : Int) (ra : Option Addr) (rn rc : Nat) (a : Option Addr) (n cap : Nat) (xs : List Int) (P0 : 0 ≤ P) (w : World) (h : IntsAt w a n xs) :
    Calls Try.prog 15 #[.agg #[.int .u64 P, .int .u64 Q, .int .u64 G, .int .u64 H, .slice ra rn rc], .slice a n cap] w fun z w' => z = .returned (.int .u64 (prodI P xs)) ∧ Same w w' := by
  obtain ⟨W, bx, eW, eb, hS, c0, c1, c2, c3, c4⟩ := par_box w P Q G H (.slice ra rn rc)
  have EW := Lib.hid eW
  have EB := Lib.hid eb
  clear eW eb
  go_enter Try.func15, Try.ntmps15
  go_upto_region 1 with fail
  rw [EW.out, EB.out]
  go_wp2_with fail
  refine (prod_any P Q G H ra rn rc a n cap xs P0 _ (h.same hS)).mono ?_
  rintro e1 w1 ⟨rfl, hS1⟩
  go_wp2_with fail
  go_ret
  exact ⟨rfl, hS.trans hS1⟩
end Go.Proofs.Ytfoncfojljmimaa
