/- spandrel/spandrelref04: Lay and Back. -/
import Derived.Test.YtdinemhodnleeaaLayS
import Derived.Handy
import Derived.Test.YtdinemhodnleeaaRGrpIn
set_option linter.unusedVariables false
set_option linter.unusedSimpArgs false
namespace Go.Proofs.Ytdinemhodnleeaa
open Go.RowKit NT
theorem rlay_any (P Q G H : Int) (ra : Option Addr) (rn rc : Nat) (k : Int) (hP : P = 2 * Q + 1) (hQ : 5 ≤ Q) (hQ1 : Q < 2305843009213693952) (hk : U64 k) (w : World) :
    Calls Try.prog 13 #[.agg #[.int .u64 P, .int .u64 Q, .int .u64 G, .int .u64 H, .slice ra rn rc], .int .u64 k] w fun z w' => z = .returned (.tuple #[.int .u64 (layV P Q k), .bool (decide (k < Q))]) ∧ Same w w' := by
  obtain ⟨W, bx, eW, eb, hS, c0, c1, c2, c3, c4⟩ := par_box w P Q G H (.slice ra rn rc)
  have EW := Lib.hid eW
  have EB := Lib.hid eb
  clear eW eb
  obtain ⟨k0, k1⟩ := hk
  have P0 : 0 ≤ P := by omega
  have Q0 : 0 ≤ Q := by omega
  have Q1 : Q < 18446744073709551616 := by omega
  have P1 : P < 18446744073709551616 := by omega
  have QP : Q + Q < P := by omega
  have QP2 : P ≤ Q + Q + 1 := by omega
  have HP := Lib.hid hP
  clear hP
  by_cases g1 : k < Q
  case neg =>
    have hb := layV_no (P := P) g1
    have HB := Lib.hid hb
    have d1 : decide (Q ≤ k) = true := decide_eq_true (by omega)
    have d2 : decide (k < Q) = false := decide_eq_false g1
    clear hb
    go_enter Try.func13, Try.ntmps13
    go_upto_region 1 with fail
    rw [EW.out, EB.out]
    go_wp2_with fail
    go_ret2
    exact ⟨ret_int_bool HB.out.symm (by first | exact d2.symm | rfl), hS⟩
  have d1 : decide (Q ≤ k) = false := decide_eq_false (by omega)
  have d2 : decide (k < Q) = true := decide_eq_true g1
  by_cases hi : InP P Q (k + 1)
  · have hb := layV_in g1 hi
    have HB := Lib.hid hb
    have hc := inB_yes hi
    have HC := Lib.hid hc
    clear hb hc hi
    go_enter Try.func13, Try.ntmps13
    go_upto_region 1 with fail
    rw [EW.out, EB.out]
    go_wp2_with fail
    refine (rin_any P Q G H ra rn rc (k + 1) P0 Q0 Q1 (by omega) _).mono ?_
    rintro e1 w1 ⟨rfl, hT1⟩
    rw [HC.out]
    have c0' := same_cell hT1 c0
    go_wp2_with fail
    go_ret2
    exact ⟨ret_int_bool HB.out.symm (by first | exact d2.symm | rfl), hS.trans hT1⟩
  · have hb := layV_out g1 hi
    have HB := Lib.hid hb
    have hc := inB_no hi
    have HC := Lib.hid hc
    clear hb hc hi
    go_enter Try.func13, Try.ntmps13
    go_upto_region 1 with fail
    rw [EW.out, EB.out]
    go_wp2_with fail
    refine (rin_any P Q G H ra rn rc (k + 1) P0 Q0 Q1 (by omega) _).mono ?_
    rintro e1 w1 ⟨rfl, hT1⟩
    rw [HC.out]
    have c0' := same_cell hT1 c0
    go_wp2_with fail
    go_ret2
    exact ⟨ret_int_bool (by rw [HB.out]; omega) (by first | exact d2.symm | rfl), hS.trans hT1⟩
theorem rback_any (P Q G H : Int) (ra : Option Addr) (rn rc : Nat) (x : Int) (hP : P = 2 * Q + 1) (hQ : 5 ≤ Q) (hQ1 : Q < 2305843009213693952) (hx : U64 x) (w : World) :
    Calls Try.prog 15 #[.agg #[.int .u64 P, .int .u64 Q, .int .u64 G, .int .u64 H, .slice ra rn rc], .int .u64 x] w fun z w' => z = .returned (.tuple #[.int .u64 (backV P Q x), .bool (inB P Q x)]) ∧ Same w w' := by
  obtain ⟨W, bx, eW, eb, hS, c0, c1, c2, c3, c4⟩ := par_box w P Q G H (.slice ra rn rc)
  have EW := Lib.hid eW
  have EB := Lib.hid eb
  clear eW eb
  obtain ⟨x0, x1⟩ := hx
  have P0 : 0 ≤ P := by omega
  have Q0 : 0 ≤ Q := by omega
  have Q1 : Q < 18446744073709551616 := by omega
  have P1 : P < 18446744073709551616 := by omega
  have QP : Q + Q < P := by omega
  have QP2 : P ≤ Q + Q + 1 := by omega
  have HP := Lib.hid hP
  clear hP
  by_cases hi : InP P Q x
  case neg =>
    have hb := backV_no hi
    have HB := Lib.hid hb
    have hc := inB_no hi
    have HC := Lib.hid hc
    clear hb hc hi
    go_enter Try.func15, Try.ntmps15
    go_upto_region 1 with fail
    rw [EW.out, EB.out]
    go_wp2_with fail
    refine (rin_any P Q G H ra rn rc x P0 Q0 Q1 x0 _).mono ?_
    rintro e1 w1 ⟨rfl, hT1⟩
    rw [HC.out]
    go_wp2_with fail
    go_ret2
    exact ⟨ret_int_bool HB.out.symm HC.out.symm, hS.trans hT1⟩
  have hi1 := hi.1
  have hi2 := hi.2.1
  by_cases hq : x ≤ Q
  · have hb := backV_low hi hq
    have HB := Lib.hid hb
    have hc := inB_yes hi
    have HC := Lib.hid hc
    clear hb hc hi
    go_enter Try.func15, Try.ntmps15
    go_upto_region 1 with fail
    rw [EW.out, EB.out]
    go_wp2_with fail
    refine (rin_any P Q G H ra rn rc x P0 Q0 Q1 x0 _).mono ?_
    rintro e1 w1 ⟨rfl, hT1⟩
    rw [HC.out]
    have c0' := same_cell hT1 c0
    have c1' := same_cell hT1 c1
    have d1 : decide (x ≤ Q) = true := decide_eq_true hq
    skip
    go_wp2_with fail
    go_ret2
    exact ⟨ret_int_bool HB.out.symm HC.out.symm, hS.trans hT1⟩
  · have hb := backV_high hi hq
    have HB := Lib.hid hb
    have hc := inB_yes hi
    have HC := Lib.hid hc
    clear hb hc hi
    go_enter Try.func15, Try.ntmps15
    go_upto_region 1 with fail
    rw [EW.out, EB.out]
    go_wp2_with fail
    refine (rin_any P Q G H ra rn rc x P0 Q0 Q1 x0 _).mono ?_
    rintro e1 w1 ⟨rfl, hT1⟩
    rw [HC.out]
    have c0' := same_cell hT1 c0
    have c1' := same_cell hT1 c1
    have d1 : decide (x ≤ Q) = false := decide_eq_false (by omega)
    skip
    go_wp2_with fail
    go_ret2
    exact ⟨ret_int_bool HB.out.symm HC.out.symm, hS.trans hT1⟩
end Go.Proofs.Ytdinemhodnleeaa
