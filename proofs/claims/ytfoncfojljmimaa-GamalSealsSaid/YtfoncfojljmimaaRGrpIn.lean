/- spandrel/spandrelref04.In: is it an element? -/
import Derived.Test.YtfoncfojljmimaaGrpB
import Derived.Test.YtfoncfojljmimaaRefPow
set_option linter.unusedVariables false
set_option linter.unusedSimpArgs false
namespace Go.Proofs.Ytfoncfojljmimaa
open Go.RowKit NT
theorem rin_any (P Q G H : Int) (ra : Option Addr) (rn rc : Nat) (x : Int) (P0 : 0 ≤ P) (Q0 : 0 ≤ Q) (Q1 : Q < 18446744073709551616) (x0 : 0 ≤ x) (w : World) :
    Calls Try.prog 33 #[.agg #[.int .u64 P, .int .u64 Q, .int .u64 G, .int .u64 H, .slice ra rn rc], .int .u64 x] w fun z w' => z = .returned (.bool (inB P Q x)) ∧ Same w w' := by
  obtain ⟨W, bx, eW, eb, hS, c0, c1, c2, c3, c4⟩ := par_box w P Q G H (.slice ra rn rc)
  have EW := Lib.hid eW
  have EB := Lib.hid eb
  clear eW eb
  obtain ⟨v, hv⟩ : ∃ v, (powS x.toNat Q.toNat P.toNat : Int) = v := ⟨_, rfl⟩
  have HV := Lib.hid hv
  have hin : InP P Q x ↔ 0 < x ∧ x < P ∧ v = 1 := by unfold InP powI; rw [hv]
  have HI := Lib.hid hin
  clear hv hin
  by_cases g1 : 0 < x
  case neg =>
    have hb := inB_no (p := P) (q := Q) (x := x) (fun h => g1 h.1)
    have HB := Lib.hid hb
    have d1 : decide (1 ≤ x) = false := decide_eq_false (by omega)
    clear hb
    go_enter Try.func33, Try.ntmps33
    go_upto_region 1 with fail
    rw [EW.out, EB.out]
    go_wp2_with fail
    go_ret
    exact ⟨ret_bool HB.out.symm, hS⟩
  have d1 : decide (1 ≤ x) = true := decide_eq_true (by omega)
  by_cases g2 : x < P
  case neg =>
    have hb := inB_no (p := P) (q := Q) (x := x) (fun h => g2 h.2.1)
    have HB := Lib.hid hb
    have d2 : decide (x < P) = false := decide_eq_false g2
    clear hb
    go_enter Try.func33, Try.ntmps33
    go_upto_region 1 with fail
    rw [EW.out, EB.out]
    go_wp2_with fail
    go_ret
    exact ⟨ret_bool HB.out.symm, hS⟩
  have d2 : decide (x < P) = true := decide_eq_true g2
  have hb : inB P Q x = (v == 1) := by
    by_cases h : v = 1
    · rw [inB_yes (HI.out.2 ⟨g1, g2, h⟩), h]; rfl
    · rw [inB_no (fun x => h (HI.out.1 x).2.2), show (v == 1) = false from beq_eq_false_iff_ne.2 h]
  have HB := Lib.hid hb
  clear hb
  go_enter Try.func33, Try.ntmps33
  go_upto_region 1 with fail
  rw [EW.out, EB.out]
  go_wp2_with fail
  refine (rpow_any x Q P x0 Q0 Q1 P0 _).mono ?_
  rintro e1 w1 ⟨rfl, hD1⟩
  rw [HV.out]
  go_wp2_with fail
  go_ret
  exact ⟨ret_bool (by rw [HB.out]), hS.drawn hD1⟩
end Go.Proofs.Ytfoncfojljmimaa
