/- The law's all: are these elements? -/
import Derived.Test.YtfoncfojljmimaaPairS
import Derived.Test.YtfoncfojljmimaaRGrpIn
set_option linter.unusedVariables false
set_option linter.unusedSimpArgs false
namespace Go.Proofs.Ytfoncfojljmimaa
open Go.RowKit NT
def AllE (P Q : Int) (xs : List Int) : Prop := ∀ x ∈ xs, InP P Q x
noncomputable def allB (P Q : Int) (xs : List Int) : Bool := open Classical in decide (AllE P Q xs)
theorem allB_yes {P Q : Int} {xs : List Int} (h : AllE P Q xs) : allB P Q xs = true := by unfold allB; classical exact decide_eq_true h
theorem allB_no {P Q : Int} {xs : List Int} (h : ¬ AllE P Q xs) : allB P Q xs = false := by unfold allB; classical exact decide_eq_false h
theorem allB_iff {P Q : Int} {xs : List Int} : allB P Q xs = true ↔ AllE P Q xs := by unfold allB; classical exact decide_eq_true_iff
theorem all_any (P Q G H : Int) (ra : Option Addr) (rn rc : Nat) (a : Option Addr) (n cap : Nat) (xs : List Int) (P0 : 0 ≤ P) (Q0 : 0 ≤ Q) (Q1 : Q < 18446744073709551616) (w : World) (h : IntsAt w a n xs) :
    Calls Try.prog 11 #[.agg #[.int .u64 P, .int .u64 Q, .int .u64 G, .int .u64 H, .slice ra rn rc], .slice a n cap] w fun z w' => z = .returned (.bool (allB P Q xs)) ∧ Same w w' := by
  obtain ⟨W, bx, eW, eb, hS, c0, c1, c2, c3, c4⟩ := par_box w P Q G H (.slice ra rn rc)
  have EW := Lib.hid eW
  have EB := Lib.hid eb
  clear eW eb
  have hlen := h.len
  have hsmall := h.small
  have HLen := Lib.hid hlen
  have h1 := h.same hS
  clear hlen h
  go_enter Try.func11, Try.ntmps11
  go_upto_region 1 with fail
  rw [EW.out, EB.out]
  go_wp2_with fail
  go_loopw [9] (fun s10 wr => ∃ i : Nat, s10 = .int .i64 i ∧ i ≤ n ∧ Hid (∀ j, j < i → InP P Q (xs.getD j 0)) ∧ Same W wr) (fun s10 _ => n - (intOf s10).toNat)
  case atStart => exact ⟨0, rfl, by omega, fun j hj => by omega, Same.refl _⟩
  case round =>
    obtain ⟨i, rfl, hi, hup, hD⟩ := hrel
    have k0 := same_cell hD c0
    have k1 := same_cell hD c1
    have k2 := same_cell hD c2
    have k3 := same_cell hD c3
    have k4 := same_cell hD c4
    clear c0 c1 c2 c3 c4
    by_cases hlt : i < n
    · obtain ⟨b, off, ha, hcells⟩ := h1.cells (by omega)
      subst ha
      obtain ⟨x, hx⟩ : ∃ x, xs.getD i 0 = x := ⟨_, rfl⟩
      have hc := same_cell hD (hcells i hlt)
      have hx0 := (h1.bd i).1
      rw [hx] at hc hx0
      by_cases hin : InP P Q x
      · have hB := Lib.hid (inB_yes hin)
        have hup2 : Hid (∀ j, j < i + 1 → InP P Q (xs.getD j 0)) := fun j hj => by
          by_cases e : j = i
          · subst e; rw [hx]; exact hin
          · exact hup.out j (by omega)
        clear hx hcells hin hup
        go_wp2_with fail
        refine (rin_any P Q G H ra rn rc x P0 Q0 Q1 hx0 _).mono ?_
        rintro e1 w1 ⟨rfl, hT⟩
        rw [hB.out]
        go_wp2_with fail
        go_roundw
        case rel => exact ⟨i + 1, by go_num, by omega, hup2, hD.trans hT⟩
        case measure => simp [intOf]; omega
      · have hB := Lib.hid (inB_no hin)
        have hb := allB_no (P := P) (Q := Q) (xs := xs) (fun hA => hin (by
          rw [← hx]
          have hl : i < xs.length := by rw [HLen.out]; exact hlt
          rw [show xs.getD i 0 = xs[i] by simp [List.getD, hl]]
          exact hA _ (List.getElem_mem hl)))
        have HB := Lib.hid hb
        clear hx hcells hin hup hb
        go_wp2_with fail
        refine (rin_any P Q G H ra rn rc x P0 Q0 Q1 hx0 _).mono ?_
        rintro e1 w1 ⟨rfl, hT⟩
        rw [hB.out]
        go_wp2_with fail
        go_ret
        exact ⟨ret_bool HB.out.symm, hS.trans (hD.trans hT)⟩
    · obtain rfl : i = n := by omega
      have hb := allB_yes (P := P) (Q := Q) (xs := xs) (fun x hx => by
        obtain ⟨j, hj, e⟩ := List.getElem_of_mem hx
        have := hup.out j (by rw [← HLen.out]; exact hj)
        rw [show xs.getD j 0 = xs[j] by simp [List.getD, hj], e] at this
        exact this)
      have HB := Lib.hid hb
      clear hup hb
      go_wp2_with fail
      go_ret
      exact ⟨ret_bool HB.out.symm, hS.trans hD⟩
end Go.Proofs.Ytfoncfojljmimaa
