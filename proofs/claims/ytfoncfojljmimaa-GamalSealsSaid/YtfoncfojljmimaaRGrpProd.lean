/- The reference's product of elements. -/
import Derived.Test.YtfoncfojljmimaaGrpB
import Derived.Test.YtfoncfojljmimaaRefMul
set_option linter.unusedVariables false
set_option linter.unusedSimpArgs false
namespace Go.Proofs.Ytfoncfojljmimaa
open Go.RowKit NT
theorem rprod_any (P Q G H : Int) (ra : Option Addr) (rn rc : Nat) (a : Option Addr) (n cap : Nat) (xs : List Int) (P0 : 0 ≤ P) (w : World) (h : IntsAt w a n xs) :
    Calls Try.prog 38 #[.agg #[.int .u64 P, .int .u64 Q, .int .u64 G, .int .u64 H, .slice ra rn rc], .slice a n cap] w fun z w' => z = .returned (.int .u64 (prodI P xs)) ∧ Same w w' := by
  obtain ⟨W, bx, eW, eb, hS, c0, c1, c2, c3, c4⟩ := par_box w P Q G H (.slice ra rn rc)
  have EW := Lib.hid eW
  have EB := Lib.hid eb
  clear eW eb
  have hlen := h.len
  have hsmall := h.small
  have HLen := Lib.hid hlen
  have h1 := h.same hS
  clear hlen h
  go_enter Try.func38, Try.ntmps38
  go_upto_region 1 with fail
  rw [EW.out, EB.out]
  go_wp2_with fail
  go_loopw [5, 6] (fun s5 s6 wr => ∃ i : Nat, s5 = .int .u64 (prodI P (xs.take i)) ∧ s6 = .int .i64 i ∧ i ≤ n ∧ Drawn W wr) (fun _ s6 _ => n - (intOf s6).toNat)
  case atStart => exact ⟨0, by simp [prodI], rfl, by omega, Drawn.refl _⟩
  case round =>
    obtain ⟨i, rfl, rfl, hi, hD⟩ := hrel
    have c0' := same_cell hD.below c0
    obtain ⟨p, hp⟩ : ∃ p, prodI P (xs.take i) = p := ⟨_, rfl⟩
    have hp0 := (prodI_u P (xs.take i)).1
    rw [hp] at hp0 ⊢
    have HP := Lib.hid hp
    clear hp c0
    by_cases hlt : i < n
    · obtain ⟨b, off, ha, hcells⟩ := h1.cells (by omega)
      subst ha
      obtain ⟨x, hx⟩ : ∃ x, xs.getD i 0 = x := ⟨_, rfl⟩
      have hc := same_cell hD.below (hcells i hlt)
      have hx0 := (h1.bd i).1
      have hnx : prodI P (xs.take (i + 1)) = mulI p x P := by rw [prodI_take _ _ _ (by rw [HLen.out]; exact hlt), HP.out, hx]
      rw [hx] at hc hx0
      have hcall : ∀ W, Calls Try.prog 45 #[.int .u64 p, .int .u64 x, .int .u64 P] W fun z w' => z = .returned (.int .u64 (prodI P (xs.take (i + 1)))) ∧ W = w' := fun W => by
        rw [hnx]; exact rmul_any p x P hp0 hx0 P0 W
      have HC := Lib.hid hcall
      have i0 : (0 : Int) ≤ i := by omega
      have i1 : (i : Int) < n := by omega
      clear hx hcells hnx hcall
      go_wp2_with fail
      go_quiet ((go_at_call 45; exact quiet_same (HC.out _)))
      go_wp2_with fail
      go_roundw
      case rel => exact ⟨i + 1, rfl, by go_num, by omega, hD.drewN _⟩
      case measure => simp [intOf]; omega
    · obtain rfl : i = n := by omega
      go_wp2_with fail
      go_ret
      exact ⟨ret_int (by rw [← HP.out, List.take_of_length_le (by rw [HLen.out]; exact Nat.le_refl _)]), hS.drawn hD⟩
end Go.Proofs.Ytfoncfojljmimaa
