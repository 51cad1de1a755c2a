/- Layer 10: awake. -/
import Derived.Test.YtdbhcdhenapfoaaWireU
set_option linter.unusedVariables false
set_option linter.unusedSimpArgs false
namespace Go.Proofs.Ytdbhcdhenapfoaa
open Go.RowKit Go.Maps
abbrev mix0 : MixD := ([], [], [], [], [], [], [])
theorem ints_nil (w : World) : IntsAt w none 0 [] := ⟨rfl, by omega, fun h => by omega, fun j => by simp; exact ⟨by decide, by decide⟩⟩
theorem mix0_in (w : World) : MixIn w none 0 none 0 none 0 none 0 none 0 none 0 none 0 mix0 :=
  ⟨⟨rfl, by omega, fun j hj => by omega⟩, ⟨rfl, by omega, fun j hj => by omega⟩, ints_nil w, ints_nil w, ints_nil w, ints_nil w, ints_nil w⟩
theorem mix0_ok : mixC.ok mix0 := by
  have h : ∀ {α : Type} {A : Cod α} {m : Nat}, (listC m A).ok [] := fun {α A m} => ⟨⟨by simp, by simp⟩, fun x hx => by cases hx⟩
  exact ⟨h, h, h, h, h, h, h⟩
theorem mix0_enc : (2 : UInt8) :: mixC.enc mix0 = [2, 0, 0, 0, 0, 0, 0, 0, 0, 0, 0, 0, 0, 0, 0] := rfl
set_option maxHeartbeats 800000 in
theorem awake_any (w : World) : Calls Try.prog 8 #[] w fun z w' => z = .returned (.bool true) ∧ Same w w' := by
  obtain ⟨L, eL⟩ : ∃ L, (2 : UInt8) :: mixC.enc mix0 = L := ⟨_, rfl⟩
  have HRD := Lib.hid (show rd 2 mixC L = some mix0 by rw [← eL]; exact rd_wr mix0_ok)
  have eL2 := eL.symm.trans mix0_enc
  obtain ⟨t, et⟩ : ∃ t, ofL L = t := ⟨_, rfl⟩
  have hll : L.length ≤ 1000000000 := by rw [eL2]; simp
  have HEL := Lib.hid eL
  have HET := Lib.hid et
  have hsz : t.size = 15 := by rw [← et, eL2]; rfl
  have ht0 : ∀ h : 0 < t.size, (t[0]'h).toNat = 2 := by subst et; subst eL2; intro _; rfl
  clear eL eL2 et
  go_enter Try.func8, Try.ntmps8
  go_wp2_with fail
  refine (wMixing_any none 0 0 none 0 0 none 0 0 none 0 0 none 0 0 none 0 0 none 0 0 mix0 w (mix0_in w)).mono ?_
  rintro e w1 ⟨hs1, (⟨_, rfl⟩ | ⟨hno, rfl⟩)⟩
  case inr => exact absurd mix0_ok hno
  rw [HEL.out]
  have HS1 := Lib.hid hs1
  clear hs1
  rw [HET.out]
  go_wp2_with fail
  rw [← HET.out]
  refine (readMixing_any L hll w1).mono ?_
  rintro e w2 ⟨hs2, (⟨x, a0, n0, c0, a1, n1, c1, a2, n2, c2, a3, n3, c3, a4, n4, c4, a5, n5, c5, a6, n6, c6, hr, rfl, ho⟩ | ⟨hr, rfl⟩)⟩
  case inr => rw [HRD.out] at hr; cases hr
  rw [HET.out]
  have HS2 := Lib.hid (HS1.out.trans hs2)
  clear hs2 hr ho
  go_wp2_with fail
  go_ret
  exact ⟨rfl, HS2.out.trans ((Same.refl _).alloc _)⟩
end Go.Proofs.Ytdbhcdhenapfoaa
