/- The reference of layer 2: Holds and Proved. -/
import Derived.Test.YtfoncfojljmimaaRef2
set_option linter.unusedVariables false
set_option linter.unusedSimpArgs false
namespace Go.Proofs.Ytfoncfojljmimaa
open Go.RowKit NT
theorem rholds_any (a : Option Addr) (n cap : Nat) (rs : List RowD) (w : World) (h : RowsAt w a n rs) :
    Calls Try.prog 47 #[.slice a n cap] w fun e w' => e = .returned (.bool (holdsB rs)) ∧ Same w w' := by
  have hlen := h.len
  have hsmall := h.small
  have HLen := Lib.hid hlen
  clear hlen
  by_cases hn : n ≤ 64
  · have h64 : decide ((64 : Int) < n) = false := decide_eq_false (by omega)
    go_enter Try.func47, Try.ntmps47
    go_wp2_with fail
    go_loopw [3] (fun s3 wr => ∃ i : Nat, s3 = .int .i64 i ∧ i ≤ n ∧ Hid (UpTo rs i) ∧ Same w wr) (fun s3 _ => n - (intOf s3).toNat)
    case atStart => exact ⟨0, rfl, by omega, fun j hj => by omega, Same.refl w⟩
    case round =>
      obtain ⟨i, rfl, hi, hup, hS⟩ := hrel
      by_cases hlt : i < n
      · go_wp2_with fail
        refine (rholds a n cap i rs _ (h.same hS) hlt).mono ?_
        rintro e1 w2 ⟨rfl, hS2⟩
        by_cases hok : RowOk (Kn rs i) (rs.getD i default)
        · rw [rowB_yes hok]
          have hup2 : Hid (UpTo rs (i + 1)) := fun j hj => by
            by_cases e : j = i
            · subst e; exact hok
            · exact hup.out j (by omega)
          have HS := Lib.hid (hS.trans hS2)
          clear hok hup hS2
          go_wp2_with fail
          go_roundw
          case rel => exact ⟨i + 1, by go_num, by omega, hup2, HS.out⟩
          case measure => simp [intOf]; omega
        · rw [rowB_no hok]
          have hb := holdsB_no (rs := rs) (fun hA => hok (hA.2 i (by rw [HLen.out]; exact hlt)))
          have HB := Lib.hid hb
          have HS := Lib.hid (hS.trans hS2)
          clear hb hok hup hS2
          go_wp2_with fail
          go_ret
          exact ⟨ret_bool HB.out.symm, HS.out⟩
      · obtain rfl : i = n := by omega
        have hb := holdsB_yes (rs := rs) ⟨by rw [HLen.out]; exact hn, by rw [HLen.out]; exact hup.out⟩
        have HB := Lib.hid hb
        clear hb hup
        go_wp2_with fail
        go_ret
        exact ⟨ret_bool HB.out.symm, hS⟩
  · have h64 : decide ((64 : Int) < n) = true := decide_eq_true (by omega)
    have hb := holdsB_no (rs := rs) (fun hA => by have := hA.1; rw [HLen.out] at this; omega)
    have HB := Lib.hid hb
    clear hb hn
    go_enter Try.func47, Try.ntmps47
    go_wp2_with fail
    go_ret
    exact ⟨ret_bool HB.out.symm, Same.refl w⟩
theorem rproved_any (x : Int) (a : Option Addr) (n cap : Nat) (rs : List RowD) (w : World) (h : RowsAt w a n rs) (hx : U64 x) :
    Calls Try.prog 40 #[.int .u64 x, .slice a n cap] w fun e w' => e = .returned (.bool (provedB x rs)) ∧ Same w w' := by
  have hlen := h.len
  by_cases hA : AllOk rs
  · have hh := holdsB_yes hA
    by_cases h2 : x = 2
    · have h2' : ((x : Int) == 2) = true := by rw [h2]; rfl
      have hb := provedB_yes (n := x) (rs := rs) ⟨hA, .inl h2⟩
      have HB := Lib.hid hb
      have HH := Lib.hid hh
      clear hb h2 hh hlen hx
      go_enter Try.func40, Try.ntmps40
      go_wp2_with fail
      refine (rholds_any a n cap rs _ h).mono ?_
      rintro e1 w1 ⟨rfl, hS⟩
      rw [HH.out]
      go_wp2_with fail
      go_ret
      exact ⟨ret_bool HB.out.symm, hS⟩
    · have h2' : ((x : Int) == 2) = false := by rw [beq_eq_false_iff_ne]; exact h2
      have hb : provedB x rs = aheadB rs n x := by
        by_cases hk : Ahead rs n x
        · rw [aheadB_yes hk]; exact provedB_yes ⟨hA, .inr (by rw [hlen]; exact hk)⟩
        · rw [aheadB_no hk]; exact provedB_no (fun hp => hk (by have := hp.2.resolve_left h2; rwa [hlen] at this))
      have HB := Lib.hid hb
      have HH := Lib.hid hh
      clear hb h2 hh hlen hx
      go_enter Try.func40, Try.ntmps40
      go_wp2_with fail
      refine (rholds_any a n cap rs _ h).mono ?_
      rintro e1 w1 ⟨rfl, hS⟩
      rw [HH.out]
      go_wp2_with fail
      refine (ahead_any a n cap n x rs _ (h.same hS) (Nat.le_refl n)).mono ?_
      rintro e1 w2 ⟨rfl, rfl⟩
      go_wp2_with fail
      go_ret
      exact ⟨ret_bool (by rw [HB.out]), hS⟩
  · have hh := holdsB_no hA
    have hb := provedB_no (n := x) (rs := rs) (fun hp => hA hp.1)
    have HB := Lib.hid hb
    have HH := Lib.hid hh
    clear hb hh hlen hx
    go_enter Try.func40, Try.ntmps40
    go_wp2_with fail
    refine (rholds_any a n cap rs _ h).mono ?_
    rintro e1 w1 ⟨rfl, hS⟩
    rw [HH.out]
    go_wp2_with fail
    go_ret
    exact ⟨ret_bool HB.out.symm, hS⟩
end Go.Proofs.Ytfoncfojljmimaa
