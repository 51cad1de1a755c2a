/- A row's factors, on the road: plain Lean. -/
import Derived.Test.YtfoncfojljmimaaPrimeS
set_option linter.unusedVariables false
set_option linter.unusedSimpArgs false
namespace Go.Proofs.Ytfoncfojljmimaa
open NT
theorem strip_lt {f l : Nat} (h : 0 < l) : 0 < strip f l ∧ strip f l ≤ l := by
  induction l using Nat.strongRecOn with
  | _ l ih =>
    rw [strip]
    split
    · rename_i hc
      have h1 : l / f < l := Nat.div_lt_self hc.2.1 (by omega)
      have h2 : 0 < l / f := Nat.div_pos (Nat.le_of_dvd hc.2.1 (Nat.dvd_of_mod_eq_zero hc.2.2)) (by omega)
      obtain ⟨a, b⟩ := ih (l / f) h1 h2
      exact ⟨a, by omega⟩
    · exact ⟨h, Nat.le_refl _⟩
theorem strip_div {l f : Int} (m0 : 1 ≤ l) (f2 : 2 ≤ f) (hz : l % f = 0) : l / f < l ∧ 1 ≤ l / f ∧ strip f.toNat l.toNat = strip f.toNat (l / f).toNat := by
  have d1 : l / f < l := Int.ediv_lt_self_of_pos_of_ne_one (by omega) (by omega)
  have d2 : 1 ≤ l / f := by
    have h1 := Int.mul_ediv_add_emod l f
    rw [hz, Int.add_zero] at h1
    have d3 : 0 ≤ l / f := Int.ediv_nonneg (by omega) (by omega)
    rcases Int.lt_or_le 0 (l / f) with h | h
    · omega
    · have h2 : l / f = 0 := by omega
      rw [h2] at h1
      omega
  refine ⟨d1, d2, ?_⟩
  obtain ⟨l, rfl⟩ := Int.eq_ofNat_of_zero_le (show 0 ≤ l by omega)
  obtain ⟨f, rfl⟩ := Int.eq_ofNat_of_zero_le (show 0 ≤ f by omega)
  simp only [Int.toNat_natCast]
  rw [strip_step (by omega) (by omega) (by rw [← Int.natCast_emod] at hz; omega)]
  rfl
/-- Where a row stands behind its tests, and what is left of it. -/
structure FacAt (S : Int → Prop) (r : RowD) (i : Nat) (left last : Int) : Prop where
  l0 : 1 ≤ left
  l1 : left < 18446744073709551616
  a0 : 1 ≤ last
  a1 : last < 18446744073709551616
  eq : FacOk S r (r.n - 1) 1 r.f ↔ FacOk S r left last (r.f.drop i)
theorem drop_getD {xs : List Int} {i : Nat} (h : i < xs.length) : xs.drop i = xs.getD i 0 :: xs.drop (i + 1) := by
  rw [List.drop_eq_getElem_cons h]
  simp [List.getD, List.getElem?_eq_getElem h]
end Go.Proofs.Ytfoncfojljmimaa
