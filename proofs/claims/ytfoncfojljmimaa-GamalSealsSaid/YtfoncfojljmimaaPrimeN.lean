/- What a certificate proves is prime: plain Lean, no program in it. -/
import Derived.Test.YtfoncfojljmimaaFacN
set_option linter.unusedVariables false
set_option linter.unusedSimpArgs false
namespace Go.Proofs.Ytfoncfojljmimaa
open NT
theorem strip_eq {f : Nat} : ∀ (l : Nat), ∃ k, l = strip f l * f ^ k := by
  intro l
  induction l using Nat.strongRecOn with
  | _ l ih =>
    rw [strip]
    split
    · rename_i hc
      obtain ⟨k, hk⟩ := ih (l / f) (Nat.div_lt_self hc.2.1 (by omega))
      refine ⟨k + 1, ?_⟩
      rw [Nat.pow_succ, ← Nat.mul_assoc, ← hk]
      exact (Nat.div_mul_cancel (Nat.dvd_of_mod_eq_zero hc.2.2)).symm
    · exact ⟨0, by simp⟩
theorem powI_eq {a e n : Int} (h2 : 2 ≤ n) (h1 : n ≤ 4611686018427387904) : powI a e n = (a.toNat ^ e.toNat % n.toNat : Nat) := by
  unfold powI; rw [powS_yes ⟨by omega, by omega⟩]
/-- each prime that divides what is left is one of the factors, and passes its test -/
theorem fac_tests {S : Int → Prop} {r : RowD} (hS : ∀ f, S f → Prime f.toNat) (hU : ∀ j, U64 (r.f.getD j 0)) :
    ∀ (fs : List Int) (left last : Int), (∀ f ∈ fs, 0 ≤ f) → 1 ≤ left → FacOk S r left last fs → ∀ q : Nat, Prime q → q ∣ left.toNat → powI r.a ((r.n - 1) / (q : Int)) r.n ≠ 1 := by
  intro fs
  induction fs with
  | nil =>
    intro left last _ h1 h q hq hd
    have h : left = 1 := h
    subst h
    have := hq.1
    have h2 : q ∣ 1 := hd
    have := Nat.eq_one_of_dvd_one h2
    omega
  | cons f fs ih =>
    intro left last h0 h1 h q hq hd
    obtain ⟨g1, g2, g3, g4, g5⟩ := h
    have hf := hS f g2
    have f0 := h0 f (by simp)
    by_cases e : q = f.toNat
    · rw [e, Int.toNat_of_nonneg f0]; exact g4
    · obtain ⟨k, hk⟩ := strip_eq (f := f.toNat) left.toNat
      have hd2 : q ∣ strip f.toNat left.toNat := by
        rw [hk] at hd
        rcases hq.dvd_mul hd with h | h
        · exact h
        · have h3 := hq.dvd_pow h
          rcases hf.2 q h3 with h4 | h4
          · have := hq.1; omega
          · exact absurd h4 e
      have hp := strip_lt (f := f.toNat) (l := left.toNat) (by omega)
      exact ih _ _ (fun x hx => h0 x (by simp [hx])) (by omega) g5 q hq (by simpa using hd2)
theorem row_root {S : Int → Prop} {r : RowD} (hS : ∀ f, S f → Prime f.toNat) (hU : ∀ f ∈ r.f, 0 ≤ f) (hU2 : ∀ j, U64 (r.f.getD j 0)) (h : RowOk S r) : Root r.n.toNat r.a.toNat := by
  obtain ⟨h1, h2, h3, h4, h5, h6⟩ := h
  refine root_of_lucas (by omega) ?_ ?_
  · rw [powI_eq (by omega) h2] at h5
    rw [Cg.one (by omega)]
    rw [show (r.n - 1).toNat = r.n.toNat - 1 by omega] at h5
    omega
  · intro q hq hd hc
    have := fac_tests hS hU2 r.f (r.n - 1) 1 hU (by omega) h6 q hq (by rw [show (r.n - 1).toNat = r.n.toNat - 1 by omega]; exact hd)
    apply this
    rw [powI_eq (by omega) h2]
    rw [Cg.one (by omega)] at hc
    rw [show ((r.n - 1) / (q : Int)).toNat = (r.n.toNat - 1) / q by
      obtain ⟨m, hm⟩ := Int.eq_ofNat_of_zero_le (show 0 ≤ r.n - 1 by omega)
      rw [hm, ← Int.natCast_ediv]
      rw [show r.n.toNat - 1 = m by omega]
      rfl, hc]
    rfl
/-- the factors are no negative numbers -/
def Fine (rs : List RowD) : Prop := ∀ i, (∀ f ∈ (rs.getD i default).f, 0 ≤ f) ∧ ∀ j, U64 ((rs.getD i default).f.getD j 0)
theorem two_root : Root 2 1 := ⟨by omega, rfl, fun k h0 h1 => by omega⟩
theorem upto_roots {rs : List RowD} (hF : Fine rs) {k : Nat} (h : UpTo rs k) : ∀ i, i < k → Root (rs.getD i default).n.toNat (rs.getD i default).a.toNat := by
  intro i
  induction i using Nat.strongRecOn with
  | _ i ih =>
    intro hi
    refine row_root (S := Kn rs i) (fun f hf => ?_) (hF i).1 (hF i).2 (h i hi)
    rcases hf with rfl | ⟨j, hj, e⟩
    · exact two_root.prime
    · rw [← e]; exact (ih j hj (by omega)).prime
theorem proved_root {n : Int} {rs : List RowD} (hF : Fine rs) (h : ProvedP n rs) : 2 ≤ n ∧ n ≤ 4611686018427387904 ∧ ∃ g, Root n.toNat g := by
  obtain ⟨hA, hk⟩ := h
  rcases hk with rfl | ⟨j, hj, e⟩
  · exact ⟨by omega, by omega, 1, two_root⟩
  · have hr := hA.2 j hj
    refine ⟨by have := hr.1; omega, by have := hr.2.1; omega, ?_⟩
    rw [← e]
    exact ⟨_, upto_roots hF hA.2 j hj⟩
theorem take_getD {rs : List RowD} {k i : Nat} (h : i < k) : (rs.take k).getD i default = rs.getD i default := by
  simp [List.getD, List.getElem?_take, h]
theorem Kn_take {rs : List RowD} {k j : Nat} (h : j ≤ k) {f : Int} : Kn (rs.take k) j f ↔ Kn rs j f := by
  unfold Kn
  constructor
  · rintro (x | ⟨i, hi, e⟩)
    · exact .inl x
    · exact .inr ⟨i, hi, by rw [← e, take_getD (by omega)]⟩
  · rintro (x | ⟨i, hi, e⟩)
    · exact .inl x
    · exact .inr ⟨i, hi, by rw [take_getD (by omega)]; exact e⟩
theorem allOk_take {rs : List RowD} {k : Nat} (hk : k ≤ rs.length) (h : AllOk rs) : AllOk (rs.take k) := by
  have hl : (rs.take k).length = k := by simp; omega
  refine ⟨by rw [hl]; have := h.1; omega, ?_⟩
  rw [hl]
  intro j hj
  rw [take_getD hj]
  have e : Kn (rs.take k) j = Kn rs j := funext fun f => propext (Kn_take (by omega))
  rw [e]
  exact h.2 j (by omega)
theorem proved_take {rs : List RowD} {k : Nat} (hk : k ≤ rs.length) (h : AllOk rs) {n : Int} (hp : ProvedP n (rs.take k)) : ProvedP n rs := by
  refine ⟨h, ?_⟩
  have hl : (rs.take k).length = k := by simp; omega
  have := hp.2
  rw [hl, Kn_take (Nat.le_refl k)] at this
  rcases this with x | ⟨i, hi, e⟩
  · exact .inl x
  · exact .inr ⟨i, by omega, e⟩
end Go.Proofs.Ytfoncfojljmimaa
