/- Which certificates hold, and what they prove: plain Lean, no program in it. -/
import Derived.Test.YtfoncfojljmimaaModS
import Derived.Test.YtfoncfojljmimaaRead
set_option linter.unusedVariables false
set_option linter.unusedSimpArgs false
namespace Go.Proofs.Ytfoncfojljmimaa
open NT
/-- the power, of whole numbers -/
noncomputable def powI (a e n : Int) : Int := (powS a.toNat e.toNat n.toNat : Int)
/-- the number without the factor f -/
def strip (f : Nat) (l : Nat) : Nat := if h : 2 ≤ f ∧ 0 < l ∧ l % f = 0 then strip f (l / f) else l
termination_by l
decreasing_by exact Nat.div_lt_self h.2.1 (by omega)
theorem strip_step {f l : Nat} (h2 : 2 ≤ f) (h0 : 0 < l) (h : l % f = 0) : strip f l = strip f (l / f) := by
  rw [strip, dif_pos ⟨h2, h0, h⟩]
theorem strip_end {f l : Nat} (h : l % f ≠ 0) : strip f l = l := by
  rw [strip, dif_neg (fun x => h x.2.2)]
/-- the factors of a row, from a place on: rising, known, all that is left divided by them; each with its own test -/
def FacOk (S : Int → Prop) (r : RowD) : Int → Int → List Int → Prop
  | left, _, [] => left = 1
  | left, last, f :: fs => last < f ∧ S f ∧ left % f = 0 ∧ powI r.a ((r.n - 1) / f) r.n ≠ 1 ∧ FacOk S r (strip f.toNat left.toNat : Nat) f fs
def RowOk (S : Int → Prop) (r : RowD) : Prop :=
  3 ≤ r.n ∧ r.n ≤ 4611686018427387904 ∧ 1 ≤ r.f.length ∧ r.f.length ≤ 16 ∧ powI r.a (r.n - 1) r.n = 1 ∧ FacOk S r (r.n - 1) 1 r.f
noncomputable def rowB (S : Int → Prop) (r : RowD) : Bool := open Classical in decide (RowOk S r)
theorem rowB_yes {S : Int → Prop} {r : RowD} (h : RowOk S r) : rowB S r = true := by unfold rowB; classical exact decide_eq_true h
theorem rowB_no {S : Int → Prop} {r : RowD} (h : ¬ RowOk S r) : rowB S r = false := by unfold rowB; classical exact decide_eq_false h
/-- what is known behind the first k rows -/
def Kn (rs : List RowD) (k : Nat) (f : Int) : Prop := f = 2 ∨ ∃ i, i < k ∧ (rs.getD i default).n = f
theorem Kn_zero {rs : List RowD} {f : Int} : Kn rs 0 f ↔ f = 2 := by
  unfold Kn
  constructor
  · rintro (h | ⟨i, h, _⟩)
    · exact h
    · omega
  · exact .inl
theorem Kn_succ {rs : List RowD} {k : Nat} {f : Int} : Kn rs (k + 1) f ↔ f = (rs.getD k default).n ∨ Kn rs k f := by
  unfold Kn
  constructor
  · rintro (h | ⟨i, h, e⟩)
    · exact .inr (.inl h)
    · by_cases hi : i = k
      · subst hi; exact .inl e.symm
      · exact .inr (.inr ⟨i, by omega, e⟩)
  · rintro (h | h | ⟨i, h, e⟩)
    · exact .inr ⟨k, by omega, h.symm⟩
    · exact .inl h
    · exact .inr ⟨i, by omega, e⟩
/-- the rows from the first on, up to k -/
def UpTo (rs : List RowD) (k : Nat) : Prop := ∀ j, j < k → RowOk (Kn rs j) (rs.getD j default)
def AllOk (rs : List RowD) : Prop := rs.length ≤ 64 ∧ UpTo rs rs.length
noncomputable def holdsB (rs : List RowD) : Bool := open Classical in decide (AllOk rs)
theorem holdsB_yes {rs : List RowD} (h : AllOk rs) : holdsB rs = true := by unfold holdsB; classical exact decide_eq_true h
theorem holdsB_no {rs : List RowD} (h : ¬ AllOk rs) : holdsB rs = false := by unfold holdsB; classical exact decide_eq_false h
theorem holdsB_iff {rs : List RowD} : holdsB rs = true ↔ AllOk rs := by unfold holdsB; classical exact decide_eq_true_iff
def ProvedP (n : Int) (rs : List RowD) : Prop := AllOk rs ∧ Kn rs rs.length n
noncomputable def provedB (n : Int) (rs : List RowD) : Bool := open Classical in decide (ProvedP n rs)
theorem provedB_yes {n : Int} {rs : List RowD} (h : ProvedP n rs) : provedB n rs = true := by unfold provedB; classical exact decide_eq_true h
theorem provedB_no {n : Int} {rs : List RowD} (h : ¬ ProvedP n rs) : provedB n rs = false := by unfold provedB; classical exact decide_eq_false h
theorem provedB_iff {n : Int} {rs : List RowD} : provedB n rs = true ↔ ProvedP n rs := by unfold provedB; classical exact decide_eq_true_iff
end Go.Proofs.Ytfoncfojljmimaa
