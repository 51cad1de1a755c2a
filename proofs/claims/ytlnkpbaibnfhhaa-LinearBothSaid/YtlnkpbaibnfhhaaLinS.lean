/- What the functions of layer 6 compute, as lists of whole numbers: plain Lean, no program in it. -/
import Derived.Test.YtlnkpbaibnfhhaaW5
set_option linter.unusedVariables false
set_option linter.unusedSimpArgs false
namespace Go.Proofs.Ytlnkpbaibnfhhaa
open NT
def AllE (P Q : Int) (xs : List Int) : Prop := ∀ x ∈ xs, InP P Q x
noncomputable def allB (P Q : Int) (xs : List Int) : Bool := open Classical in decide (AllE P Q xs)
theorem allB_yes {P Q : Int} {xs : List Int} (h : AllE P Q xs) : allB P Q xs = true := by unfold allB; classical exact decide_eq_true h
theorem allB_no {P Q : Int} {xs : List Int} (h : ¬ AllE P Q xs) : allB P Q xs = false := by unfold allB; classical exact decide_eq_false h
theorem AllE.at {P Q : Int} {xs : List Int} (h : AllE P Q xs) {i : Nat} (hi : i < xs.length) : InP P Q (xs.getD i 0) := by
  rw [show xs.getD i 0 = xs[i] by simp [List.getD, hi]]; exact h _ (List.getElem_mem hi)
theorem AllE.of {P Q : Int} {xs : List Int} (h : ∀ i, i < xs.length → InP P Q (xs.getD i 0)) : AllE P Q xs := by
  intro x hx
  obtain ⟨j, hj, e⟩ := List.getElem_of_mem hx
  have := h j hj
  rwa [show xs.getD j 0 = xs[j] by simp [List.getD, hj], e] at this
/-- how long the first row is -/
def wide (bs : List (List Int)) : Nat := (bs.getD 0 []).length
/-- a row as long as the first, of elements -/
def RowFit (P Q : Int) (n : Nat) (r : List Int) : Prop := r.length = n ∧ AllE P Q r
/-- a claim about exponents -/
structure ClaimOk (P Q : Int) (ts : List Int) (bs : List (List Int)) : Prop where
  t0 : 1 ≤ ts.length
  t64 : ts.length ≤ 64
  b : bs.length = ts.length
  te : AllE P Q ts
  n0 : 1 ≤ wide bs
  n64 : wide bs ≤ 64
  rows : ∀ j, j < bs.length → RowFit P Q (wide bs) (bs.getD j [])
noncomputable def sizeS (P Q : Int) (ts : List Int) (bs : List (List Int)) : Nat := open Classical in if ClaimOk P Q ts bs then wide bs else 0
theorem sizeS_yes {P Q : Int} {ts : List Int} {bs : List (List Int)} (h : ClaimOk P Q ts bs) : sizeS P Q ts bs = wide bs := if_pos h
theorem sizeS_no {P Q : Int} {ts : List Int} {bs : List (List Int)} (h : ¬ ClaimOk P Q ts bs) : sizeS P Q ts bs = 0 := if_neg h
theorem sizeS_pos {P Q : Int} {ts : List Int} {bs : List (List Int)} (h : sizeS P Q ts bs ≠ 0) : ClaimOk P Q ts bs := by
  by_cases hc : ClaimOk P Q ts bs
  · exact hc
  · exact absurd (sizeS_no hc) h
theorem sizeS_le {P Q : Int} {ts : List Int} {bs : List (List Int)} : sizeS P Q ts bs ≤ 64 := by
  by_cases hc : ClaimOk P Q ts bs
  · rw [sizeS_yes hc]; exact hc.n64
  · rw [sizeS_no hc]; omega
/-- the first k powers of a row, multiplied -/
noncomputable def imgUp (P Q : Int) (row ws : List Int) : Nat → Int
  | 0 => 1
  | k + 1 => mulI (imgUp P Q row ws k) (expI Q P (row.getD k 0) (ws.getD k 0)) P
noncomputable def imgRow (P Q : Int) (row ws : List Int) : Int := imgUp P Q row ws row.length
noncomputable def imageS (P Q : Int) (bs : List (List Int)) (ws : List Int) : List Int := bs.map (fun r => imgRow P Q r ws)
theorem imgUp_u (P Q : Int) (row ws : List Int) (k : Nat) : 0 ≤ imgUp P Q row ws k ∧ imgUp P Q row ws k < 18446744073709551616 := by
  cases k with
  | zero => unfold imgUp; omega
  | succ k => exact mulI_u _ _ _
theorem imgUp_lt {P Q : Int} (h : GrpP P Q) (row ws : List Int) (k : Nat) : 0 ≤ imgUp P Q row ws k ∧ imgUp P Q row ws k < P := by
  cases k with
  | zero => have := h.q5; have := h.p; unfold imgUp; omega
  | succ k => exact mul_lt h _ _
theorem imageS_len (P Q : Int) (bs : List (List Int)) (ws : List Int) : (imageS P Q bs ws).length = bs.length := by unfold imageS; simp
theorem imageS_at {P Q : Int} {bs : List (List Int)} {ws : List Int} {j : Nat} (h : j < bs.length) : (imageS P Q bs ws).getD j 0 = imgRow P Q (bs.getD j []) ws := by
  unfold imageS; simp [List.getD, h]
theorem imageS_u {P Q : Int} {bs : List (List Int)} {ws : List Int} : ∀ x ∈ imageS P Q bs ws, 0 ≤ x ∧ x < 18446744073709551616 := by
  intro x hx
  obtain ⟨r, _, rfl⟩ := List.mem_map.1 hx
  exact imgUp_u _ _ _ _ _
/-- does a claim have this image's exponents? -/
def ImgOk (P Q : Int) (ts : List Int) (bs : List (List Int)) (ws : List Int) : Prop := ClaimOk P Q ts bs ∧ ws.length = wide bs
noncomputable def imgB (P Q : Int) (ts : List Int) (bs : List (List Int)) (ws : List Int) : Bool := open Classical in decide (ImgOk P Q ts bs ws)
theorem imgB_yes {P Q : Int} {ts : List Int} {bs : List (List Int)} {ws : List Int} (h : ImgOk P Q ts bs ws) : imgB P Q ts bs ws = true := by unfold imgB; classical exact decide_eq_true h
theorem imgB_no {P Q : Int} {ts : List Int} {bs : List (List Int)} {ws : List Int} (h : ¬ ImgOk P Q ts bs ws) : imgB P Q ts bs ws = false := by unfold imgB; classical exact decide_eq_false h
noncomputable def imgL (P Q : Int) (ts : List Int) (bs : List (List Int)) (ws : List Int) : List Int := open Classical in if ImgOk P Q ts bs ws then imageS P Q bs ws else []
theorem imgL_yes {P Q : Int} {ts : List Int} {bs : List (List Int)} {ws : List Int} (h : ImgOk P Q ts bs ws) : imgL P Q ts bs ws = imageS P Q bs ws := if_pos h
theorem imgL_no {P Q : Int} {ts : List Int} {bs : List (List Int)} {ws : List Int} (h : ¬ ImgOk P Q ts bs ws) : imgL P Q ts bs ws = [] := if_neg h
/-- a base that is 1 changes nothing -/
theorem exp_one {P Q : Int} (h : GrpP P Q) {e : Int} (e0 : 0 ≤ e) : expI Q P 1 e = 1 := by
  have := h.q5; have := h.p
  refine cg_eq h (exp_lt h _ _).1 (exp_lt h _ _).2 (by omega) (by omega) ((exp_cg h (one_el h) e0).trans ?_)
  rw [show Int.toNat 1 = 1 from rfl, Nat.one_pow]; exact Cg.refl _ _
theorem mul_one_r {P Q : Int} (h : GrpP P Q) {x : Int} (x0 : 0 ≤ x) (x1 : x < P) : mulI x 1 P = x := by
  refine cg_eq h (mul_lt h _ _).1 (mul_lt h _ _).2 x0 x1 ((mul_cg h _ _).trans ?_)
  rw [show Int.toNat 1 = 1 from rfl, Nat.mul_one]; exact Cg.refl _ _
theorem imgUp_skip {P Q : Int} (h : GrpP P Q) {row ws : List Int} {k : Nat} (hb : row.getD k 0 = 1) (hw : 0 ≤ ws.getD k 0) : imgUp P Q row ws (k + 1) = imgUp P Q row ws k := by
  rw [imgUp, hb, exp_one h hw, mul_one_r h (imgUp_lt h _ _ _).1 (imgUp_lt h _ _ _).2]
theorem prod_mul {P Q : Int} (h : GrpP P Q) (a b : Int) : prodI P [a, b] = mulI a b P := by
  refine cg_eq h (prod_lt h _).1 (prod_lt h _).2 (mul_lt h _ _).1 (mul_lt h _ _).2 ((prod2_cg h a b).trans (mul_cg h a b).symm)
/-- as long as the shorter, place by place -/
noncomputable def eachS (f : Int → Int → Int) (a b : List Int) : List Int := if a.length = b.length then (List.range a.length).map (fun i => f (a.getD i 0) (b.getD i 0)) else []
theorem eachS_no {f : Int → Int → Int} {a b : List Int} (h : a.length ≠ b.length) : eachS f a b = [] := if_neg h
theorem eachS_len {f : Int → Int → Int} {a b : List Int} (h : a.length = b.length) : (eachS f a b).length = a.length := by unfold eachS; rw [if_pos h]; simp
theorem eachS_at {f : Int → Int → Int} {a b : List Int} (h : a.length = b.length) {i : Nat} (hi : i < a.length) : (eachS f a b).getD i 0 = f (a.getD i 0) (b.getD i 0) := by
  unfold eachS; rw [if_pos h]; simp [List.getD, hi]
/-- the size that the walk comes to: all rows fit -/
theorem size_end {P Q : Int} {ts : List Int} {bs : List (List Int)} (t0 : 1 ≤ ts.length) (t64 : ts.length ≤ 64) (b : bs.length = ts.length) (te : AllE P Q ts) (rows : ∀ j, j < bs.length → wide bs ≤ 64 ∧ RowFit P Q (wide bs) (bs.getD j [])) : sizeS P Q ts bs = wide bs := by
  have h64 := (rows 0 (by omega)).1
  by_cases h : wide bs = 0
  · rw [sizeS_no (fun hc => by have := hc.n0; omega), h]
  · exact sizeS_yes ⟨t0, t64, b, te, by omega, h64, fun j hj => (rows j hj).2⟩
end Go.Proofs.Ytlnkpbaibnfhhaa
