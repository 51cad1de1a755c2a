/- Layer 14: of rounds that rise the last sixteen are kept, in plain words. -/
import Derived.Test.YtchmhpfccanamaaDropM
set_option linter.unusedVariables false
set_option linter.unusedSimpArgs false
namespace Go.Proofs.Ytchmhpfccanamaa
open Go.RowKit
def twoN (p k : Int) : List NoteD := [(p, (k, 1)), (p, (k, 2))]
def keepR (x p : Int) : Nat → List Rnd
  | 0 => []
  | i + 1 => delR (keepR x p i) (x + i) (twoN p i)
def rndK (x p : Int) (j : Nat) : Rnd := (x + j, bodN (twoN p j) 2)
def lastK (x p : Int) (i : Nat) : List Rnd := (List.range' (i - 16) (i - (i - 16))).map (rndK x p)
theorem lastK_len (x p : Int) (i : Nat) : (lastK x p i).length = i - (i - 16) := by unfold lastK; simp
theorem lastK_at (x p : Int) (i j : Nat) (h : j < i - (i - 16)) : (lastK x p i).getD j rd0 = rndK x p (i - 16 + j) := by
  unfold lastK
  rw [List.getD, List.getElem?_map, List.getElem?_range' h]
  simp
theorem okD_last (x p y : Int) (i : Nat) : okD (lastK x p (i + 1)) y = decide (x + i < y) := by
  unfold okD
  rw [lastK_len, lastK_at x p (i + 1) _ (by omega)]
  have e : i + 1 - 16 + (i + 1 - (i + 1 - 16) - 1) = i := by omega
  rw [e]
  have h : (i + 1 - (i + 1 - 16) == 0) = false := by simp; omega
  rw [h]
  rfl
theorem keepR_eq (x p : Int) : ∀ i, keepR x p i = lastK x p i
  | 0 => rfl
  | i + 1 => by
    rw [keepR, keepR_eq x p i]
    have hok : okD (lastK x p i) (x + i) = true := by
      cases i with
      | zero => rfl
      | succ i => rw [okD_last]; simp; omega
    unfold delR
    rw [if_pos hok, lastK_len]
    have e : lastK x p i ++ [(x + (i : Int), bodN (twoN p i) (twoN p i).length)] = (List.range' (i - 16) (i - (i - 16) + 1)).map (rndK x p) := by
      unfold lastK
      rw [List.range'_concat, List.map_append]
      congr 1
      have : i - 16 + 1 * (i - (i - 16)) = i := by omega
      rw [this]
      rfl
    rw [e, ← List.map_drop]
    unfold lastK
    congr 1
    rw [List.drop_range']
    congr 1 <;> omega
theorem ok_next (x p : Int) (i : Nat) : okD (keepR x p i) (x + i) = true := by
  rw [keepR_eq]
  cases i with
  | zero => rfl
  | succ i => rw [okD_last]; simp; omega
theorem ok_again (x p : Int) (i : Nat) : okD (keepR x p (i + 1)) (x + i) = false := by rw [keepR_eq, okD_last]; simp
theorem ok_before (x p : Int) (i : Nat) : okD (keepR x p (i + 1)) (x - 1) = false := by rw [keepR_eq, okD_last]; simp; omega
theorem delR_no {R : List Rnd} {x : Int} (h : okD R x = false) (l : List NoteD) : delR R x l = R := by unfold delR; rw [h]; rfl
theorem cntD_no {R : List Rnd} {x : Int} (h : okD R x = false) (c : Int) : cntD R x c = c := by unfold cntD; rw [h]; rfl
theorem cntD_yes {R : List Rnd} {x : Int} (h : okD R x = true) (c : Int) : cntD R x c = c + 1 := by unfold cntD; rw [h]; rfl
theorem idxR_none {R : List Rnd} {m : Int} : ∀ n, (∀ j, j < n → (R.getD j rd0).1 ≠ m) → idxR R m n = -1
  | 0, _ => rfl
  | n + 1, h => by rw [idxR_step (idxR_none n (fun j hj => h j (by omega))), if_neg (h n (by omega))]
theorem idxR_some {R : List Rnd} {m : Int} {k : Nat} {n : Nat} (hk : k < n) (h : (R.getD k rd0).1 = m) (h0 : ∀ j, j < k → (R.getD j rd0).1 ≠ m) : idxR R m n = k := by
  have h1 : idxR R m (k + 1) = k := by rw [idxR_step (idxR_none k h0), if_pos h]
  rw [idxR_stays (n := k + 1) (by rw [h1]; omega) n (by omega), h1]
theorem fetchR_no {R : List Rnd} {m p : Int} {b : Body} (h : idxR R m R.length = -1) : fetchR R m p b = none := by unfold fetchR; rw [h]; rfl
theorem fetchR_yes {R : List Rnd} {m p : Int} {b : Body} {k : Nat} (h : idxR R m R.length = k) : fetchR R m p b = pickB ((R.getD k rd0).2 p) b := by
  unfold fetchR pickB
  rw [h, if_neg (by omega)]
  rfl
theorem keep_fetch (x p : Int) (n i : Nat) (hi : i < n) : fetchR (keepR x p n) (x + i) p ((i : Int), 1) = if (n : Int) - 16 ≤ i then some ((i : Int), 2) else none := by
  rw [keepR_eq]
  by_cases h : (n : Int) - 16 ≤ i
  · rw [if_pos h, fetchR_yes (k := i - (n - 16))]
    · rw [lastK_at x p n _ (by omega), show n - 16 + (i - (n - 16)) = i by omega]
      show pickB (bodN (twoN p i) 2 p) _ = _
      rw [show bodN (twoN p i) 2 = bodN (twoN p i) (twoN p i).length from rfl, bodN_all]
      simp [atP, twoN, pickB_two]
    · refine idxR_some (by rw [lastK_len]; omega) ?_ (fun j hj => ?_)
      · rw [lastK_at x p n _ (by omega)]; show x + ((n - 16 + (i - (n - 16)) : Nat) : Int) = x + i; omega
      · rw [lastK_at x p n _ (by omega)]; show x + ((n - 16 + j : Nat) : Int) ≠ x + i; omega
  · rw [if_neg h]
    refine fetchR_no (idxR_none _ (fun j hj => ?_))
    rw [lastK_len] at hj
    rw [lastK_at x p n _ hj]; show x + ((n - 16 + j : Nat) : Int) ≠ x + i; omega
theorem keep_len (x p : Int) (n : Nat) : (keepR x p n).length = n - (n - 16) := by rw [keepR_eq, lastK_len]
end Go.Proofs.Ytchmhpfccanamaa
