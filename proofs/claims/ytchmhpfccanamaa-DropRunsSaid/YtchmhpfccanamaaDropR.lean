/- Layer 14: the reference's rounds are the office's, in plain words; acts in memory. -/
import Derived.Test.YtchmhpfccanamaaDropZ
set_option linter.unusedVariables false
set_option linter.unusedSimpArgs false
namespace Go.Proofs.Ytchmhpfccanamaa
open Go.RowKit
theorem okD_rnds (L : List RRnd) (x : Int) : okD (rnds L) x = okL L x := by
  unfold okD okL
  rw [rnds_len]
  by_cases h : L.length = 0
  · rw [h]; rfl
  · rw [rnds_at L _ (by omega)]
theorem delR_rnds (L : List RRnd) (x : Int) (l : List NoteD) : delR (rnds L) x l = rnds (delL L x l) := by
  unfold delR delL
  rw [okD_rnds, rnds_len]
  split
  · unfold rnds; rw [List.map_drop, List.map_append]; rfl
  · rfl
theorem cntD_rnds (L : List RRnd) (x c : Int) : cntD (rnds L) x c = cntL L x c := by unfold cntD cntL; rw [okD_rnds]
/-- rounds that rise -/
structure Rise (L : List RRnd) : Prop where
  few : L.length ≤ 16
  rise : ∀ i j, i < j → j < L.length → (L.getD i (0, [])).1 < (L.getD j (0, [])).1
  short : ∀ i, i < L.length → (L.getD i (0, [])).2.length ≤ 2000
theorem Rise.nil : Rise [] := ⟨by simp, fun i j _ h => by simp at h, fun i h => by simp at h⟩
theorem getD_app {α : Type} {L : List α} {x d : α} {i : Nat} (h : i < L.length) : (L ++ [x]).getD i d = L.getD i d := by simp [List.getD, List.getElem?_append, h]
theorem getD_last {α : Type} {L : List α} {x d : α} {i : Nat} (h : i = L.length) : (L ++ [x]).getD i d = x := by subst h; simp [List.getD]
theorem getD_drop {α : Type} (L : List α) (k i : Nat) (d : α) : (L.drop k).getD i d = L.getD (k + i) d := by simp [List.getD]
theorem Rise.del {L : List RRnd} (h : Rise L) (x : Int) (l : List NoteD) (hl : l.length ≤ 2000) : Rise (delL L x l) := by
  unfold delL
  split
  · rename_i hok
    have hlast : ∀ i, i < L.length → (L.getD i (0, [])).1 < x := by
      intro i hi
      unfold okL at hok
      have h1 : (L.length == 0) = false := beq_eq_false_iff_ne.2 (by omega)
      rw [h1, Bool.false_or, decide_eq_true_eq] at hok
      rcases Nat.lt_or_ge i (L.length - 1) with h2 | h2
      · have := h.rise i (L.length - 1) h2 (by omega); omega
      · obtain rfl : i = L.length - 1 := by omega
        exact hok
    have hlen : ((L ++ [(x, l)]).drop (L.length + 1 - 16)).length = L.length + 1 - (L.length + 1 - 16) := by rw [List.length_drop, List.length_append]; rfl
    have hf := h.few
    refine ⟨by omega, fun i j hij hj => ?_, fun i hi => ?_⟩
    · rw [getD_drop, getD_drop]
      by_cases hj2 : L.length + 1 - 16 + j < L.length
      · rw [getD_app (by omega), getD_app hj2]
        exact h.rise _ _ (by omega) hj2
      · rw [getD_app (by omega), getD_last (by omega)]
        exact hlast _ (by omega)
    · rw [getD_drop]
      by_cases hi2 : L.length + 1 - 16 + i < L.length
      · rw [getD_app hi2]; exact h.short _ hi2
      · rw [getD_last (by omega)]; exact hl
  · exact h
theorem Rise.apart {L : List RRnd} (h : Rise L) : ∀ i j, i < j → j < L.length → (L.getD i (0, [])).1 ≠ (L.getD j (0, [])).1 := fun i j hij hj => by have := h.rise i j hij hj; omega
theorem cntL_le (L : List RRnd) (x c : Int) (i : Nat) (h : 0 ≤ c ∧ c ≤ i) : 0 ≤ cntL L x c ∧ cntL L x c ≤ (i + 1 : Nat) := by unfold cntL; split <;> omega
theorem new_two2 (w : World) (x y : Value) (t : TypeId) : (w.alloc (.cells #[x, y] t)).cell? ⟨w.heap.size, 0, none⟩ = some x ∧ (w.alloc (.cells #[x, y] t)).cell? ⟨w.heap.size, 1, none⟩ = some y := ⟨by simp [World.cell?_alloc_new], by simp [World.cell?_alloc_new]⟩
/-- an act -/
structure ActD where
  what : Int
  round : Int
  na : Option Addr
  nn : Nat
  nc : Nat
  l : List NoteD
  place : Int
  e : Int
  f : Int
abbrev ac0 : ActD := ⟨0, 0, none, 0, 0, [], 0, 0, 0⟩
structure ActAt (w : World) (x : ActD) : Prop where
  notes : NotesAt w x.na x.nn x.l
  place : U64 x.place
  small : x.nn * 24 ≤ 140737488355328
  round : -9223372036854775808 ≤ x.round ∧ x.round ≤ 9223372036854775807
structure ActsAt (w : World) (a : Option Addr) (n : Nat) (xs : List ActD) : Prop where
  len : xs.length = n
  cells : 0 < n → ∃ b off, a = some ⟨b, off, none⟩ ∧ ∀ j, j < n → w.cell? ⟨b, off + j * 6, none⟩ = some (.int .i64 (xs.getD j ac0).what) ∧ w.cell? ⟨b, off + j * 6 + 1, none⟩ = some (.int .i64 (xs.getD j ac0).round) ∧
    w.cell? ⟨b, off + j * 6 + 2, none⟩ = some (.slice (xs.getD j ac0).na (xs.getD j ac0).nn (xs.getD j ac0).nc) ∧ w.cell? ⟨b, off + j * 6 + 3, none⟩ = some (.int .u64 (xs.getD j ac0).place) ∧
    w.cell? ⟨b, off + j * 6 + 4, none⟩ = some (.int .u64 (xs.getD j ac0).e) ∧ w.cell? ⟨b, off + j * 6 + 5, none⟩ = some (.int .u64 (xs.getD j ac0).f)
  each : ∀ j, j < n → ActAt w (xs.getD j ac0)
def sumN (xs : List ActD) : Nat → Nat
  | 0 => 0
  | j + 1 => sumN xs j + (xs.getD j ac0).nn
theorem sumN_le (xs : List ActD) : ∀ n j, j < n → (xs.getD j ac0).nn ≤ sumN xs n
  | 0, j, h => by omega
  | n + 1, j, h => by
    unfold sumN
    by_cases hj : j < n
    · have := sumN_le xs n j hj; omega
    · obtain rfl : j = n := by omega
      omega
end Go.Proofs.Ytchmhpfccanamaa
