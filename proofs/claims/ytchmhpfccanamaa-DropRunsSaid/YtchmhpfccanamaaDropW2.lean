/- Layer 14: which round; the numbers of the rounds. -/
import Derived.Test.YtchmhpfccanamaaDropW1
set_option linter.unusedVariables false
set_option linter.unusedSimpArgs false
namespace Go.Proofs.Ytchmhpfccanamaa
open Go.RowKit
/-- the first round of R with this number, or -1 -/
def idxR (R : List Rnd) (m : Int) : Nat → Int
  | 0 => -1
  | n + 1 => if idxR R m n = -1 then (if (R.getD n rd0).1 = m then (n : Int) else -1) else idxR R m n
theorem idxR_step {R : List Rnd} {m : Int} {n : Nat} (h : idxR R m n = -1) : idxR R m (n + 1) = if (R.getD n rd0).1 = m then (n : Int) else -1 := by rw [idxR, if_pos h]
theorem idxR_stays {R : List Rnd} {m : Int} {n : Nat} (h : idxR R m n ≠ -1) : ∀ k, n ≤ k → idxR R m k = idxR R m n := by
  intro k hk
  induction k with
  | zero => obtain rfl : n = 0 := by omega
            rfl
  | succ k ih =>
    rcases Nat.lt_or_ge n (k + 1) with h1 | h1
    · have := ih (by omega)
      rw [idxR, if_neg (by rw [this]; exact h), this]
    · obtain rfl : n = k + 1 := by omega
      rfl
/-- what a slice of rounds is, cell by cell -/
structure RndsAt (w : World) (a : Option Addr) (R : List Rnd) : Prop where
  cells : 0 < R.length → ∃ b off, a = some ⟨b, off, none⟩ ∧ ∀ i, i < R.length → ∃ m, w.cell? ⟨b, off + i * 2, none⟩ = some (.int .i64 (R.getD i rd0).1) ∧ w.cell? ⟨b, off + i * 2 + 1, none⟩ = some (.map (some m)) ∧ FinB w m (R.getD i rd0).2
theorem RndsAt.same {w w' : World} {a : Option Addr} {R : List Rnd} (h : RndsAt w a R) (hs : Same w w') : RndsAt w' a R := ⟨fun h0 => by
  obtain ⟨b, off, e, hc⟩ := h.cells h0
  refine ⟨b, off, e, fun i hi => ?_⟩
  obtain ⟨m, h1, h2, h3⟩ := hc i hi
  exact ⟨m, same_cell hs h1, same_cell hs h2, h3.keep (Keep.of_same hs)⟩⟩
theorem KeptAt.cells {w : World} {B : Nat} {kv : Value} {R : List Rnd} (h : KeptAt w B kv R) : ∃ a cap, kv = .slice a R.length cap ∧ RndsAt w a R := by
  rcases h.ex with ⟨h1, h2⟩ | ⟨g, off, cap, cur, h1, h2, h3, h4, h5, h6, h7⟩
  · exact ⟨none, 0, by rw [h1, h2]; rfl, ⟨fun h0 => by rw [h2] at h0; simp at h0⟩⟩
  · refine ⟨some ⟨g, off, none⟩, cap, h1, ⟨fun _ => ⟨g, off, rfl, fun i hi => ?_⟩⟩⟩
    obtain ⟨m, a, b, c⟩ := h7 i hi
    exact ⟨m, (cell_at h3).trans a, (cell_at h3).trans b, c⟩
theorem indexFunc_any (a : Option Addr) (cap nb : Nat) (R : List Rnd) (x : Int) (hR : R.length ≤ 1000) (w : World) (h : RndsAt w a R) (hc : w.cell? ⟨nb, 0, none⟩ = some (.int .i64 x)) :
    Calls Try.prog 15 #[.slice a R.length cap, .func (.func 16) #[] #[.pointer (some ⟨nb, 0, none⟩)]] w fun z w' => z = .returned (.int .i64 (idxR R x R.length)) ∧ Same w w' := by
  have H := Lib.hid h
  have HC := Lib.hid hc
  clear h hc
  obtain ⟨n, en⟩ : ∃ n, R.length = n := ⟨_, rfl⟩
  have EN := Lib.hid en
  rw [en] at hR ⊢
  clear en
  go_enter Try.func15, Try.ntmps15
  go_wp2_with fail
  go_loopw [8] (fun s8 wr => ∃ i : Nat, s8 = .int .i64 i ∧ i ≤ n ∧ idxR R x i = -1 ∧ Hid (Same w wr)) (fun s8 _ => n - (intOf s8).toNat)
  case atStart => exact ⟨0, rfl, by omega, rfl, Lib.hid (Same.refl _)⟩
  case round =>
    obtain ⟨i, rfl, hi, hx, hD⟩ := hrel
    by_cases hlt : i < n
    · obtain ⟨b, off, ha, hcs⟩ := H.out.cells (by rw [EN.out]; omega)
      subst ha
      obtain ⟨m, h0, h1, _⟩ := hcs i (by rw [EN.out]; exact hlt)
      have hc0 := same_cell hD.out h0
      have hc1 := same_cell hD.out h1
      have HX := Lib.hid hx
      clear hcs h0 h1 hx
      obtain ⟨p, ep⟩ : ∃ p, (R.getD i rd0).1 = p := ⟨_, rfl⟩
      rw [ep] at hc0
      have EP := Lib.hid ep
      clear ep
      have hi0 : (0 : Int) ≤ i := by omega
      have hi1 : (i : Int) < n := by omega
      go_wp2_with (first | (refine (is_any p x _ nb _ (same_cell hD.out HC.out)).mono ?_; rintro e1 w1 ⟨rfl, hT⟩; have hb2 := Lib.hid (hD.out.trans hT)))
      · rename_i hb
        have hp : (R.getD i rd0).1 = x := by rw [EP.out]; simpa using hb
        have h1 : idxR R x (i + 1) = i := by rw [idxR_step HX.out, if_pos hp]
        have h2 : idxR R x n = i := by rw [idxR_stays (by rw [h1]; omega) n (by omega), h1]
        go_ret
        exact ⟨by rw [h2]; rfl, hb2.out⟩
      rename_i hb
      have h1 : idxR R x (i + 1) = -1 := by rw [idxR_step HX.out, if_neg (by rw [EP.out]; simpa using hb)]
      go_roundw
      case rel => exact ⟨i + 1, by go_num, by omega, h1, hb2⟩
      case measure => simp [intOf]; omega
    · obtain rfl : i = n := by omega
      go_wp2_with fail
      go_ret
      exact ⟨by rw [hx]; rfl, hD.out⟩
theorem info_int : (Try.prog.info? 3).map (fun i => (i.zero, i.size, i.bytes)) = some (some (.int .i64 0), 1, 8) := by kernel_rfl
theorem one_new (w : World) (x : Value) (t : TypeId) : ∀ (j : Nat) (u : Value), [x][j]? = some u → (w.alloc (.cells #[x] t)).cell? ((⟨w.heap.size, 0, none⟩ : Addr).add j) = some u := by
  intro j u hj
  match j, hj with
  | 0, hj => simp at hj; subst hj; simp [Addr.add, World.cell?_alloc_new]
theorem one_cellI (k : IntKind) (x : Int) : ∀ u ∈ [Value.int k x], u.oneCell' = true := by
  intro u hu; simp at hu; subst hu; rfl
/-- the numbers of the first i rounds -/
def numsOf (R : List Rnd) : Nat → List Value
  | 0 => []
  | i + 1 => numsOf R i ++ [.int .i64 (R.getD i rd0).1]
theorem numsOf_len (R : List Rnd) : ∀ i, (numsOf R i).length = i
  | 0 => rfl
  | i + 1 => by rw [numsOf, List.length_append, numsOf_len R i]; rfl
theorem numsOf_at (R : List Rnd) : ∀ n i, i < n → (numsOf R n)[i]? = some (.int .i64 (R.getD i rd0).1)
  | 0, i, h => by omega
  | n + 1, i, h => by
    rw [numsOf]
    by_cases hi : i < n
    · rw [List.getElem?_append_left (by rw [numsOf_len]; exact hi)]; exact numsOf_at R n i hi
    · obtain rfl : i = n := by omega
      rw [List.getElem?_append_right (by rw [numsOf_len]; exact Nat.le_refl _), numsOf_len]; simp
structure NumsAt (w : World) (a : Option Addr) (R : List Rnd) : Prop where
  cells : 0 < R.length → ∃ g, a = some ⟨g, 0, none⟩ ∧ ∀ i, i < R.length → w.cell? ⟨g, i, none⟩ = some (.int .i64 (R.getD i rd0).1)
theorem NumsAt.same {w w' : World} {a : Option Addr} {R : List Rnd} (h : NumsAt w a R) (hs : Same w w') : NumsAt w' a R := ⟨fun h0 => by
  obtain ⟨g, e, hc⟩ := h.cells h0
  exact ⟨g, e, fun i hi => same_cell hs (hc i hi)⟩⟩
theorem nums_of {w : World} {B n : Nat} {v : Value} {R : List Rnd} (en : R.length = n) (h : w.ownsRow B 3 1 v n (numsOf R n)) : ∃ a cap, v = .slice a n cap ∧ NumsAt w a R := by
  have h' := h
  obtain ⟨hl, h1 | ⟨g, cap, cur, hv, hb, hh, hn, hm, hs, ht⟩⟩ := h
  · obtain ⟨rfl, rfl⟩ := h1
    exact ⟨none, 0, rfl, ⟨fun h0 => by omega⟩⟩
  · subst hv
    refine ⟨_, cap, rfl, ⟨fun h0 => ⟨g, rfl, fun i hi => ?_⟩⟩⟩
    have h2 := h'.cellAt i (by omega)
    rw [h2]
    exact numsOf_at R n i (by omega)
theorem rounds_any (B ob : Nat) (R : List Rnd) (cnt : Int) (hR : R.length ≤ 1000) (w : World) (h : OffAt w B ob R cnt) :
    Calls Try.prog 12 #[.pointer (some ⟨ob, 0, none⟩)] w fun e w' => ∃ a cap, e = .returned (.slice a R.length cap) ∧ NumsAt w' a R ∧ Same w w' := by
  obtain ⟨kv, h1, _, hk⟩ := h.ex
  obtain ⟨a, cap, hkv, hr⟩ := hk.cells
  subst hkv
  obtain ⟨n, en⟩ : ∃ n, R.length = n := ⟨_, rfl⟩
  rw [en] at h1 hR ⊢
  have c0 : w.cell? ⟨ob, 0, none⟩ = some (.slice a n cap) := by rw [cell_at h1]; rfl
  have H := Lib.hid hr
  have EN := Lib.hid en
  clear h h1 hk hr en
  obtain ⟨i0, hi, hz0, hz1, hz2⟩ := info_parts info_int
  go_enter Try.func12, Try.ntmps12
  go_wp2_with fail
  go_loopw [3, 13] (fun s3 s13 wr => ∃ i : Nat, s13 = .int .i64 i ∧ i ≤ n ∧ wr.ownsRow w.heap.size 3 1 s3 i (numsOf R i) ∧ Hid (Same w wr)) (fun _ s13 _ => n - (intOf s13).toNat)
  case atStart => exact ⟨0, rfl, by omega, World.ownsRow_nil _ _ _ _, Lib.hid (Same.refl _)⟩
  case round =>
    obtain ⟨i, rfl, hi', hown, hD⟩ := hrel
    by_cases hlt : i < n
    · obtain ⟨b, off, ha, hcs⟩ := H.out.cells (by rw [EN.out]; omega)
      subst ha
      obtain ⟨m, h0, h1, _⟩ := hcs i (by rw [EN.out]; exact hlt)
      have hc0 := same_cell hD.out h0
      have hc1 := same_cell hD.out h1
      clear hcs h0 h1
      obtain ⟨p, ep⟩ : ∃ p, (R.getD i rd0).1 = p := ⟨_, rfl⟩
      rw [ep] at hc0
      have EP := Lib.hid ep
      clear ep
      have hi0 : (0 : Int) ≤ i := by omega
      have hi1 : (i : Int) < n := by omega
      have HO := Lib.hid hown
      clear hown
      go_upto_region 6 with fail
      obtain ⟨wo, ewo⟩ : ∃ wo, wr.alloc (.cells #[.int .i64 p, .map (some m)] 58) = wo := ⟨_, rfl⟩
      obtain ⟨ox, eox⟩ : ∃ ox, wr.heap.size = ox := ⟨_, rfl⟩
      have k0 : wo.cell? ⟨ox, 0, none⟩ = some (.int .i64 p) := by rw [← ewo, ← eox]; simp [World.cell?_alloc_new]
      have hown : wo.ownsRow w.heap.size 3 1 u3 i (numsOf R i) := by rw [← ewo]; exact HO.out.alloc _
      have hDo := Lib.hid (show Same w wo by rw [← ewo]; exact hD.out.alloc _)
      rw [ewo, eox]
      clear ewo eox hc0 hc1
      go_wp2_with (first
        | (at_builtin; refine wpList_append_own _ rfl _ _ 40 rfl w.heap.size 3 i0 (.int .i64 0) 1 8 Try.underlying40 hi hz0 hz1 hz2 rfl (by decide) _ _ _ rfl (hown.alloc _) ⟨wo.heap.size, 0, none⟩ 1 1 [.int .i64 p] rfl rfl (one_new _ _ _) (one_cellI _ _) (by unfold maxLen; omega) (by omega) (by have := hDo.out.size; simp; omega) ?_; intro v' w7 hown' hgrow _; have hb2 := Lib.hid (show Same w w7 from Below.grown (hDo.out.alloc _) hgrow (by have := hDo.out.size; simp; omega) (fun k hk => (hown.lt k hk).1)); have HN := Lib.hid hown'; clear hown' hgrow))
      go_roundw
      case rel => exact ⟨i + 1, by go_num, by omega, by rw [numsOf, EP.out]; exact HN.out, hb2⟩
      case measure => simp [intOf]; omega
    · obtain rfl : i = n := by omega
      obtain ⟨a2, cap2, hv, hn2⟩ := nums_of EN.out hown
      subst hv
      go_wp2_with fail
      go_ret
      exact ⟨a2, cap2, rfl, hn2, hD.out⟩
end Go.Proofs.Ytchmhpfccanamaa
