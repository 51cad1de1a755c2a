/- Layer 10: the reader's box. -/
import Derived.Test.YtdbhcdhenapfoaaWireR
set_option linter.unusedVariables false
set_option linter.unusedSimpArgs false
namespace Go.Proofs.Ytdbhcdhenapfoaa
open Go.RowKit Go.Maps
def padV (xs : List Int) (k : Nat) : Array Value := (xs.map (Value.int .u64) ++ List.replicate (k - xs.length) (Value.int .u64 0)).toArray
theorem padV_set {xs : List Int} {k : Nat} (h : xs.length < k) (x : Int) : (padV xs k).setIfInBounds xs.length (.int .u64 x) = padV (xs ++ [x]) k := by
  obtain ⟨m, hm⟩ : ∃ m, k - xs.length = m + 1 := ⟨k - xs.length - 1, by omega⟩
  have h2 : k - (xs ++ [x]).length = m := by rw [List.length_append]; simp; omega
  unfold padV
  rw [hm, h2, List.replicate_succ, List.setIfInBounds_toArray, List.map_append]
  simp [List.set_append]
theorem padV_at {xs : List Int} {k i : Nat} (h : xs.length ≤ i) (hk : i < k) : (padV xs k)[i]? = some (.int .u64 0) := by
  unfold padV
  rw [List.getElem?_toArray, List.getElem?_append_right (by simpa using h), List.length_map, List.getElem?_replicate, if_pos (by omega)]
theorem padV_full {xs : List Int} {k : Nat} (h : xs.length = k) : padV xs k = (xs.map (Value.int .u64)).toArray := by
  unfold padV; rw [h]; simp
theorem six {xs : List Int} (h : xs.length = 6) : ∃ a b c d e f, xs = [a, b, c, d, e, f] := by
  match xs, h with
  | [a, b, c, d, e, f], _ => exact ⟨a, b, c, d, e, f, rfl⟩
abbrev boxV (xs : List Int) : Value := .agg (xs.map (Value.int .u64)).toArray
def set6 (w : World) (b : Nat) (u0 u1 u2 u3 u4 u5 : Value) : World := (((((w.setCell ⟨b, 0, none⟩ u0).setCell ⟨b, 1, none⟩ u1).setCell ⟨b, 2, none⟩ u2).setCell ⟨b, 3, none⟩ u3).setCell ⟨b, 4, none⟩ u4).setCell ⟨b, 5, none⟩ u5
theorem set_six {w : World} {b : Nat} {v0 v1 v2 v3 v4 v5 : Value} {t : TypeId} (h : w.heap[b]? = some (.cells #[v0, v1, v2, v3, v4, v5] t (0, 0))) (u0 u1 u2 u3 u4 u5 : Value) :
    (set6 w b u0 u1 u2 u3 u4 u5).heap[b]? = some (.cells #[u0, u1, u2, u3, u4, u5] t (0, 0)) ∧ ∀ k, k ≠ b → (set6 w b u0 u1 u2 u3 u4 u5).heap[k]? = w.heap[k]? := by
  have h5 := heap_set (o := 5) (heap_set (o := 4) (heap_set (o := 3) (heap_set (o := 2) (heap_set (o := 1) (heap_set (o := 0) h u0) u1) u2) u3) u4) u5
  refine ⟨by unfold set6; rw [h5]; rfl, fun k hk => ?_⟩
  unfold set6
  rw [heap_far _ hk, heap_far _ hk, heap_far _ hk, heap_far _ hk, heap_far _ hk, heap_far _ hk]
theorem Off.put6 {S : Nat → Prop} {a w : World} (h : Off S a w) {b : Nat} (hb : a.heap.size ≤ b) (u0 u1 u2 u3 u4 u5 : Value) : Off S a (set6 w b u0 u1 u2 u3 u4 u5) :=
  (((((h.put hb _ _).put hb _ _).put hb _ _).put hb _ _).put hb _ _).put hb _ _
set_option maxHeartbeats 1600000 in
theorem rbox_any (rb : Nat) (l : Bs) (hl : l.length ≤ 1000000000) (w : World) (h : RdrAt w rb l) :
    Calls Try.prog 40 #[.pointer (some ⟨rb, 0, none⟩)] w fun z w' =>
      Off (· = rb) w w' ∧ ((∃ xs r, boxC.par l = some (xs, r) ∧ z = .returned (boxV xs) ∧ RdrAt w' rb r) ∨ (boxC.par l = none ∧ z = .panicked [badP])) := by
  have hrl := (Array.getElem?_eq_some_iff.1 h).1
  obtain ⟨Z, eZ⟩ : ∃ Z : Array Value, #[.int .u64 0, .int .u64 0, .int .u64 0, .int .u64 0, .int .u64 0, .int .u64 0] = Z := ⟨_, rfl⟩
  obtain ⟨w0, ew0⟩ : ∃ w0, (w.alloc (.cells #[.int .u64 0, .int .u64 0, .int .u64 0, .int .u64 0, .int .u64 0, .int .u64 0] 37)).alloc (.cells #[.int .u64 0, .int .u64 0, .int .u64 0, .int .u64 0, .int .u64 0, .int .u64 0] 37) = w0 := ⟨_, rfl⟩
  obtain ⟨b2, eb2⟩ : ∃ b2, w.heap.size = b2 := ⟨_, rfl⟩
  have hsz : (w.alloc (.cells #[.int .u64 0, .int .u64 0, .int .u64 0, .int .u64 0, .int .u64 0, .int .u64 0] 37)).heap.size = b2 + 1 := by rw [← eb2]; simp
  have HRL := Lib.hid (show rb < b2 by omega)
  have hS0 : Same w w0 := by rw [← ew0]; exact ((Same.refl w).alloc _).alloc _
  have hB2 : w0.heap[b2]? = some (.cells #[.int .u64 0, .int .u64 0, .int .u64 0, .int .u64 0, .int .u64 0, .int .u64 0] 37 (0, 0)) := by
    rw [← ew0]; exact ((Same.refl _).alloc _).keep (by rw [← eb2]; exact heap_new _ _)
  have hB3 : w0.heap[b2 + 1]? = some (.cells (padV [] 6) 37 (0, 0)) := by rw [← ew0, ← hsz]; exact heap_new _ _
  have HR0 := Lib.hid (hS0.keep h)
  have HO0 := Lib.hid (show Off (· = rb) w w0 from Off.of_same hS0)
  have EW0 := Lib.hid ew0
  have EB2 := Lib.hid eb2
  have HB2 := Lib.hid hB2
  have HB3 := Lib.hid hB3
  clear h hrl hS0 ew0 eb2 hsz hB2 hB3 eZ
  go_enter Try.func40, Try.ntmps40
  go_upto_region 2 with fail
  rw [EW0.out, EB2.out]
  go_wp2_with fail
  go_loopw [5] (fun s5 wr => ∃ i : Nat, s5 = .int .i64 i ∧ i ≤ 3 ∧ Hid (∃ xs r, many numC (2 * i) l = some (xs, r) ∧ wr.heap[b2 + 1]? = some (.cells (padV xs 6) 37 (0, 0)) ∧ wr.heap[b2]? = some (.cells #[.int .u64 0, .int .u64 0, .int .u64 0, .int .u64 0, .int .u64 0, .int .u64 0] 37 (0, 0)) ∧ RdrAt wr rb r ∧ Off (· = rb) w wr)) (fun s5 _ => 3 - (intOf s5).toNat)
  case atStart => exact ⟨0, rfl, by omega, Lib.hid ⟨[], l, rfl, HB3.out, HB2.out, HR0.out, HO0.out⟩⟩
  case round =>
    obtain ⟨i, rfl, hi, hI⟩ := hrel
    obtain ⟨xs, r, hm, hb3, hb2, hR, hO⟩ := hI.out
    have HM := Lib.hid hm
    have HB3 := Lib.hid hb3
    have HB2 := Lib.hid hb2
    have HR := Lib.hid hR
    have HO := Lib.hid hO
    have hrl : r.length ≤ 1000000000 := Nat.le_trans (many_rest _ hm) hl
    have HLX := Lib.hid (many_len _ _ _ _ _ hm)
    clear hI hm hb3 hb2 hR hO
    by_cases hlt : i < 3
    · have hi0 : (0 : Int) ≤ i := by omega
      have hi1 : (i : Int) < 3 := by omega
      go_wp2_with fail
      refine (num_any rb r hrl _ HR.out).mono ?_
      rintro e w3 ⟨hO3, (⟨x, r', hpx, rfl, hR3⟩ | ⟨hpx, rfl⟩)⟩
      case inr =>
        have hN := many_stop numC HM.out hpx 6 (by omega)
        go_wp2_with fail
        exact ⟨rfl, HO.out.trans hO3, Or.inr ⟨hN, rfl⟩⟩
      have hb33 := hO3.keep (b := b2 + 1) (by have := HRL.out; omega) HB3.out
      have c3 : w3.cell? ⟨b2 + 1, i * 2, none⟩ = some (.int .u64 0) := by rw [cell_at hb33]; exact padV_at (by rw [HLX.out]; omega) (by omega)
      have f3 : w3.frozen? ⟨b2 + 1, i * 2, none⟩ = false := free_at hb33
      obtain ⟨w4, ew4⟩ : ∃ w4, w3.setCell ⟨b2 + 1, i * 2, none⟩ (.int .u64 x) = w4 := ⟨_, rfl⟩
      have HB4 := Lib.hid (show w4.heap[b2 + 1]? = some (.cells (padV (xs ++ [x]) 6) 37 (0, 0)) by
        rw [← ew4, heap_set hb33, ← padV_set (by rw [HLX.out]; omega), HLX.out, show 2 * i = i * 2 by omega])
      have HB24 := Lib.hid (show w4.heap[b2]? = some (.cells #[.int .u64 0, .int .u64 0, .int .u64 0, .int .u64 0, .int .u64 0, .int .u64 0] 37 (0, 0)) by rw [← ew4]; exact put_far (hO3.keep (b := b2) (by have := HRL.out; omega) HB2.out) (by omega))
      have HR4 := Lib.hid (show RdrAt w4 rb r' by rw [← ew4]; exact put_far hR3 (by have := HRL.out; omega))
      have HO4 := Lib.hid (show Off (· = rb) w w4 by rw [← ew4]; exact (HO.out.trans hO3).put (by have := EB2.out; omega) _ _)
      have HM4 := Lib.hid (many_next numC HM.out hpx)
      have hrl4 : r'.length ≤ 1000000000 := Nat.le_trans (many_rest _ HM4.out) hl
      have EW4 := Lib.hid ew4
      clear hb33 ew4 hO3 hR3 hpx
      go_upto_region 6 with fail
      rw [EW4.out]
      clear c3 f3
      go_wp2_with fail
      refine (num_any rb r' hrl4 _ HR4.out).mono ?_
      rintro e w5 ⟨hO5, (⟨y, r2, hpy, rfl, hR5⟩ | ⟨hpy, rfl⟩)⟩
      case inr =>
        have hN := many_stop numC HM4.out hpy 6 (by omega)
        go_wp2_with fail
        exact ⟨rfl, HO4.out.trans hO5, Or.inr ⟨hN, rfl⟩⟩
      have hb5 := hO5.keep (b := b2 + 1) (by have := HRL.out; omega) HB4.out
      have c5 : w5.cell? ⟨b2 + 1, i * 2 + 1, none⟩ = some (.int .u64 0) := by rw [cell_at hb5]; exact padV_at (by rw [List.length_append, HLX.out]; simp; omega) (by omega)
      have f5 : w5.frozen? ⟨b2 + 1, i * 2 + 1, none⟩ = false := free_at hb5
      obtain ⟨w6, ew6⟩ : ∃ w6, w5.setCell ⟨b2 + 1, i * 2 + 1, none⟩ (.int .u64 y) = w6 := ⟨_, rfl⟩
      have hlen2 : (xs ++ [x]).length = i * 2 + 1 := by rw [List.length_append, HLX.out]; simp; omega
      have HFIN := Lib.hid (show ∃ xs r, many numC (2 * (i + 1)) l = some (xs, r) ∧ w6.heap[b2 + 1]? = some (.cells (padV xs 6) 37 (0, 0)) ∧ w6.heap[b2]? = some (.cells #[.int .u64 0, .int .u64 0, .int .u64 0, .int .u64 0, .int .u64 0, .int .u64 0] 37 (0, 0)) ∧ RdrAt w6 rb r ∧ Off (· = rb) w w6 from by
        rw [← ew6]
        have e1 := HRL.out
        have e2 := EB2.out
        refine ⟨(xs ++ [x]) ++ [y], r2, many_next numC HM4.out hpy, ?_, put_far (hO5.keep (b := b2) (by omega) HB24.out) (by omega), put_far hR5 (by omega), (HO4.out.trans hO5).put (by omega) _ _⟩
        have hpv := padV_set (xs := xs ++ [x]) (k := 6) (by omega) y
        rw [hlen2] at hpv
        rw [heap_set hb5, hpv])
      have EW6 := Lib.hid ew6
      clear hb5 ew6 hO5 hR5 hpy hlen2
      go_upto_region 7 with fail
      rw [EW6.out]
      clear c5 f5
      go_wp2_with fail
      go_roundw
      case rel => exact ⟨i + 1, by go_num, by omega, HFIN⟩
      case measure => simp [intOf]; omega
    · obtain rfl : i = 3 := by omega
      obtain ⟨x0, x1, x2, x3, x4, x5, rfl⟩ := six HLX.out
      have hb3 : wr.heap[b2 + 1]? = some (.cells #[.int .u64 x0, .int .u64 x1, .int .u64 x2, .int .u64 x3, .int .u64 x4, .int .u64 x5] 37 (0, 0)) := HB3.out
      have g0 : wr.cell? ⟨b2 + 1, 0, none⟩ = some (.int .u64 x0) := by rw [cell_at hb3]; rfl
      have g1 : wr.cell? ⟨b2 + 1, 1, none⟩ = some (.int .u64 x1) := by rw [cell_at hb3]; rfl
      have g2 : wr.cell? ⟨b2 + 1, 2, none⟩ = some (.int .u64 x2) := by rw [cell_at hb3]; rfl
      have g3 : wr.cell? ⟨b2 + 1, 3, none⟩ = some (.int .u64 x3) := by rw [cell_at hb3]; rfl
      have g4 : wr.cell? ⟨b2 + 1, 4, none⟩ = some (.int .u64 x4) := by rw [cell_at hb3]; rfl
      have g5 : wr.cell? ⟨b2 + 1, 5, none⟩ = some (.int .u64 x5) := by rw [cell_at hb3]; rfl
      have q0 : wr.cell? ⟨b2, 0, none⟩ = some (.int .u64 0) := by rw [cell_at HB2.out]; rfl
      have q1 : wr.cell? ⟨b2, 1, none⟩ = some (.int .u64 0) := by rw [cell_at HB2.out]; rfl
      have q2 : wr.cell? ⟨b2, 2, none⟩ = some (.int .u64 0) := by rw [cell_at HB2.out]; rfl
      have q3 : wr.cell? ⟨b2, 3, none⟩ = some (.int .u64 0) := by rw [cell_at HB2.out]; rfl
      have q4 : wr.cell? ⟨b2, 4, none⟩ = some (.int .u64 0) := by rw [cell_at HB2.out]; rfl
      have q5 : wr.cell? ⟨b2, 5, none⟩ = some (.int .u64 0) := by rw [cell_at HB2.out]; rfl
      have f0 : wr.frozen? ⟨b2, 0, none⟩ = false := free_at HB2.out
      have f1 : wr.frozen? ⟨b2, 1, none⟩ = false := free_at HB2.out
      have f2 : wr.frozen? ⟨b2, 2, none⟩ = false := free_at HB2.out
      have f3 : wr.frozen? ⟨b2, 3, none⟩ = false := free_at HB2.out
      have f4 : wr.frozen? ⟨b2, 4, none⟩ = false := free_at HB2.out
      have f5 : wr.frozen? ⟨b2, 5, none⟩ = false := free_at HB2.out
      obtain ⟨w5, ew5⟩ : ∃ w5, set6 wr b2 (.int .u64 x0) (.int .u64 x1) (.int .u64 x2) (.int .u64 x3) (.int .u64 x4) (.int .u64 x5) = w5 := ⟨_, rfl⟩
      have hs6 := set_six HB2.out (.int .u64 x0) (.int .u64 x1) (.int .u64 x2) (.int .u64 x3) (.int .u64 x4) (.int .u64 x5)
      have HFIN := Lib.hid (show Off (· = rb) w w5 ∧ RdrAt w5 rb r by
        rw [← ew5]
        exact ⟨HO.out.put6 (by have := EB2.out; omega) _ _ _ _ _ _, (hs6.2 rb (by have := HRL.out; omega)).trans HR.out⟩)
      rw [ew5] at hs6
      have p0 : w5.cell? ⟨b2, 0, none⟩ = some (.int .u64 x0) := by rw [cell_at hs6.1]; rfl
      have p1 : w5.cell? ⟨b2, 1, none⟩ = some (.int .u64 x1) := by rw [cell_at hs6.1]; rfl
      have p2 : w5.cell? ⟨b2, 2, none⟩ = some (.int .u64 x2) := by rw [cell_at hs6.1]; rfl
      have p3 : w5.cell? ⟨b2, 3, none⟩ = some (.int .u64 x3) := by rw [cell_at hs6.1]; rfl
      have p4 : w5.cell? ⟨b2, 4, none⟩ = some (.int .u64 x4) := by rw [cell_at hs6.1]; rfl
      have p5 : w5.cell? ⟨b2, 5, none⟩ = some (.int .u64 x5) := by rw [cell_at hs6.1]; rfl
      have EW5 := Lib.hid ew5
      clear ew5 hs6 hb3
      go_wp2_with fail
      rw [show ((((((wr.setCell ⟨b2, 0, none⟩ (.int .u64 x0)).setCell ⟨b2, 1, none⟩ (.int .u64 x1)).setCell ⟨b2, 2, none⟩ (.int .u64 x2)).setCell ⟨b2, 3, none⟩ (.int .u64 x3)).setCell ⟨b2, 4, none⟩ (.int .u64 x4)).setCell ⟨b2, 5, none⟩ (.int .u64 x5)) = w5 from EW5.out]
      refine bodyPost_ret (by simp [results, Try.results40, go_sem, p0, p1, p2, p3, p4, p5]; try rfl) rfl ?_
      exact ⟨HFIN.out.1, Or.inl ⟨_, r, HM.out, rfl, HFIN.out.2⟩⟩
end Go.Proofs.Ytdbhcdhenapfoaa
