/- Layer 14: the small functions. -/
import Derived.Test.YtchmhpfccanamaaDropO
import Derived.Laws.LoneSync
import Derived.ChangeKeysEq
import Derived.Deep.RegionHeld3
set_option linter.unusedVariables false
set_option linter.unusedSimpArgs false
namespace Go.Proofs.Ytchmhpfccanamaa
open Go.RowKit
theorem add_any (b o : Nat) (x : Int) (w : World) (hc : w.cell? ⟨b, o, none⟩ = some (.int .i64 x)) (hz : w.frozen? ⟨b, o, none⟩ = false) (hx : 0 ≤ x ∧ x ≤ 100000) :
    Calls Try.prog 14 #[.pointer (some ⟨b, o, none⟩), .int .i64 1] w fun e w' => e = .returned (.int .i64 (x + 1)) ∧ w' = w.setCell ⟨b, o, none⟩ (.int .i64 (x + 1)) := by
  have hadd := run_call_add (P := Try.prog) Try.func19 (by kernel_rfl) (by kernel_rfl) (by kernel_rfl) .i64 (by kernel_rfl) (y := 1) (s := x + 1) hc hz (by simp [go_sem, IntKind.wrap_i64, wrap64]; omega)
  go_enter Try.func14, Try.ntmps14
  go_wp2
  go_ret
  exact ⟨rfl, rfl⟩
theorem load_any (b o : Nat) (x : Int) (w : World) (hc : w.cell? ⟨b, o, none⟩ = some (.int .i64 x)) :
    Calls Try.prog 18 #[.pointer (some ⟨b, o, none⟩)] w fun e w' => e = .returned (.int .i64 x) ∧ w' = w := by
  have hl := run_call_load (P := Try.prog) Try.func20 (by kernel_rfl) (by kernel_rfl) (by kernel_rfl) .i64 (by kernel_rfl) hc
  go_enter Try.func18, Try.ntmps18
  go_wp2
  go_ret
  exact ⟨rfl, rfl⟩
theorem new_any (w : World) :
    Calls Try.prog 7 #[] w fun e w' => e = .returned (.pointer (some ⟨w.heap.size, 0, none⟩)) ∧ w' = w.alloc (.cells #[.slice none 0 0, .int .i64 0] 55) := by
  go_enter Try.func7, Try.ntmps7
  go_wp2
  go_ret
  exact ⟨rfl, rfl⟩
theorem count_any (B ob : Nat) (R : List Rnd) (cnt : Int) (w : World) (h : OffAt w B ob R cnt) :
    Calls Try.prog 13 #[.pointer (some ⟨ob, 0, none⟩)] w fun e w' => e = .returned (.int .i64 cnt) ∧ w' = w := by
  obtain ⟨kv, h1, _⟩ := h.ex
  have c0 : w.cell? ⟨ob, 1, none⟩ = some (.int .i64 cnt) := by rw [cell_at h1]; rfl
  go_enter Try.func13, Try.ntmps13
  go_wp2_with fail
  refine (load_any ob 1 cnt w c0).mono ?_
  rintro e w1 ⟨rfl, rfl⟩
  go_wp2_with fail
  go_ret
  exact ⟨rfl, rfl⟩
theorem is_any (a x : Int) (m : Value) (nb : Nat) (w : World) (hc : w.cell? ⟨nb, 0, none⟩ = some (.int .i64 x)) :
    Calls Try.prog 16 #[.agg #[.int .i64 a, m], .pointer (some ⟨nb, 0, none⟩)] w fun e w' => e = .returned (.bool (a == x)) ∧ Same w w' := by
  have h0 := same_cell ((Same.refl w).alloc (.cells #[.int .i64 a, m] 58)) hc
  go_enter Try.func16, Try.ntmps16
  go_wp2_with fail
  go_ret
  exact ⟨rfl, (Same.refl w).alloc _⟩
/-- the first of l that is m, or -1 -/
def idxB (l : List Body) (m : Body) : Nat → Int
  | 0 => -1
  | n + 1 => if idxB l m n = -1 then (if l.getD n (0, 0) = m then (n : Int) else -1) else idxB l m n
theorem idxB_step {l : List Body} {m : Body} {n : Nat} (h : idxB l m n = -1) : idxB l m (n + 1) = if l.getD n (0, 0) = m then (n : Int) else -1 := by rw [idxB, if_pos h]
theorem idxB_stays {l : List Body} {m : Body} {n : Nat} (h : idxB l m n ≠ -1) : ∀ k, n ≤ k → idxB l m k = idxB l m n := by
  intro k hk
  induction k with
  | zero => obtain rfl : n = 0 := by omega
            rfl
  | succ k ih =>
    rcases Nat.lt_or_ge n (k + 1) with h1 | h1
    · have := ih (by omega)
      rw [idxB, if_neg (by rw [this]; exact h), this]
    · obtain rfl : n = k + 1 := by omega
      rfl
structure PairsAt (w : World) (a : Option Addr) (n : Nat) (l : List Body) : Prop where
  len : l.length = n
  small : n ≤ 9223372036854775807
  cells : 0 < n → ∃ b off, a = some ⟨b, off, none⟩ ∧ ∀ j, j < n → w.cell? ⟨b, off + j * 2, none⟩ = some (.int .u64 (l.getD j (0, 0)).1) ∧ w.cell? ⟨b, off + j * 2 + 1, none⟩ = some (.int .u64 (l.getD j (0, 0)).2)
theorem PairsAt.same {w w' : World} {a : Option Addr} {n : Nat} {l : List Body} (h : PairsAt w a n l) (hs : Same w w') : PairsAt w' a n l :=
  ⟨h.len, h.small, fun h0 => by obtain ⟨b, off, e, hc⟩ := h.cells h0; exact ⟨b, off, e, fun j hj => ⟨same_cell hs (hc j hj).1, same_cell hs (hc j hj).2⟩⟩⟩
theorem RowB.pairs {w : World} {base : Nat} {v : Value} {l : List Body} (h : RowB w base v l) : ∃ a cap, v = .slice a l.length cap ∧ PairsAt w a l.length l := by
  obtain ⟨hl, h1 | ⟨g, cap, cur, hv, hb, hh, hn, hm, hs, ht⟩⟩ := h
  · obtain ⟨rfl, h0⟩ := h1
    exact ⟨none, 0, by rw [h0], rfl, by omega, fun h2 => by omega⟩
  · refine ⟨some ⟨g, 0, none⟩, cap, hv, rfl, by unfold maxLen at hm; omega, fun _ => ⟨g, 0, rfl, fun j hj => ?_⟩⟩
    have e : ∀ i, i < l.length * 2 → w.cell? ⟨g, 0 + i, none⟩ = (cellsOf l)[i]? := fun i hi => by
      rw [cell_at hh, ← ht, List.getElem?_take_of_lt hi, Nat.zero_add]; simp
    have := cellsOf_at l j hj
    exact ⟨(e _ (by omega)).trans this.1, (e (j * 2 + 1) (by omega)).trans this.2⟩
theorem info_u64 : (Try.prog.info? 23).map (fun i => (i.zero, i.size, i.bytes)) = some (some (.int .u64 0), 1, 8) := by kernel_rfl
theorem equal_body (e f p q : Int) (w : World) : (Op.equalIn 10000 32 (.agg #[.int .u64 e, .int .u64 f]) (.agg #[.int .u64 p, .int .u64 q])).run Try.prog w = .ok ((e == p) && (f == q)) w := by
  obtain ⟨i0, hi, hz0, hz1, hz2⟩ := info_parts info_u64
  have hc : Try.prog.cellsOf 23 = 1 := by kernel_rfl
  rw [run_equalIn_array w 9999 _ _ Try.underlying32 hi, hc]
  have p0 : ∀ (w : World) (a b : Int), (part 23 #[.int .u64 a, .int .u64 b] (0 * 1)).run Try.prog w = .ok (.int .u64 a) w := by intro w a b; simp [part, go_sem]
  have p1 : ∀ (w : World) (a b : Int), (part 23 #[.int .u64 a, .int .u64 b] (1 * 1)).run Try.prog w = .ok (.int .u64 b) w := by intro w a b; simp [part, go_sem]
  have q0 : ∀ (w : World) (a b : Int), (Op.equalIn 9999 23 (.int .u64 a) (.int .u64 b)).run Try.prog w = .ok (a == b) w := by intro w a b; exact run_equalIn_int w 9998 _ _ _ _ _ Try.underlying23
  show (Op.eqItems 9999 _ 1 _ _ [0, 1]).run _ _ = _
  simp only [Op.eqItems, Sem.run_bind, p0, p1, q0, Result.andThen_ok]
  cases h1 : (e == p) <;> cases h2 : (f == q) <;> simp [q0, p1, Result.andThen, Op.eqItems] <;> simpa using h2
theorem drew_same (w : World) : Same w w.drew := (Below.refl _ w).drew
/-- two cells and two cells -/
abbrev FourS (W0 : World) (b1 o1 b2 o2 : Nat) (x1 y1 x2 y2 : Value) (w : World) : Prop := w.cell? ⟨b1, o1, none⟩ = some x1 ∧ w.cell? ⟨b1, o1 + 1, none⟩ = some y1 ∧ w.cell? ⟨b2, o2, none⟩ = some x2 ∧ w.cell? ⟨b2, o2 + 1, none⟩ = some y2 ∧ Same W0 w
theorem FourS.same {W0 w w' : World} {b1 o1 b2 o2 : Nat} {x1 y1 x2 y2 : Value} (h : FourS W0 b1 o1 b2 o2 x1 y1 x2 y2 w) (hs : Same w w') : FourS W0 b1 o1 b2 o2 x1 y1 x2 y2 w' := ⟨same_cell hs h.1, same_cell hs h.2.1, same_cell hs h.2.2.1, same_cell hs h.2.2.2.1, h.2.2.2.2.trans hs⟩
theorem index_any (a : Option Addr) (n cap : Nat) (l : List Body) (e f : Int) (w : World) (h : PairsAt w a n l) :
    Calls Try.prog 17 #[.slice a n cap, .agg #[.int .u64 e, .int .u64 f]] w fun z w' => z = .returned (.int .i64 (idxB l (e, f) n)) ∧ Same w w' := by
  obtain ⟨W, eW⟩ : ∃ W, w.alloc (.cells #[.int .u64 e, .int .u64 f] 32) = W := ⟨_, rfl⟩
  obtain ⟨mb, emb⟩ : ∃ mb, w.heap.size = mb := ⟨_, rfl⟩
  have hS : Same w W := by rw [← eW]; exact (Same.refl w).alloc _
  have m0 : W.cell? ⟨mb, 0, none⟩ = some (.int .u64 e) := by rw [← eW, ← emb]; simp [World.cell?_alloc_new]
  have m1 : W.cell? ⟨mb, 1, none⟩ = some (.int .u64 f) := by rw [← eW, ← emb]; simp [World.cell?_alloc_new]
  have EW := Lib.hid eW
  have EM := Lib.hid emb
  have HS := Lib.hid hS
  have H := Lib.hid (h.same hS)
  have hsm := h.small
  clear eW emb hS h
  go_enter Try.func17, Try.ntmps17
  go_upto_region 1 with fail
  rw [EW.out, EM.out]
  go_wp2_with fail
  go_loopw [8] (fun s8 wr => ∃ i : Nat, s8 = .int .i64 i ∧ i ≤ n ∧ idxB l (e, f) i = -1 ∧ Hid (Same W wr)) (fun s8 _ => n - (intOf s8).toNat)
  case atStart => exact ⟨0, rfl, by omega, rfl, Lib.hid (Same.refl _)⟩
  case round =>
    obtain ⟨i, rfl, hi, hx, hD⟩ := hrel
    by_cases hlt : i < n
    · obtain ⟨b, off, ha, hc⟩ := H.out.cells (by omega)
      subst ha
      have hc0 := same_cell hD.out (hc i hlt).1
      have hc1 := same_cell hD.out (hc i hlt).2
      have k0 := same_cell hD.out m0
      have k1 := same_cell hD.out m1
      have HX := Lib.hid hx
      clear hc m0 m1 hx
      obtain ⟨p, ep⟩ : ∃ p, l.getD i (0, 0) = p := ⟨_, rfl⟩
      rw [ep] at hc0 hc1
      obtain ⟨p1, p2⟩ := p
      have EP := Lib.hid ep
      clear ep
      have hi0 : (0 : Int) ≤ i := by omega
      have hi1 : (i : Int) < n := by omega
      have heq := equal_body e f p1 p2
      have HQ := Lib.hid (show FourS wr.drew mb 0 b (off + i * 2) (.int .u64 e) (.int .u64 f) (.int .u64 p1) (.int .u64 p2) wr.drew from ⟨same_cell (drew_same _) k0, same_cell (drew_same _) k1, same_cell (drew_same _) hc0, same_cell (drew_same _) hc1, Same.refl _⟩)
      clear k0 k1 hc0 hc1
      go_upto_region 4 with fail
      obtain ⟨wd, ewd⟩ : ∃ wd, wr.drew = wd := ⟨_, rfl⟩
      have HD2 := Lib.hid (hD.out.trans (show Same wr wd by rw [← ewd]; exact drew_same _))
      rw [ewd] at HQ
      have EWD := Lib.hid ewd
      clear ewd
      go_region_held3 (fun w' => FourS wd mb 0 b (off + i * 2) (.int .u64 e) (.int .u64 f) (.int .u64 p1) (.int .u64 p2) w')
        (first
          | (rw [EWD.out]; exact HQ.out)
          | assumption
          | go_keep)
        (first
          | fail)
      rename_i hHeld
      have hb2 := Lib.hid (HD2.out.trans hHeld.2.2.2.2)
      clear hHeld
      go_wp2_with fail
      · rename_i hb
        have hp : l.getD i (0, 0) = (e, f) := by rw [EP.out]; simp at hb; rw [hb.1, hb.2]
        have h1 : idxB l (e, f) (i + 1) = i := by rw [idxB_step HX.out, if_pos hp]
        have h2 : idxB l (e, f) n = i := by rw [idxB_stays (by rw [h1]; omega) n (by omega), h1]
        go_ret
        exact ⟨by rw [h2]; rfl, HS.out.trans hb2.out⟩
      rename_i hb
      have h1 : idxB l (e, f) (i + 1) = -1 := by
        rw [idxB_step HX.out, if_neg]
        intro k
        rw [EP.out] at k
        injection k with k1 k2
        simp [k1, k2] at hb
      go_roundw
      case rel => exact ⟨i + 1, by go_num, by omega, h1, hb2⟩
      case measure => simp [intOf]; omega
    · obtain rfl : i = n := by omega
      go_wp2_with fail
      go_ret
      exact ⟨by rw [hx]; rfl, HS.out.trans hD.out⟩
end Go.Proofs.Ytchmhpfccanamaa
