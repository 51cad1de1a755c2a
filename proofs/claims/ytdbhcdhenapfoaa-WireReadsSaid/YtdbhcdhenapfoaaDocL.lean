/- Layer 10: the document's ReadLetter. -/
import Derived.Test.YtdbhcdhenapfoaaDocB
set_option linter.unusedVariables false
set_option linter.unusedSimpArgs false
namespace Go.Proofs.Ytdbhcdhenapfoaa
open Go.RowKit Go.Maps
theorem Off.setsS {S : Nat → Prop} {a w : World} (h : Off S a w) {b : Nat} (hb : S b) (vs : List Value) (o : Nat) : Off S a (w.setCells b o vs) := h.trans (Off.sets hb vs o w)
theorem RdD.sets {w : World} {rb b : Nat} {o : Option Bs} (h : RdD w rb o) (hne : rb ≠ b) (vs : List Value) (k : Nat) : RdD (w.setCells b k vs) rb o := h.far (sets_far hne vs k w)
set_option maxHeartbeats 1600000 in
theorem dLetter_any (l : Bs) (hl : l.length ≤ 1000000000) (w : World) :
    Calls Try.prog 23 #[.string (ofL l)] w fun z w' =>
      Same w w' ∧ ((∃ x x0 x1 x2 x3 x4 x5 a1 n1 c1 a2 n2 c2, rd 1 letterC l = some x ∧ x.1 = [x0, x1, x2, x3, x4, x5] ∧ z = .returned (.tuple #[.agg #[.int .u64 x0, .int .u64 x1, .int .u64 x2, .int .u64 x3, .int .u64 x4, .int .u64 x5, .slice a1 n1 c1, .slice a2 n2 c2], .bool true]) ∧ OwnI w' w.heap.size (.slice a1 n1 c1) x.2.1 ∧ OwnI w' w.heap.size (.slice a2 n2 c2) x.2.2) ∨
        (rd 1 letterC l = none ∧ z = .returned (.tuple #[.agg #[.int .u64 0, .int .u64 0, .int .u64 0, .int .u64 0, .int .u64 0, .int .u64 0, .slice none 0 0, .slice none 0 0], .bool false]))) := by
  obtain ⟨b2, eb2⟩ : ∃ b2, w.heap.size = b2 := ⟨_, rfl⟩
  obtain ⟨w0, ew0⟩ : ∃ w0, w.alloc (.cells #[.int .u64 0, .int .u64 0, .int .u64 0, .int .u64 0, .int .u64 0, .int .u64 0, .slice none 0 0, .slice none 0 0] 39) = w0 := ⟨_, rfl⟩
  have hS0 : Same w w0 := by rw [← ew0]; exact (Same.refl w).alloc _
  have HZ0 := Lib.hid (show w0.heap.size = b2 + 1 by rw [← ew0, ← eb2]; simp)
  have HB2 := Lib.hid (show w0.heap[b2]? = some (.cells #[.int .u64 0, .int .u64 0, .int .u64 0, .int .u64 0, .int .u64 0, .int .u64 0, .slice none 0 0, .slice none 0 0] 39 (0, 0)) by rw [← ew0, ← eb2]; exact heap_new _ _)
  have HO0 := Lib.hid (show Off (fun k => b2 ≤ k) w w0 from Off.of_same hS0)
  have EW0 := Lib.hid ew0
  have EB2 := Lib.hid eb2
  clear hS0 ew0 eb2
  go_enter Try.func23, Try.ntmps23
  go_upto_region 1 with fail
  rw [EW0.out, EB2.out]
  go_wp2_with fail
  refine (dbegin_any l hl 1 1 rfl w0).mono ?_
  rintro e w1 ⟨hs1, hz1, rfl, hr1⟩
  rw [HZ0.out] at hz1 hr1 ⊢
  obtain ⟨o0, eo0⟩ : ∃ o0, beg 1 l = o0 := ⟨_, rfl⟩
  rw [eo0] at hr1
  have EO0 := Lib.hid eo0
  obtain ⟨w2, ew2⟩ : ∃ w2, w1.alloc (.cells #[.int .u64 0, .int .u64 0, .int .u64 0, .int .u64 0, .int .u64 0, .int .u64 0, .slice none 0 0, .slice none 0 0] 39) = w2 := ⟨_, rfl⟩
  have hS2 : Same w1 w2 := by rw [← ew2]; exact (Same.refl w1).alloc _
  have HB22 := Lib.hid (hS2.keep (hs1.keep HB2.out))
  have HX2 := Lib.hid (show ZLet (b2 + 2) w2 by rw [← ew2, show b2 + 2 = w1.heap.size by omega]; exact heap_new _ _)
  have HR2 := Lib.hid (hr1.same hS2)
  have HO2 := Lib.hid (show Off (fun k => b2 ≤ k) w w2 from HO0.out.trans (Off.of_same (hs1.trans hS2)))
  have HZ1 := Lib.hid (show w1.heap.size = b2 + 2 by omega)
  have EW2 := Lib.hid ew2
  clear hs1 hz1 hr1 hS2 ew2 eo0
  go_upto_region 3 with fail
  rw [EW2.out, HZ1.out]
  go_wp2_with fail
  refine (dbox_any (b2 + 1) o0 w2 HR2.out).mono ?_
  rintro e w3 ⟨hO3, x0, x1, x2, x3, x4, x5, o1, rfl, hst, hR3⟩
  have hb23 := hO3.keep (b := b2) (by omega) HB22.out
  have hx3 := hO3.keep (b := b2 + 2) (by omega) HX2.out
  have g0 : w3.cell? ⟨b2 + 2, 0, none⟩ = some (.int .u64 0) := by rw [cell_at hx3]; rfl
  have f0 : w3.frozen? ⟨b2 + 2, 0, none⟩ = false := free_at hx3
  have g1 : w3.cell? ⟨b2 + 2, 1, none⟩ = some (.int .u64 0) := by rw [cell_at hx3]; rfl
  have f1 : w3.frozen? ⟨b2 + 2, 1, none⟩ = false := free_at hx3
  have g2 : w3.cell? ⟨b2 + 2, 2, none⟩ = some (.int .u64 0) := by rw [cell_at hx3]; rfl
  have f2 : w3.frozen? ⟨b2 + 2, 2, none⟩ = false := free_at hx3
  have g3 : w3.cell? ⟨b2 + 2, 3, none⟩ = some (.int .u64 0) := by rw [cell_at hx3]; rfl
  have f3 : w3.frozen? ⟨b2 + 2, 3, none⟩ = false := free_at hx3
  have g4 : w3.cell? ⟨b2 + 2, 4, none⟩ = some (.int .u64 0) := by rw [cell_at hx3]; rfl
  have f4 : w3.frozen? ⟨b2 + 2, 4, none⟩ = false := free_at hx3
  have g5 : w3.cell? ⟨b2 + 2, 5, none⟩ = some (.int .u64 0) := by rw [cell_at hx3]; rfl
  have f5 : w3.frozen? ⟨b2 + 2, 5, none⟩ = false := free_at hx3
  obtain ⟨w4, ew4⟩ : ∃ w4, w3.setCells (b2 + 2) 0 [.int .u64 x0, .int .u64 x1, .int .u64 x2, .int .u64 x3, .int .u64 x4, .int .u64 x5] = w4 := ⟨_, rfl⟩
  have hx4 := heap_sets [.int .u64 x0, .int .u64 x1, .int .u64 x2, .int .u64 x3, .int .u64 x4, .int .u64 x5] 0 w3 _ hx3
  rw [ew4] at hx4
  have HX4 := Lib.hid (show w4.heap[b2 + 2]? = some (.cells #[.int .u64 x0, .int .u64 x1, .int .u64 x2, .int .u64 x3, .int .u64 x4, .int .u64 x5, .slice none 0 0, .slice none 0 0] 39 (0, 0)) from hx4)
  have HB24 := Lib.hid (show w4.heap[b2]? = some (.cells #[.int .u64 0, .int .u64 0, .int .u64 0, .int .u64 0, .int .u64 0, .int .u64 0, .slice none 0 0, .slice none 0 0] 39 (0, 0)) by rw [← ew4, sets_far (by omega)]; exact hb23)
  have HR4 := Lib.hid (show RdD w4 (b2 + 1) o1 by rw [← ew4]; exact hR3.sets (by omega) _ _)
  have HO4 := Lib.hid (show Off (fun k => b2 ≤ k) w w4 by rw [← ew4]; exact (HO2.out.trans (hO3.mono (fun k _ e => by omega))).setsS (by omega) _ _)
  have HST := Lib.hid hst
  have EW4 := Lib.hid (show ((((((w3.setCell ⟨b2 + 2, 0, none⟩ (.int .u64 x0)).setCell ⟨b2 + 2, 1, none⟩ (.int .u64 x1)).setCell ⟨b2 + 2, 2, none⟩ (.int .u64 x2)).setCell ⟨b2 + 2, 3, none⟩ (.int .u64 x3)).setCell ⟨b2 + 2, 4, none⟩ (.int .u64 x4)).setCell ⟨b2 + 2, 5, none⟩ (.int .u64 x5)) = w4 from ew4)
  clear hO3 hst hR3 hb23 hx3 hx4 ew4
  go_upto_region 4 with fail
  rw [EW4.out]
  clear g0 g1 g2 g3 g4 g5 f0 f1 f2 f3 f4 f5
  go_wp2_with fail
  refine (dproof_any (b2 + 1) o1 w4 HR4.out).mono ?_
  rintro e w5 ⟨hO5, a1, n1, c1, a2, n2, c2, p, o2, hv1, hv2, rfl, hst2, hR5⟩
  have hb25 := hO5.keep (b := b2) (by omega) HB24.out
  have hx5 := hO5.keep (b := b2 + 2) (by omega) HX4.out
  have g6 : w5.cell? ⟨b2 + 2, 6, none⟩ = some (.slice none 0 0) := by rw [cell_at hx5]; rfl
  have f6 : w5.frozen? ⟨b2 + 2, 6, none⟩ = false := free_at hx5
  have g7 : w5.cell? ⟨b2 + 2, 7, none⟩ = some (.slice none 0 0) := by rw [cell_at hx5]; rfl
  have f7 : w5.frozen? ⟨b2 + 2, 7, none⟩ = false := free_at hx5
  obtain ⟨w6, ew6⟩ : ∃ w6, w5.setCells (b2 + 2) 6 [.slice a1 n1 c1, .slice a2 n2 c2] = w6 := ⟨_, rfl⟩
  have hx6 := heap_sets [.slice a1 n1 c1, .slice a2 n2 c2] 6 w5 _ hx5
  rw [ew6] at hx6
  have HX6 := Lib.hid (show w6.heap[b2 + 2]? = some (.cells #[.int .u64 x0, .int .u64 x1, .int .u64 x2, .int .u64 x3, .int .u64 x4, .int .u64 x5, .slice a1 n1 c1, .slice a2 n2 c2] 39 (0, 0)) from hx6)
  have HB26 := Lib.hid (show w6.heap[b2]? = some (.cells #[.int .u64 0, .int .u64 0, .int .u64 0, .int .u64 0, .int .u64 0, .int .u64 0, .slice none 0 0, .slice none 0 0] 39 (0, 0)) by rw [← ew6, sets_far (by omega)]; exact hb25)
  have HR6 := Lib.hid (show RdD w6 (b2 + 1) o2 by rw [← ew6]; exact hR5.sets (by omega) _ _)
  have HO6 := Lib.hid (show Off (fun k => b2 ≤ k) w w6 by rw [← ew6]; exact (HO4.out.trans (hO5.mono (fun k _ e => by omega))).setsS (by omega) _ _)
  have hw4 : b2 ≤ w4.heap.size := by have h1 := HO4.out.size; have := EB2.out; omega
  have HV1 := Lib.hid (show OwnI w6 b2 (.slice a1 n1 c1) p.1 by rw [← ew6]; exact (hv1.puts (by decide) _ _ _ _ hx5).down hw4)
  have HV2 := Lib.hid (show OwnI w6 b2 (.slice a2 n2 c2) p.2 by rw [← ew6]; exact (hv2.puts (by decide) _ _ _ _ hx5).down hw4)
  have HST2 := Lib.hid (show Step letterC.par (beg 1 l) ([x0, x1, x2, x3, x4, x5], p) o2 by rw [EO0.out]; exact HST.out.pair hst2)
  have EW6 := Lib.hid (show ((w5.setCell ⟨b2 + 2, 6, none⟩ (.slice a1 n1 c1)).setCell ⟨b2 + 2, 7, none⟩ (.slice a2 n2 c2)) = w6 from ew6)
  clear hO5 hst2 hR5 hb25 hx5 hx6 ew6 hv1 hv2 hw4
  go_upto_region 5 with fail
  rw [EW6.out]
  clear g6 g7 f6 f7
  go_wp2_with fail
  refine (dend_any (b2 + 1) o2 w6 HR6.out).mono ?_
  rintro e w7 ⟨rfl, e7⟩
  rw [e7]
  obtain ⟨q, eq⟩ : ∃ q, isEnd o2 = q := ⟨_, rfl⟩
  rw [eq]
  have q0 : w6.cell? ⟨b2, 0, none⟩ = some (.int .u64 0) := by rw [cell_at HB26.out]; rfl
  have f0 : w6.frozen? ⟨b2, 0, none⟩ = false := free_at HB26.out
  have q1 : w6.cell? ⟨b2, 1, none⟩ = some (.int .u64 0) := by rw [cell_at HB26.out]; rfl
  have f1 : w6.frozen? ⟨b2, 1, none⟩ = false := free_at HB26.out
  have q2 : w6.cell? ⟨b2, 2, none⟩ = some (.int .u64 0) := by rw [cell_at HB26.out]; rfl
  have f2 : w6.frozen? ⟨b2, 2, none⟩ = false := free_at HB26.out
  have q3 : w6.cell? ⟨b2, 3, none⟩ = some (.int .u64 0) := by rw [cell_at HB26.out]; rfl
  have f3 : w6.frozen? ⟨b2, 3, none⟩ = false := free_at HB26.out
  have q4 : w6.cell? ⟨b2, 4, none⟩ = some (.int .u64 0) := by rw [cell_at HB26.out]; rfl
  have f4 : w6.frozen? ⟨b2, 4, none⟩ = false := free_at HB26.out
  have q5 : w6.cell? ⟨b2, 5, none⟩ = some (.int .u64 0) := by rw [cell_at HB26.out]; rfl
  have f5 : w6.frozen? ⟨b2, 5, none⟩ = false := free_at HB26.out
  have q6 : w6.cell? ⟨b2, 6, none⟩ = some (.slice none 0 0) := by rw [cell_at HB26.out]; rfl
  have f6 : w6.frozen? ⟨b2, 6, none⟩ = false := free_at HB26.out
  have q7 : w6.cell? ⟨b2, 7, none⟩ = some (.slice none 0 0) := by rw [cell_at HB26.out]; rfl
  have f7 : w6.frozen? ⟨b2, 7, none⟩ = false := free_at HB26.out
  cases q
  · have HN := Lib.hid (rd_no HST2.out eq)
    obtain ⟨w8, ew8⟩ : ∃ w8, w6.setCells b2 0 [.int .u64 0, .int .u64 0, .int .u64 0, .int .u64 0, .int .u64 0, .int .u64 0, .slice none 0 0, .slice none 0 0] = w8 := ⟨_, rfl⟩
    have hp8 := heap_sets [.int .u64 0, .int .u64 0, .int .u64 0, .int .u64 0, .int .u64 0, .int .u64 0, .slice none 0 0, .slice none 0 0] 0 w6 _ HB26.out
    rw [ew8] at hp8
    have hp8 : w8.heap[b2]? = some (.cells #[.int .u64 0, .int .u64 0, .int .u64 0, .int .u64 0, .int .u64 0, .int .u64 0, .slice none 0 0, .slice none 0 0] 39 (0, 0)) := hp8
    have p0 : w8.cell? ⟨b2, 0, none⟩ = some (.int .u64 0) := by rw [cell_at hp8]; rfl
    have p1 : w8.cell? ⟨b2, 1, none⟩ = some (.int .u64 0) := by rw [cell_at hp8]; rfl
    have p2 : w8.cell? ⟨b2, 2, none⟩ = some (.int .u64 0) := by rw [cell_at hp8]; rfl
    have p3 : w8.cell? ⟨b2, 3, none⟩ = some (.int .u64 0) := by rw [cell_at hp8]; rfl
    have p4 : w8.cell? ⟨b2, 4, none⟩ = some (.int .u64 0) := by rw [cell_at hp8]; rfl
    have p5 : w8.cell? ⟨b2, 5, none⟩ = some (.int .u64 0) := by rw [cell_at hp8]; rfl
    have p6 : w8.cell? ⟨b2, 6, none⟩ = some (.slice none 0 0) := by rw [cell_at hp8]; rfl
    have p7 : w8.cell? ⟨b2, 7, none⟩ = some (.slice none 0 0) := by rw [cell_at hp8]; rfl
    have HS8 := Lib.hid (show Same w w8 by rw [← ew8]; exact Same.of_off (S := fun k => b2 ≤ k) (HO6.out.setsS (by omega) _ _) (fun k hk e => by have := EB2.out; omega))
    have EW8 := Lib.hid (show ((((((((w6.setCell ⟨b2, 0, none⟩ (.int .u64 0)).setCell ⟨b2, 1, none⟩ (.int .u64 0)).setCell ⟨b2, 2, none⟩ (.int .u64 0)).setCell ⟨b2, 3, none⟩ (.int .u64 0)).setCell ⟨b2, 4, none⟩ (.int .u64 0)).setCell ⟨b2, 5, none⟩ (.int .u64 0)).setCell ⟨b2, 6, none⟩ (.slice none 0 0)).setCell ⟨b2, 7, none⟩ (.slice none 0 0)) = w8 from ew8)
    clear ew8 hp8 e7 eq
    go_wp2_with fail
    rw [EW8.out]
    refine bodyPost_ret (by simp [results, Try.results23, go_sem, p0, p1, p2, p3, p4, p5, p6, p7]; try rfl) rfl ?_
    exact ⟨HS8.out, Or.inr ⟨HN.out, rfl⟩⟩
  · have HY := Lib.hid (rd_yes HST2.out eq)
    have g0 : w6.cell? ⟨b2 + 2, 0, none⟩ = some (.int .u64 x0) := by rw [cell_at HX6.out]; rfl
    have g1 : w6.cell? ⟨b2 + 2, 1, none⟩ = some (.int .u64 x1) := by rw [cell_at HX6.out]; rfl
    have g2 : w6.cell? ⟨b2 + 2, 2, none⟩ = some (.int .u64 x2) := by rw [cell_at HX6.out]; rfl
    have g3 : w6.cell? ⟨b2 + 2, 3, none⟩ = some (.int .u64 x3) := by rw [cell_at HX6.out]; rfl
    have g4 : w6.cell? ⟨b2 + 2, 4, none⟩ = some (.int .u64 x4) := by rw [cell_at HX6.out]; rfl
    have g5 : w6.cell? ⟨b2 + 2, 5, none⟩ = some (.int .u64 x5) := by rw [cell_at HX6.out]; rfl
    have g6 : w6.cell? ⟨b2 + 2, 6, none⟩ = some (.slice a1 n1 c1) := by rw [cell_at HX6.out]; rfl
    have g7 : w6.cell? ⟨b2 + 2, 7, none⟩ = some (.slice a2 n2 c2) := by rw [cell_at HX6.out]; rfl
    obtain ⟨w8, ew8⟩ : ∃ w8, w6.setCells b2 0 [.int .u64 x0, .int .u64 x1, .int .u64 x2, .int .u64 x3, .int .u64 x4, .int .u64 x5, .slice a1 n1 c1, .slice a2 n2 c2] = w8 := ⟨_, rfl⟩
    have hp8 := heap_sets [.int .u64 x0, .int .u64 x1, .int .u64 x2, .int .u64 x3, .int .u64 x4, .int .u64 x5, .slice a1 n1 c1, .slice a2 n2 c2] 0 w6 _ HB26.out
    rw [ew8] at hp8
    have hp8 : w8.heap[b2]? = some (.cells #[.int .u64 x0, .int .u64 x1, .int .u64 x2, .int .u64 x3, .int .u64 x4, .int .u64 x5, .slice a1 n1 c1, .slice a2 n2 c2] 39 (0, 0)) := hp8
    have p0 : w8.cell? ⟨b2, 0, none⟩ = some (.int .u64 x0) := by rw [cell_at hp8]; rfl
    have p1 : w8.cell? ⟨b2, 1, none⟩ = some (.int .u64 x1) := by rw [cell_at hp8]; rfl
    have p2 : w8.cell? ⟨b2, 2, none⟩ = some (.int .u64 x2) := by rw [cell_at hp8]; rfl
    have p3 : w8.cell? ⟨b2, 3, none⟩ = some (.int .u64 x3) := by rw [cell_at hp8]; rfl
    have p4 : w8.cell? ⟨b2, 4, none⟩ = some (.int .u64 x4) := by rw [cell_at hp8]; rfl
    have p5 : w8.cell? ⟨b2, 5, none⟩ = some (.int .u64 x5) := by rw [cell_at hp8]; rfl
    have p6 : w8.cell? ⟨b2, 6, none⟩ = some (.slice a1 n1 c1) := by rw [cell_at hp8]; rfl
    have p7 : w8.cell? ⟨b2, 7, none⟩ = some (.slice a2 n2 c2) := by rw [cell_at hp8]; rfl
    have HS8 := Lib.hid (show Same w w8 by rw [← ew8]; exact Same.of_off (S := fun k => b2 ≤ k) (HO6.out.setsS (by omega) _ _) (fun k hk e => by have := EB2.out; omega))
    have HV81 := Lib.hid (show OwnI w8 w.heap.size (.slice a1 n1 c1) p.1 by rw [← ew8, EB2.out]; exact HV1.out.puts (by decide) _ _ _ _ HB26.out)
    have HV82 := Lib.hid (show OwnI w8 w.heap.size (.slice a2 n2 c2) p.2 by rw [← ew8, EB2.out]; exact HV2.out.puts (by decide) _ _ _ _ HB26.out)
    have EW8 := Lib.hid (show ((((((((w6.setCell ⟨b2, 0, none⟩ (.int .u64 x0)).setCell ⟨b2, 1, none⟩ (.int .u64 x1)).setCell ⟨b2, 2, none⟩ (.int .u64 x2)).setCell ⟨b2, 3, none⟩ (.int .u64 x3)).setCell ⟨b2, 4, none⟩ (.int .u64 x4)).setCell ⟨b2, 5, none⟩ (.int .u64 x5)).setCell ⟨b2, 6, none⟩ (.slice a1 n1 c1)).setCell ⟨b2, 7, none⟩ (.slice a2 n2 c2)) = w8 from ew8)
    clear ew8 hp8 e7 eq
    go_wp2_with fail
    rw [EW8.out]
    refine bodyPost_ret (by simp [results, Try.results23, go_sem, p0, p1, p2, p3, p4, p5, p6, p7]; try rfl) rfl ?_
    exact ⟨HS8.out, Or.inl ⟨([x0, x1, x2, x3, x4, x5], p), x0, x1, x2, x3, x4, x5, a1, n1, c1, a2, n2, c2, HY.out, rfl, rfl, HV81.out, HV82.out⟩⟩
end Go.Proofs.Ytdbhcdhenapfoaa
