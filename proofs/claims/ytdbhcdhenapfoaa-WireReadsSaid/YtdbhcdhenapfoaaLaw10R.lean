/- Layer 10: WireReads. -/
import Derived.Test.YtdbhcdhenapfoaaDocM
import Derived.Test.YtdbhcdhenapfoaaDocP
set_option linter.unusedVariables false
set_option linter.unusedSimpArgs false
namespace Go.Proofs.Ytdbhcdhenapfoaa
open Go.RowKit Go.Maps
/-- what is handed back of bytes -/
def letOf (l : Bs) : LetterD := (rd 1 letterC l).getD ([0, 0, 0, 0, 0, 0], [], [])
def mixOf (l : Bs) : MixD := (rd 2 mixC l).getD mix0
def passOf (l : Bs) : List PassD := (rd 3 passlC l).getD []
theorem let_of {l : Bs} {w w' : World} {z : Ending} (h : Same w w' ∧ ((∃ x x0 x1 x2 x3 x4 x5 a1 n1 c1 a2 n2 c2, rd 1 letterC l = some x ∧ x.1 = [x0, x1, x2, x3, x4, x5] ∧ z = .returned (.tuple #[.agg #[.int .u64 x0, .int .u64 x1, .int .u64 x2, .int .u64 x3, .int .u64 x4, .int .u64 x5, .slice a1 n1 c1, .slice a2 n2 c2], .bool true]) ∧ OwnI w' w.heap.size (.slice a1 n1 c1) x.2.1 ∧ OwnI w' w.heap.size (.slice a2 n2 c2) x.2.2) ∨
    (rd 1 letterC l = none ∧ z = .returned (.tuple #[.agg #[.int .u64 0, .int .u64 0, .int .u64 0, .int .u64 0, .int .u64 0, .int .u64 0, .slice none 0 0, .slice none 0 0], .bool false])))) : Same w w' ∧ ∃ x0 x1 x2 x3 x4 x5 a1 n1 c1 a2 n2 c2, ∃ p : ProofD, letOf l = ([x0, x1, x2, x3, x4, x5], p) ∧ (∀ x ∈ [x0, x1, x2, x3, x4, x5], U64 x) ∧ z = .returned (.tuple #[.agg #[.int .u64 x0, .int .u64 x1, .int .u64 x2, .int .u64 x3, .int .u64 x4, .int .u64 x5, .slice a1 n1 c1, .slice a2 n2 c2], .bool (rd 1 letterC l).isSome]) ∧ IntsAt w' a1 n1 p.1 ∧ IntsAt w' a2 n2 p.2 := by
  refine ⟨h.1, ?_⟩
  rcases h.2 with ⟨x, x0, x1, x2, x3, x4, x5, a1, n1, c1, a2, n2, c2, hr, e, hz, o1, o2⟩ | ⟨hr, hz⟩
  · obtain ⟨xs, p⟩ := x
    simp only at e o1 o2
    subst e
    exact ⟨x0, x1, x2, x3, x4, x5, a1, n1, c1, a2, n2, c2, p, by unfold letOf; rw [hr]; rfl, (wr_rd hr).1.1.2, by rw [hz, hr]; rfl, own_ints o1, own_ints o2⟩
  · exact ⟨0, 0, 0, 0, 0, 0, none, 0, 0, none, 0, 0, ([], []), by unfold letOf; rw [hr]; rfl, fun x hx => by simp at hx; subst hx; exact ⟨by decide, by decide⟩, by rw [hz, hr]; rfl, ints_nil _, ints_nil _⟩
theorem mix_of {l : Bs} {w w' : World} {z : Ending} (h : Same w w' ∧ ((∃ x a0 n0 c0 a1 n1 c1 a2 n2 c2 a3 n3 c3 a4 n4 c4 a5 n5 c5 a6 n6 c6, rd 2 mixC l = some x ∧ z = .returned (.tuple #[.agg #[.slice a0 n0 c0, .slice a1 n1 c1, .slice a2 n2 c2, .slice a3 n3 c3, .slice a4 n4 c4, .slice a5 n5 c5, .slice a6 n6 c6], .bool true]) ∧ MixO w' w.heap.size (.slice a0 n0 c0) (.slice a1 n1 c1) (.slice a2 n2 c2) (.slice a3 n3 c3) (.slice a4 n4 c4) (.slice a5 n5 c5) (.slice a6 n6 c6) x.1 x.2.1 x.2.2.1 x.2.2.2.1 x.2.2.2.2.1 x.2.2.2.2.2.1 x.2.2.2.2.2.2) ∨
    (rd 2 mixC l = none ∧ z = .returned (.tuple #[.agg #[.slice none 0 0, .slice none 0 0, .slice none 0 0, .slice none 0 0, .slice none 0 0, .slice none 0 0, .slice none 0 0], .bool false])))) : Same w w' ∧ ∃ a0 n0 c0 a1 n1 c1 a2 n2 c2 a3 n3 c3 a4 n4 c4 a5 n5 c5 a6 n6 c6, z = .returned (.tuple #[.agg #[.slice a0 n0 c0, .slice a1 n1 c1, .slice a2 n2 c2, .slice a3 n3 c3, .slice a4 n4 c4, .slice a5 n5 c5, .slice a6 n6 c6], .bool (rd 2 mixC l).isSome]) ∧ MixIn w' a0 n0 a1 n1 a2 n2 a3 n3 a4 n4 a5 n5 a6 n6 (mixOf l) := by
  refine ⟨h.1, ?_⟩
  rcases h.2 with ⟨x, a0, n0, c0, a1, n1, c1, a2, n2, c2, a3, n3, c3, a4, n4, c4, a5, n5, c5, a6, n6, c6, hr, hz, o⟩ | ⟨hr, hz⟩
  · exact ⟨a0, n0, c0, a1, n1, c1, a2, n2, c2, a3, n3, c3, a4, n4, c4, a5, n5, c5, a6, n6, c6, by rw [hz, hr]; rfl, by unfold mixOf; rw [hr]; exact o.into (wr_rd hr).1⟩
  · exact ⟨none, 0, 0, none, 0, 0, none, 0, 0, none, 0, 0, none, 0, 0, none, 0, 0, none, 0, 0, by rw [hz, hr]; rfl, by unfold mixOf; rw [hr]; exact mix0_in _⟩
theorem pass_of {l : Bs} {w w' : World} {z : Ending} (h : Same w w' ∧ ((∃ x a n c, rd 3 passlC l = some x ∧ z = .returned (.tuple #[.slice a n c, .bool true]) ∧ OwnP w' w.heap.size (.slice a n c) x) ∨
    (rd 3 passlC l = none ∧ z = .returned (.tuple #[.slice none 0 0, .bool false])))) : Same w w' ∧ ∃ a n c, z = .returned (.tuple #[.slice a n c, .bool (rd 3 passlC l).isSome]) ∧ PassAt w' a n (passOf l) := by
  refine ⟨h.1, ?_⟩
  rcases h.2 with ⟨x, a, n, c, hr, hz, o⟩ | ⟨hr, hz⟩
  · exact ⟨a, n, c, by rw [hz, hr]; rfl, by unfold passOf; rw [hr]; exact o.into (fun l hl => ((wr_rd hr).1.2 l hl).1.2)⟩
  · exact ⟨none, 0, 0, by rw [hz, hr]; rfl, by unfold passOf; rw [hr]; exact ⟨rfl, by omega, fun j hj => by omega⟩⟩
set_option maxRecDepth 20000 in
set_option maxHeartbeats 6400000 in
theorem lawReads (s : ByteArray) (w : World) :
    Calls Try.prog 7 #[.string s] w fun e w' => e = .returned (.bool true) ∧ Same w w' := by
  obtain ⟨l, el⟩ : ∃ l, ofL l = s := ⟨s.toList, of_toList s⟩
  have hsl : s.size = l.length := by rw [← el, size_ofL]
  obtain ⟨m, em⟩ : ∃ m, s.size = m := ⟨_, rfl⟩
  have EL := Lib.hid el
  have EM := Lib.hid (hsl.symm.trans em)
  have hse : (s.toList == s.toList) = true := by simp
  clear el hsl
  go_enter Try.func7, Try.ntmps7
  go_wp2_with fail
  refine (awake_any w).mono ?_
  rintro e w1 ⟨rfl, hs1⟩
  have HS1 := Lib.hid hs1
  clear hs1
  by_cases hm : m ≤ 20000
  case neg =>
    have d0 : decide ((m : Int) > 20000) = true := decide_eq_true (by omega)
    go_wp2_with fail
    go_ret
    exact ⟨rfl, HS1.out⟩
  have d0 : decide ((m : Int) > 20000) = false := decide_eq_false (by omega)
  have hl : l.length ≤ 1000000000 := by have := EM.out; omega
  obtain ⟨t1, e1⟩ : ∃ t, (rd 1 letterC l).isSome = t := ⟨_, rfl⟩
  obtain ⟨t2, e2⟩ : ∃ t, (rd 2 mixC l).isSome = t := ⟨_, rfl⟩
  obtain ⟨t3, e3⟩ : ∃ t, (rd 3 passlC l).isSome = t := ⟨_, rfl⟩
  obtain ⟨X, eX⟩ : ∃ X, mixOf l = X := ⟨_, rfl⟩
  obtain ⟨Z, eZ⟩ : ∃ Z, passOf l = Z := ⟨_, rfl⟩
  have E1 := Lib.hid e1
  have E2 := Lib.hid e2
  have E3 := Lib.hid e3
  have EX := Lib.hid eX
  have EZ := Lib.hid eZ
  clear e1 e2 e3 eX eZ
  go_wp2_with fail
  rw [← EL.out]
  refine ((readLetter_any l hl _).mono (fun _ _ h => let_of h)).mono ?_
  rintro e w2 ⟨hsn, x0, x1, x2, x3, x4, x5, a1, n1, c1, a2, n2, c2, p, hle, hun, rfl, in1, in2⟩
  rw [E1.out, EL.out]
  obtain ⟨w2a, ew⟩ : ∃ wz, w2.alloc (.cells #[.int .u64 x0, .int .u64 x1, .int .u64 x2, .int .u64 x3, .int .u64 x4, .int .u64 x5, .slice a1 n1 c1, .slice a2 n2 c2] 39) = wz := ⟨_, rfl⟩
  obtain ⟨la, eb⟩ : ∃ bz, w2.heap.size = bz := ⟨_, rfl⟩
  have hsa : Same w2 w2a := by rw [← ew]; exact (Same.refl _).alloc _
  have hst := hsn.trans hsa
  have HAw2a := Lib.hid (show w2a.heap[la]? = some (.cells #[.int .u64 x0, .int .u64 x1, .int .u64 x2, .int .u64 x3, .int .u64 x4, .int .u64 x5, .slice a1 n1 c1, .slice a2 n2 c2] 39 (0, 0)) by rw [← ew, ← eb]; exact heap_new _ _)
  have HAIaw2a := Lib.hid (in1.same hsa)
  have HAIbw2a := Lib.hid (in2.same hsa)
  have HAE := Lib.hid (And.intro hle hun)
  have HSw2a := Lib.hid (HS1.out.trans hst)
  have EWHA := Lib.hid ew
  have EBHA := Lib.hid eb
  clear hsn hle hun in1 in2 ew eb hsa hst
  go_upto_region 6 with fail
  rw [EWHA.out, EBHA.out]
  go_wp2_with fail
  rw [← EL.out]
  refine ((readMixing_any l hl _).mono (fun _ _ h => mix_of h)).mono ?_
  rintro e w3 ⟨hsn, ga0, gn0, gc0, ga1, gn1, gc1, ga2, gn2, gc2, ga3, gn3, gc3, ga4, gn4, gc4, ga5, gn5, gc5, ga6, gn6, gc6, rfl, hin⟩
  rw [E2.out, EL.out]
  rw [EX.out] at hin
  obtain ⟨w3a, ew⟩ : ∃ wz, w3.alloc (.cells #[.slice ga0 gn0 gc0, .slice ga1 gn1 gc1, .slice ga2 gn2 gc2, .slice ga3 gn3 gc3, .slice ga4 gn4 gc4, .slice ga5 gn5 gc5, .slice ga6 gn6 gc6] 30) = wz := ⟨_, rfl⟩
  obtain ⟨mb, eb⟩ : ∃ bz, w3.heap.size = bz := ⟨_, rfl⟩
  have hsa : Same w3 w3a := by rw [← ew]; exact (Same.refl _).alloc _
  have hst := hsn.trans hsa
  have HAw3a := Lib.hid (hst.keep HAw2a.out)
  have HAIaw3a := Lib.hid (HAIaw2a.out.same hst)
  have HAIbw3a := Lib.hid (HAIbw2a.out.same hst)
  have HBw3a := Lib.hid (show w3a.heap[mb]? = some (.cells #[.slice ga0 gn0 gc0, .slice ga1 gn1 gc1, .slice ga2 gn2 gc2, .slice ga3 gn3 gc3, .slice ga4 gn4 gc4, .slice ga5 gn5 gc5, .slice ga6 gn6 gc6] 30 (0, 0)) by rw [← ew, ← eb]; exact heap_new _ _)
  have HBIw3a := Lib.hid (hin.same hsa)
  have HSw3a := Lib.hid (HSw2a.out.trans hst)
  have EWHB := Lib.hid ew
  have EBHB := Lib.hid eb
  clear hsn hin ew eb hsa hst
  go_upto_region 7 with fail
  rw [EWHB.out, EBHB.out]
  go_wp2_with fail
  rw [← EL.out]
  refine ((readPassed_any l hl _).mono (fun _ _ h => pass_of h)).mono ?_
  rintro e w4 ⟨hsn, pa, pn, pc, rfl, hin⟩
  rw [E3.out, EL.out]
  rw [EZ.out] at hin
  have HAw4 := Lib.hid (hsn.keep HAw3a.out)
  have HBw4 := Lib.hid (hsn.keep HBw3a.out)
  have HAIaw4 := Lib.hid (HAIaw3a.out.same hsn)
  have HAIbw4 := Lib.hid (HAIbw3a.out.same hsn)
  have HBIw4 := Lib.hid (HBIw3a.out.same hsn)
  have HPIw4 := Lib.hid hin
  have HSw4 := Lib.hid (HSw3a.out.trans hsn)
  clear hsn hin
  go_wp2_with fail
  rw [← EL.out]
  refine ((dLetter_any l hl _).mono (fun _ _ h => let_of h)).mono ?_
  rintro e w5 ⟨hsn, y0, y1, y2, y3, y4, y5, b1, m1, d1, b2, m2, d2, q, hle, hun, rfl, in1, in2⟩
  rw [E1.out, EL.out]
  obtain ⟨w5a, ew⟩ : ∃ wz, w5.alloc (.cells #[.int .u64 y0, .int .u64 y1, .int .u64 y2, .int .u64 y3, .int .u64 y4, .int .u64 y5, .slice b1 m1 d1, .slice b2 m2 d2] 39) = wz := ⟨_, rfl⟩
  obtain ⟨lc, eb⟩ : ∃ bz, w5.heap.size = bz := ⟨_, rfl⟩
  have hsa : Same w5 w5a := by rw [← ew]; exact (Same.refl _).alloc _
  have hst := hsn.trans hsa
  have HAw5a := Lib.hid (hst.keep HAw4.out)
  have HBw5a := Lib.hid (hst.keep HBw4.out)
  have HAIaw5a := Lib.hid (HAIaw4.out.same hst)
  have HAIbw5a := Lib.hid (HAIbw4.out.same hst)
  have HBIw5a := Lib.hid (HBIw4.out.same hst)
  have HPIw5a := Lib.hid (HPIw4.out.same hst)
  have HCw5a := Lib.hid (show w5a.heap[lc]? = some (.cells #[.int .u64 y0, .int .u64 y1, .int .u64 y2, .int .u64 y3, .int .u64 y4, .int .u64 y5, .slice b1 m1 d1, .slice b2 m2 d2] 39 (0, 0)) by rw [← ew, ← eb]; exact heap_new _ _)
  have HCIaw5a := Lib.hid (in1.same hsa)
  have HCIbw5a := Lib.hid (in2.same hsa)
  have HCE := Lib.hid (And.intro hle hun)
  have HSw5a := Lib.hid (HSw4.out.trans hst)
  have EWHC := Lib.hid ew
  have EBHC := Lib.hid eb
  clear hsn hle hun in1 in2 ew eb hsa hst
  go_upto_region 9 with fail
  rw [EWHC.out, EBHC.out]
  go_wp2_with fail
  rw [← EL.out]
  refine ((dMixing_any l hl _).mono (fun _ _ h => mix_of h)).mono ?_
  rintro e w6 ⟨hsn, ha0, hn0, hc0, ha1, hn1, hc1, ha2, hn2, hc2, ha3, hn3, hc3, ha4, hn4, hc4, ha5, hn5, hc5, ha6, hn6, hc6, rfl, hin⟩
  rw [E2.out, EL.out]
  rw [EX.out] at hin
  obtain ⟨w6a, ew⟩ : ∃ wz, w6.alloc (.cells #[.slice ha0 hn0 hc0, .slice ha1 hn1 hc1, .slice ha2 hn2 hc2, .slice ha3 hn3 hc3, .slice ha4 hn4 hc4, .slice ha5 hn5 hc5, .slice ha6 hn6 hc6] 30) = wz := ⟨_, rfl⟩
  obtain ⟨md, eb⟩ : ∃ bz, w6.heap.size = bz := ⟨_, rfl⟩
  have hsa : Same w6 w6a := by rw [← ew]; exact (Same.refl _).alloc _
  have hst := hsn.trans hsa
  have HAw6a := Lib.hid (hst.keep HAw5a.out)
  have HBw6a := Lib.hid (hst.keep HBw5a.out)
  have HCw6a := Lib.hid (hst.keep HCw5a.out)
  have HAIaw6a := Lib.hid (HAIaw5a.out.same hst)
  have HAIbw6a := Lib.hid (HAIbw5a.out.same hst)
  have HBIw6a := Lib.hid (HBIw5a.out.same hst)
  have HPIw6a := Lib.hid (HPIw5a.out.same hst)
  have HCIaw6a := Lib.hid (HCIaw5a.out.same hst)
  have HCIbw6a := Lib.hid (HCIbw5a.out.same hst)
  have HDw6a := Lib.hid (show w6a.heap[md]? = some (.cells #[.slice ha0 hn0 hc0, .slice ha1 hn1 hc1, .slice ha2 hn2 hc2, .slice ha3 hn3 hc3, .slice ha4 hn4 hc4, .slice ha5 hn5 hc5, .slice ha6 hn6 hc6] 30 (0, 0)) by rw [← ew, ← eb]; exact heap_new _ _)
  have HDIw6a := Lib.hid (hin.same hsa)
  have HSw6a := Lib.hid (HSw5a.out.trans hst)
  have EWHD := Lib.hid ew
  have EBHD := Lib.hid eb
  clear hsn hin ew eb hsa hst
  go_upto_region 10 with fail
  rw [EWHD.out, EBHD.out]
  go_wp2_with fail
  rw [← EL.out]
  refine ((dPassed_any l hl _).mono (fun _ _ h => pass_of h)).mono ?_
  rintro e w7 ⟨hsn, qa, qn, qc, rfl, hin⟩
  rw [E3.out, EL.out]
  rw [EZ.out] at hin
  have HAw7 := Lib.hid (hsn.keep HAw6a.out)
  have HBw7 := Lib.hid (hsn.keep HBw6a.out)
  have HCw7 := Lib.hid (hsn.keep HCw6a.out)
  have HDw7 := Lib.hid (hsn.keep HDw6a.out)
  have HAIaw7 := Lib.hid (HAIaw6a.out.same hsn)
  have HAIbw7 := Lib.hid (HAIbw6a.out.same hsn)
  have HBIw7 := Lib.hid (HBIw6a.out.same hsn)
  have HPIw7 := Lib.hid (HPIw6a.out.same hsn)
  have HCIaw7 := Lib.hid (HCIaw6a.out.same hsn)
  have HCIbw7 := Lib.hid (HCIbw6a.out.same hsn)
  have HDIw7 := Lib.hid (HDIw6a.out.same hsn)
  have HQIw7 := Lib.hid hin
  have HSw7 := Lib.hid (HSw6a.out.trans hsn)
  clear hsn hin
  have hxy := HAE.out.1.symm.trans HCE.out.1
  injection hxy with hx6 hpq
  obtain ⟨rfl, rfl, rfl, rfl, rfl, rfl⟩ := cons6 hx6
  subst hpq
  clear hx6
  have HIA := Lib.hid (And.intro HAIaw7.out HAIbw7.out)
  have HIC := Lib.hid (And.intro HCIaw7.out HCIbw7.out)
  have hbs := box_self x0 x1 x2 x3 x4 x5
  obtain ⟨g0, g1, g2, g3, g4, g5, g6, g7⟩ := let_cells HAw7.out
  obtain ⟨r0, r1, r2, r3, r4, r5, r6, r7⟩ := let_cells HCw7.out
  go_wp2_with fail
  refine (rsamep_yes a1 n1 c1 a2 n2 c2 b1 m1 d1 b2 m2 d2 p w7 HIA.out.1 HIA.out.2 HIC.out.1 HIC.out.2).mono ?_
  rintro e w8 ⟨rfl, hs8⟩
  have HAw8 := Lib.hid (hs8.keep HAw7.out)
  have HBw8 := Lib.hid (hs8.keep HBw7.out)
  have HDw8 := Lib.hid (hs8.keep HDw7.out)
  have HBI8 := Lib.hid (HBIw7.out.same hs8)
  have HDI8 := Lib.hid (HDIw7.out.same hs8)
  have HPI8 := Lib.hid (HPIw7.out.same hs8)
  have HQI8 := Lib.hid (HQIw7.out.same hs8)
  have HIA8 := Lib.hid (And.intro (HIA.out.1.same hs8) (HIA.out.2.same hs8))
  have HS8 := Lib.hid (HSw7.out.trans hs8)
  clear hs8 g0 g1 g2 g3 g4 g5 g6 g7 r0 r1 r2 r3 r4 r5 r6 r7 hbs
  obtain ⟨g0, g1, g2, g3, g4, g5, g6⟩ := mix_cells HBw8.out
  obtain ⟨r0, r1, r2, r3, r4, r5, r6⟩ := mix_cells HDw8.out
  go_wp2_with fail
  refine (rsamemix_yes ga0 gn0 gc0 ga1 gn1 gc1 ga2 gn2 gc2 ga3 gn3 gc3 ga4 gn4 gc4 ga5 gn5 gc5 ga6 gn6 gc6 ha0 hn0 hc0 ha1 hn1 hc1 ha2 hn2 hc2 ha3 hn3 hc3 ha4 hn4 hc4 ha5 hn5 hc5 ha6 hn6 hc6 X w8 HBI8.out HDI8.out).mono ?_
  rintro e w9 ⟨rfl, hs9⟩
  have HAw9 := Lib.hid (hs9.keep HAw8.out)
  have HBw9 := Lib.hid (hs9.keep HBw8.out)
  have HBI9 := Lib.hid (HBI8.out.same hs9)
  have HPI9 := Lib.hid (HPI8.out.same hs9)
  have HQI9 := Lib.hid (HQI8.out.same hs9)
  have HIA9 := Lib.hid (And.intro (HIA8.out.1.same hs9) (HIA8.out.2.same hs9))
  have HS9 := Lib.hid (HS8.out.trans hs9)
  clear hs9 g0 g1 g2 g3 g4 g5 g6 r0 r1 r2 r3 r4 r5 r6
  go_wp2_with fail
  refine (rsameg_yes pa qa pn qn pc qc Z w9 HPI9.out HQI9.out).mono ?_
  rintro e wt ⟨rfl, hst⟩
  have HAt := Lib.hid (hst.keep HAw9.out)
  have HBt := Lib.hid (hst.keep HBw9.out)
  have HBIt := Lib.hid (HBI9.out.same hst)
  have HPIt := Lib.hid (HPI9.out.same hst)
  have HIAt := Lib.hid (And.intro (HIA9.out.1.same hst) (HIA9.out.2.same hst))
  have HSt := Lib.hid (HS9.out.trans hst)
  clear hst
  cases t1
  case true =>
    obtain ⟨x, hx⟩ := Option.isSome_iff_exists.1 E1.out
    have hwx := wr_rd hx
    have hxe : x = ([x0, x1, x2, x3, x4, x5], p) := by have h := HAE.out.1; unfold letOf at h; rw [hx] at h; exact h
    rw [hxe] at hwx
    have HOK := Lib.hid hwx.1
    have HLE := Lib.hid (show ofL (1 :: letterC.enc ([x0, x1, x2, x3, x4, x5], p)) = s by rw [← hwx.2]; exact EL.out)
    clear hx hxe hwx
    obtain ⟨g0, g1, g2, g3, g4, g5, g6, g7⟩ := let_cells HAt.out
    go_wp2_with fail
    refine (wLetter_any x0 x1 x2 x3 x4 x5 a1 n1 c1 a2 n2 c2 p wt HAE.out.2 HIAt.out.1 HIAt.out.2).mono ?_
    rintro e wu ⟨hsu, hW⟩
    obtain ⟨_, rfl⟩ := hW.resolve_right (fun h => h.1 HOK.out)
    rw [HLE.out]
    have HSU := Lib.hid (HSt.out.trans hsu)
    clear hsu hW g0 g1 g2 g3 g4 g5 g6 g7
    go_wp2_with fail
    go_ret
    exact ⟨rfl, HSU.out⟩
  case false =>
    cases t2
    case true =>
      obtain ⟨x, hx⟩ := Option.isSome_iff_exists.1 E2.out
      have hwx := wr_rd hx
      have hxe : x = X := by have h := EX.out; unfold mixOf at h; rw [hx] at h; exact h
      rw [hxe] at hwx
      have HOK := Lib.hid hwx.1
      have HLE := Lib.hid (show ofL (2 :: mixC.enc X) = s by rw [← hwx.2]; exact EL.out)
      clear hx hxe hwx
      obtain ⟨g0, g1, g2, g3, g4, g5, g6⟩ := mix_cells HBt.out
      go_wp2_with fail
      refine (wMixing_any ga0 gn0 gc0 ga1 gn1 gc1 ga2 gn2 gc2 ga3 gn3 gc3 ga4 gn4 gc4 ga5 gn5 gc5 ga6 gn6 gc6 X wt HBIt.out).mono ?_
      rintro e wu ⟨hsu, hW⟩
      obtain ⟨_, rfl⟩ := hW.resolve_right (fun h => h.1 HOK.out)
      rw [HLE.out]
      have HSU := Lib.hid (HSt.out.trans hsu)
      clear hsu hW g0 g1 g2 g3 g4 g5 g6
      go_wp2_with fail
      go_ret
      exact ⟨rfl, HSU.out⟩
    case false =>
      cases t3
      case true =>
        obtain ⟨x, hx⟩ := Option.isSome_iff_exists.1 E3.out
        have hwx := wr_rd hx
        have hxe : x = Z := by have h := EZ.out; unfold passOf at h; rw [hx] at h; exact h
        rw [hxe] at hwx
        have HOK := Lib.hid hwx.1
        have HLE := Lib.hid (show ofL (3 :: passlC.enc Z) = s by rw [← hwx.2]; exact EL.out)
        clear hx hxe hwx
        go_wp2_with fail
        refine (wPassed_any pa pn pc Z wt HPIt.out).mono ?_
        rintro e wu ⟨hsu, hW⟩
        obtain ⟨_, rfl⟩ := hW.resolve_right (fun h => h.1 HOK.out)
        rw [HLE.out]
        have HSU := Lib.hid (HSt.out.trans hsu)
        clear hsu hW
        go_wp2_with fail
        go_ret
        exact ⟨rfl, HSU.out⟩
      case false =>
        go_wp2_with fail
        go_ret
        exact ⟨rfl, HSt.out⟩
end Go.Proofs.Ytdbhcdhenapfoaa
