/- Layer 14: the reference's Fetch. -/
import Derived.Test.YtchmhpfccanamaaRefD
set_option linter.unusedVariables false
set_option linter.unusedSimpArgs false
namespace Go.Proofs.Ytchmhpfccanamaa
open Go.RowKit
def rnds (L : List RRnd) : List Rnd := L.map fun r => (r.1, bodN r.2 r.2.length)
theorem rnds_len (L : List RRnd) : (rnds L).length = L.length := by unfold rnds; simp
theorem rnds_at (L : List RRnd) (i : Nat) (h : i < L.length) : (rnds L).getD i rd0 = ((L.getD i (0, [])).1, bodN (L.getD i (0, [])).2 (L.getD i (0, [])).2.length) := by
  unfold rnds; simp [List.getD, List.getElem?_map, List.getElem?_eq_getElem h]
theorem fst_at (L : List RRnd) (i : Nat) (h : i < L.length) : (L.map (·.1)).getD i 0 = (L.getD i (0, [])).1 := by simp [List.getD, List.getElem?_map, List.getElem?_eq_getElem h]
theorem snd_at (L : List RRnd) (i : Nat) (h : i < L.length) : (L.map (·.2)).getD i [] = (L.getD i (0, [])).2 := by simp [List.getD, List.getElem?_map, List.getElem?_eq_getElem h]
/-- the two boxes -/
theorem rf_boxes (w : World) (e f : Int) : ∃ W mb rb, (w.alloc (.cells #[.int .u64 e, .int .u64 f] 32)).alloc (.cells #[.int .u64 0, .int .u64 0] 32) = W ∧ w.heap.size = mb ∧ mb + 1 = rb ∧ Same w W ∧ w.heap.size ≤ rb ∧
    W.cell? ⟨mb, 0, none⟩ = some (.int .u64 e) ∧ W.cell? ⟨mb, 1, none⟩ = some (.int .u64 f) ∧ W.heap[rb]? = some (.cells #[.int .u64 0, .int .u64 0] 32 (0, 0)) := by
  have s1 : (w.alloc (.cells #[.int .u64 e, .int .u64 f] 32)).heap.size = w.heap.size + 1 := by simp
  refine ⟨_, _, _, rfl, rfl, rfl, ((Same.refl w).alloc _).alloc _, by omega, ?_, ?_, ?_⟩
  · exact same_cell ((Same.refl _).alloc _) (by simp [World.cell?_alloc_new] : (w.alloc (.cells #[.int .u64 e, .int .u64 f] 32)).cell? ⟨w.heap.size, 0, none⟩ = some (.int .u64 e))
  · exact same_cell ((Same.refl _).alloc _) (by simp [World.cell?_alloc_new] : (w.alloc (.cells #[.int .u64 e, .int .u64 f] 32)).cell? ⟨w.heap.size, 1, none⟩ = some (.int .u64 f))
  · rw [← s1]; exact (MapKept.heap_alloc _ _).1
set_option maxRecDepth 100000 in
set_option maxHeartbeats 6400000 in
theorem refFetch_any (pb : Nat) (L : List RRnd) (cnt x y e f : Int) (hL : L.length ≤ 16) (hdis : ∀ i j, i < j → j < L.length → (L.getD i (0, [])).1 ≠ (L.getD j (0, [])).1) (hlen : ∀ i, i < L.length → (L.getD i (0, [])).2.length ≤ 1000000) (w : World) (h : RefAt w pb L cnt) :
    Calls Try.prog 11 #[.pointer (some ⟨pb, 0, none⟩), .int .i64 x, .int .u64 y, .agg #[.int .u64 e, .int .u64 f]] w fun z w' => z = .returned (fetV (fetchR (rnds L) x y (e, f))) ∧ Same w w' := by
  obtain ⟨W, mb, rb, eW, e1, e2, hS, hrb, m0, m1, hr0⟩ := rf_boxes w e f
  obtain ⟨a1, c1, a2, c2, hp, hl1, hl2, h1, h2⟩ := (h.same hS).ex
  obtain ⟨n, en⟩ : ∃ n, L.length = n := ⟨_, rfl⟩
  have k0 : W.cell? ⟨pb, 0, none⟩ = some (.slice a1 n c1) := by rw [cell_at hp, ← en]; rfl
  have k1 : W.cell? ⟨pb, 1, none⟩ = some (.slice a2 n c2) := by rw [cell_at hp, ← en]; rfl
  have EN := Lib.hid en
  have EW := Lib.hid eW
  have E1 := Lib.hid e1
  have E2 := Lib.hid e2
  have HS := Lib.hid hS
  have HRS := Lib.hid hrb
  have HR0 := Lib.hid hr0
  have HK := Lib.hid (And.intro k0 (And.intro k1 (And.intro m0 m1)))
  have H1 := Lib.hid h1
  have H2 := Lib.hid h2
  have HD := Lib.hid hdis
  have HLE := Lib.hid hlen
  rw [en] at hL hl1 hl2
  clear h eW e1 e2 hS hrb m0 m1 hr0 hp h1 h2 hdis hlen k0 k1 en
  obtain ⟨i0, hi, hz0, hz1, hz2⟩ := info_parts info_body
  have HII := Lib.hid (And.intro hi (And.intro hz0 (And.intro hz1 hz2)))
  clear hi hz0 hz1 hz2
  go_enter Try.func11, Try.ntmps11
  go_upto_region 1 with fail
  rw [EW.out, E1.out, E2.out]
  go_wp2_with fail
  go_loopw [10] (fun s10 wr => ∃ i : Nat, s10 = .int .i64 i ∧ i ≤ n ∧ Hid (idxR (rnds L) x i = -1 ∨ (fetchR (rnds L) x y (e, f) = none ∧ ∃ k, k < i ∧ (L.getD k (0, [])).1 = x)) ∧ Hid (Same W wr)) (fun s10 _ => n - (intOf s10).toNat)
  case atStart => exact ⟨0, rfl, by omega, Lib.hid (Or.inl rfl), Lib.hid (Same.refl _)⟩
  case round =>
    obtain ⟨i, rfl, hi, hI, hD⟩ := hrel
    have k0 := same_cell hD.out HK.out.1
    by_cases hlt : i < n
    · obtain ⟨g, off, cur, fz, ea, hh, hc⟩ := H1.out.cells (by rw [List.length_map, EN.out]; omega)
      subst ea
      obtain ⟨num, enum⟩ : ∃ z, (L.getD i (0, [])).1 = z := ⟨_, rfl⟩
      have hnum : wr.cell? ⟨g, off + i, none⟩ = some (.int .i64 num) := same_cell hD.out (by rw [cell_at hh, hc i (by rw [List.length_map, EN.out]; exact hlt), fst_at L i (by rw [EN.out]; exact hlt), enum])
      have ENU := Lib.hid enum
      have hi0 : (0 : Int) ≤ i := by omega
      have hi1 : (i : Int) < n := by omega
      clear hc hh enum
      by_cases hx : num = x
      case neg =>
        have hb : (num != x) = true := by simpa using hx
        have HNX := Lib.hid (show idxR (rnds L) x (i + 1) = -1 ∨ (fetchR (rnds L) x y (e, f) = none ∧ ∃ k, k < i + 1 ∧ (L.getD k (0, [])).1 = x) by
          rcases hI.out with h | ⟨h, k, hk, e⟩
          · left
            rw [idxR_step h, rnds_at L i (by rw [EN.out]; exact hlt), if_neg (by rw [ENU.out]; exact hx)]
          · exact Or.inr ⟨h, k, by omega, e⟩)
        clear hx
        go_wp2_with fail
        go_roundw
        case rel => exact ⟨i + 1, by go_num, by omega, HNX, hD⟩
        case measure => simp [intOf]; omega
      subst hx
      have hI1 : idxR (rnds L) num i = -1 := by
        rcases hI.out with h | ⟨_, k, hk, e⟩
        · exact h
        · exact absurd (e.trans ENU.out.symm) (HD.out k i hk (by rw [EN.out]; exact hlt))
      obtain ⟨l, el⟩ : ∃ l, (L.getD i (0, [])).2 = l := ⟨_, rfl⟩
      have hfe : fetchR (rnds L) num y (e, f) = pickB (atP l y) (e, f) := by
        have h2 : idxR (rnds L) num (i + 1) = i := by rw [idxR_step hI1, rnds_at L i (by rw [EN.out]; exact hlt), if_pos ENU.out]
        have h3 : idxR (rnds L) num (rnds L).length = i := by rw [rnds_len, EN.out, idxR_stays (n := i + 1) (by rw [h2]; omega) n (by omega), h2]
        rw [fetchR_yes h3, rnds_at L i (by rw [EN.out]; exact hlt), el]
        show pickB (bodN l l.length y) _ = _
        rw [bodN_all]
      have HFE := Lib.hid hfe
      obtain ⟨g2, off2, cur2, fz2, ea2, hh2, hc2⟩ := H2.out.cells (by rw [List.length_map, EN.out]; omega)
      subst ea2
      obtain ⟨v, hv, hnb⟩ := hc2 i (by rw [List.length_map, EN.out]; exact hlt)
      rw [snd_at L i (by rw [EN.out]; exact hlt), el] at hnb
      obtain ⟨ai, ci, ev, hnc⟩ := hnb.ex
      subst ev
      have hml : l.length ≤ 1000000 := by rw [← el]; exact HLE.out i (by rw [EN.out]; exact hlt)
      obtain ⟨m, em⟩ : ∃ m, l.length = m := ⟨_, rfl⟩
      rw [em] at hv hml
      have HKI := Lib.hid (show W.cell? ⟨g2, off2 + i, none⟩ = some (.slice ai m ci) by rw [cell_at hh2]; exact hv)
      have HNC := Lib.hid hnc
      have EM := Lib.hid em
      have HNX := Lib.hid (show ∀ k, k ≤ i → fetchR (rnds L) num y (e, f) = none → (idxR (rnds L) num (i + 1) = -1 ∨ (fetchR (rnds L) num y (e, f) = none ∧ ∃ k, k < i + 1 ∧ (L.getD k (0, [])).1 = num)) from fun k _ h => Or.inr ⟨h, i, by omega, ENU.out⟩)
      have hb : (num != num) = false := by simp
      have hm0 : (0 : Int) ≤ m := by omega
      clear hI1 el hfe hh2 hc2 hv hnb hnc em
      go_wp2_with fail
      go_loopw [11, 12] (fun s11 s12 wq => ∃ j : Nat, s12 = .int .i64 j ∧ j ≤ m ∧ Hid (RowB wq W.heap.size s11 (atP (l.take j) y)) ∧ Hid (Same W wq)) (fun _ s12 _ => m - (intOf s12).toNat)
      case atStart => exact ⟨0, rfl, by omega, Lib.hid (World.ownsRow_nil _ _ _ _), hD⟩
      case round =>
        obtain ⟨j, rfl, hj, hO, hD2⟩ := hrel
        have k1 := same_cell hD2.out HK.out.2.1
        have ki := same_cell hD2.out HKI.out
        by_cases hltj : j < m
        · obtain ⟨g3, off3, cur3, fz3, e3, hh3, hc3⟩ := HNC.out (by rw [EM.out]; omega)
          subst e3
          obtain ⟨nt, ent⟩ : ∃ nt, l.getD j nt0 = nt := ⟨_, rfl⟩
          have hcj := hc3 j (by rw [EM.out]; exact hltj)
          rw [ent] at hcj
          obtain ⟨px, p, q⟩ := nt
          have n0 : wr.cell? ⟨g3, off3 + j * 3, none⟩ = some (.int .u64 px) := same_cell hD2.out (by rw [cell_at hh3]; exact hcj.1)
          have n1 : wr.cell? ⟨g3, off3 + j * 3 + 1, none⟩ = some (.int .u64 p) := same_cell hD2.out (by rw [cell_at hh3]; exact hcj.2.1)
          have n2 : wr.cell? ⟨g3, off3 + j * 3 + 2, none⟩ = some (.int .u64 q) := same_cell hD2.out (by rw [cell_at hh3]; exact hcj.2.2)
          have HAT := Lib.hid (show atP (l.take (j + 1)) y = atP (l.take j) y ++ (if px = y then [(p, q)] else []) by
            rw [take_snocN l j (by rw [EM.out]; exact hltj), atP_app, ent]
            by_cases h : px = y
            · rw [if_pos h]; simp [atP, h]
            · rw [if_neg h]; have : (px == y) = false := by simpa using h
              simp [atP, this])
          have HAL := Lib.hid (show (atP (l.take j) y).length ≤ j by unfold atP; rw [List.length_map]; exact Nat.le_trans (List.length_filter_le _ _) (by rw [List.length_take]; omega))
          have hj0 : (0 : Int) ≤ j := by omega
          have hj1 : (j : Int) < m := by omega
          clear hc3 hh3 hcj ent
          go_upto_region 10 with fail
          obtain ⟨nb, enb⟩ : ∃ nb, wr.heap.size = nb := ⟨_, rfl⟩
          obtain ⟨wn, ewn⟩ : ∃ wn, wr.alloc (.cells #[.int .u64 px, .int .u64 p, .int .u64 q] 25) = wn := ⟨_, rfl⟩
          have b0 : wn.cell? ⟨nb, 0, none⟩ = some (.int .u64 px) := by rw [← ewn, ← enb]; simp [World.cell?_alloc_new]
          have b1 : wn.cell? ⟨nb, 1, none⟩ = some (.int .u64 p) := by rw [← ewn, ← enb]; simp [World.cell?_alloc_new]
          have b2 : wn.cell? ⟨nb, 2, none⟩ = some (.int .u64 q) := by rw [← ewn, ← enb]; simp [World.cell?_alloc_new]
          have hDn := Lib.hid (show Same W wn by rw [← ewn]; exact hD2.out.alloc _)
          have HOn := Lib.hid (show RowB wn W.heap.size u11 (atP (l.take j) y) by rw [← ewn]; exact hO.out.alloc _)
          rw [enb, ewn]
          clear enb ewn n0 n1 n2 hO hD2 k1 ki
          by_cases hpy : px = y
          · subst hpy
            have hown := HOn.out
            obtain ⟨al, eal⟩ : ∃ al, atP (l.take j) px = al := ⟨_, rfl⟩
            unfold RowB at hown
            rw [eal] at hown
            have hall : al.length ≤ 1000000 := by have := HAL.out; rw [eal] at this; omega
            have HX := Lib.hid (show atP (l.take (j + 1)) px = al ++ [(p, q)] by rw [HAT.out, eal, if_pos rfl])
            obtain ⟨i0, hi, hz0, hz1, hz2⟩ := info_parts info_body
            have hbb : (px == px) = true := by simp
            clear eal
            go_wp2_with (first
              | (at_builtin; refine wpList_append_own _ rfl _ _ 59 rfl W.heap.size 32 i0 _ 2 16 Try.underlying59 hi hz0 hz1 hz2 rfl (by decide) _ _ _ rfl (hown.alloc _) ⟨wn.heap.size, 0, none⟩ 1 1 [.int .u64 p, .int .u64 q] rfl rfl (two_new _ _ _ _) (two_cell _ _) (by unfold maxLen; omega) (by omega) (by have := hDn.out.size; simp; omega) ?_; intro v' w7 hown' hgrow _; have hb2 := Lib.hid (show Same W w7 from Below.grown (hDn.out.alloc _) hgrow (by have := hDn.out.size; simp; omega) (fun k hk => (hown.lt k hk).1)); have HN7 := Lib.hid hown'; clear hown' hgrow))
            go_roundw
            case rel => exact ⟨j + 1, by go_num, by omega, Lib.hid (by rw [HX.out]; unfold RowB; rw [cellsOf_snoc, List.length_append]; exact HN7.out), hb2⟩
            case measure => simp [intOf]; omega
          · have hbb : (px == y) = false := by simpa using hpy
            have HX := Lib.hid (show atP (l.take (j + 1)) y = atP (l.take j) y by rw [HAT.out, if_neg hpy, List.append_nil])
            clear hpy
            go_wp2_with fail
            go_roundw
            case rel => exact ⟨j + 1, by go_num, by omega, Lib.hid (by rw [HX.out]; exact HOn.out), hDn⟩
            case measure => simp [intOf]; omega
        · obtain rfl : m = j := by omega
          have hrow := hO.out
          rw [← EM.out, List.take_length] at hrow
          obtain ⟨al, eal⟩ : ∃ al, atP l y = al := ⟨_, rfl⟩
          have hFE := HFE.out
          rw [eal] at hrow hFE
          obtain ⟨a11, c11, e11, hpa⟩ := hrow.pairs
          subst e11
          obtain ⟨la, ela⟩ : ∃ la, al.length = la := ⟨_, rfl⟩
          have hsm := hpa.small
          rw [ela] at hpa hsm
          have HPA := Lib.hid hpa
          have HFE2 := Lib.hid hFE
          have ELA := Lib.hid ela
          have HRN := Lib.hid (show wr.heap[rb]? = some (.cells #[.int .u64 0, .int .u64 0] 32 (0, 0)) by rw [hD2.out.block rb (Array.getElem?_eq_some_iff.1 HR0.out).1]; exact HR0.out)
          have HSR := Lib.hid (HS.out.trans hD2.out)
          have r0 : wr.cell? ⟨rb, 0, none⟩ = some (.int .u64 0) := by rw [cell_at HRN.out]; rfl
          have r1 : wr.cell? ⟨rb, 1, none⟩ = some (.int .u64 0) := by rw [cell_at HRN.out]; rfl
          have f0 : wr.frozen? ⟨rb, 0, none⟩ = false := free_at HRN.out
          have f1 : wr.frozen? ⟨rb, 1, none⟩ = false := free_at HRN.out
          clear hrow hFE hpa eal hltj hO
          rw [ela]
          clear ela
          by_cases h2 : la = 2
          case neg =>
            have hb2 : ((la : Int) != 2) = true := by simp; omega
            have HV := Lib.hid (show fetchR (rnds L) num y (e, f) = none by rw [HFE2.out]; exact pickB_none (by rw [ELA.out]; exact h2))
            have HZ := Lib.hid (set_two HRN.out HSR.out HRS.out (.int .u64 0) (.int .u64 0))
            go_wp2_with fail
            obtain ⟨p0, p1, pS⟩ := HZ.out
            refine bodyPost_ret (by simp [results, Try.results11, go_sem, p0, p1]; try rfl) rfl ?_
            exact ⟨by rw [HV.out]; rfl, pS⟩
          subst h2
          have hb2 : (((2 : Nat) : Int) != 2) = false := by simp
          obtain ⟨b, off, eb, hcb⟩ := HPA.out.cells (by omega)
          subst eb
          have hal : ∃ X Y, al = [X, Y] := by
            match al, ELA.out with
            | [X, Y], _ => exact ⟨X, Y, rfl⟩
          obtain ⟨⟨x1, x2⟩, ⟨y1, y2⟩, hal⟩ := hal
          subst hal
          have g0 := hcb 0 (by omega)
          have g1 := hcb 1 (by omega)
          simp only [Nat.zero_mul, Nat.one_mul, Nat.add_zero] at g0 g1
          have hpk : fetchR (rnds L) num y (e, f) = if (x1, x2) = (e, f) then some (y1, y2) else if (y1, y2) = (e, f) then some (x1, x2) else none := by rw [HFE2.out, pickB_two]
          have HPK := Lib.hid hpk
          have HG := Lib.hid (show wr.cell? ⟨b, off, none⟩ = some (.int .u64 x1) ∧ wr.cell? ⟨b, off + 1, none⟩ = some (.int .u64 x2) ∧ wr.cell? ⟨b, off + 2, none⟩ = some (.int .u64 y1) ∧ wr.cell? ⟨b, off + 2 + 1, none⟩ = some (.int .u64 y2) from ⟨g0.1, g0.2, g1.1, g1.2⟩)
          have HMM := Lib.hid (And.intro (same_cell hD2.out HK.out.2.2.1) (same_cell hD2.out HK.out.2.2.2))
          clear hcb g0 g1 hpk
          go_upto_region 14 with fail
          obtain ⟨wd, ewd⟩ : ∃ wd, wr.drew = wd := ⟨_, rfl⟩
          have hsd : Same wr wd := by rw [← ewd]; exact drew_same _
          have HSD := Lib.hid hsd
          have HQ := Lib.hid (show FourS wd b off mb 0 (.int .u64 x1) (.int .u64 x2) (.int .u64 e) (.int .u64 f) wd from ⟨same_cell hsd HG.out.1, same_cell hsd HG.out.2.1, same_cell hsd HMM.out.1, same_cell hsd HMM.out.2, Same.refl _⟩)
          have EWD := Lib.hid ewd
          have heq := equal_body x1 x2 e f
          obtain ⟨bx, ebx⟩ : ∃ bx, (x1 == e && x2 == f) = bx := ⟨_, rfl⟩
          rw [ebx] at heq
          have HBX := Lib.hid (show bx = true ↔ (x1, x2) = (e, f) by rw [← ebx]; simp)
          clear ebx
          clear ewd hsd r0 r1 f0 f1
          go_region_held3 (fun w' => FourS wd b off mb 0 (.int .u64 x1) (.int .u64 x2) (.int .u64 e) (.int .u64 f) w')
            (first
              | (rw [EWD.out]; exact HQ.out)
              | assumption
              | go_keep)
            (first
              | fail)
          rw [EWD.out]
          rename_i hHeld
          clear hHeld heq
          have HRN2 := Lib.hid (show wd.heap[rb]? = some (.cells #[.int .u64 0, .int .u64 0] 32 (0, 0)) by rw [HSD.out.block rb (Array.getElem?_eq_some_iff.1 HRN.out).1]; exact HRN.out)
          have HSR2 := Lib.hid (HSR.out.trans HSD.out)
          have r0 : wd.cell? ⟨rb, 0, none⟩ = some (.int .u64 0) := by rw [cell_at HRN2.out]; rfl
          have r1 : wd.cell? ⟨rb, 1, none⟩ = some (.int .u64 0) := by rw [cell_at HRN2.out]; rfl
          have f0 : wd.frozen? ⟨rb, 0, none⟩ = false := free_at HRN2.out
          have f1 : wd.frozen? ⟨rb, 1, none⟩ = false := free_at HRN2.out
          have g0 := same_cell (HSD.out) HG.out.1
          have g1 := same_cell (HSD.out) HG.out.2.1
          have g2' := same_cell (HSD.out) HG.out.2.2.1
          have g3 := same_cell (HSD.out) HG.out.2.2.2
          cases bx
          case true =>
            have hX := HBX.out.1 rfl
            have HV := Lib.hid (show fetchR (rnds L) num y (e, f) = some (y1, y2) by rw [HPK.out, if_pos hX])
            clear hX
            have HZ := Lib.hid (set_two HRN2.out HSR2.out HRS.out (.int .u64 y1) (.int .u64 y2))
            go_wp2_with fail
            obtain ⟨p0, p1, pS⟩ := HZ.out
            refine bodyPost_ret (by simp [results, Try.results11, go_sem, p0, p1]; try rfl) rfl ?_
            exact ⟨by rw [HV.out]; rfl, pS⟩
          have hX : ¬ (x1, x2) = (e, f) := fun h => by have := HBX.out.2 h; cases this
          have HP2 := Lib.hid (show fetchR (rnds L) num y (e, f) = if (y1, y2) = (e, f) then some (x1, x2) else none by rw [HPK.out, if_neg hX])
          clear hX
          go_upto_region 16 with fail
          obtain ⟨we, ewe⟩ : ∃ we, wd.drew = we := ⟨_, rfl⟩
          have hse : Same wd we := by rw [← ewe]; exact drew_same _
          have HSE := Lib.hid (HSD.out.trans hse)
          have HQ2 := Lib.hid (show FourS we b (off + 2) mb 0 (.int .u64 y1) (.int .u64 y2) (.int .u64 e) (.int .u64 f) we from ⟨same_cell HSE.out HG.out.2.2.1, same_cell HSE.out HG.out.2.2.2, same_cell HSE.out HMM.out.1, same_cell HSE.out HMM.out.2, Same.refl _⟩)
          have EWE := Lib.hid ewe
          have heq := equal_body y1 y2 e f
          obtain ⟨bq, eby⟩ : ∃ b', (y1 == e && y2 == f) = b' := ⟨_, rfl⟩
          rw [eby] at heq
          have HBY := Lib.hid (show bq = true ↔ (y1, y2) = (e, f) by rw [← eby]; simp)
          clear eby
          clear ewe hse r0 r1 f0 f1 g0 g1 g2' g3
          go_region_held3 (fun w' => FourS we b (off + 2) mb 0 (.int .u64 y1) (.int .u64 y2) (.int .u64 e) (.int .u64 f) w')
            (first
              | (rw [EWE.out]; exact HQ2.out)
              | assumption
              | go_keep)
            (first
              | fail)
          rw [EWE.out]
          rename_i hHeld
          clear hHeld heq
          have HRN3 := Lib.hid (show we.heap[rb]? = some (.cells #[.int .u64 0, .int .u64 0] 32 (0, 0)) by rw [HSE.out.block rb (Array.getElem?_eq_some_iff.1 HRN.out).1]; exact HRN.out)
          have HSR3 := Lib.hid (HSR.out.trans HSE.out)
          have r0 : we.cell? ⟨rb, 0, none⟩ = some (.int .u64 0) := by rw [cell_at HRN3.out]; rfl
          have r1 : we.cell? ⟨rb, 1, none⟩ = some (.int .u64 0) := by rw [cell_at HRN3.out]; rfl
          have f0 : we.frozen? ⟨rb, 0, none⟩ = false := free_at HRN3.out
          have f1 : we.frozen? ⟨rb, 1, none⟩ = false := free_at HRN3.out
          have g0 := same_cell (HSE.out) HG.out.1
          have g1 := same_cell (HSE.out) HG.out.2.1
          have g2' := same_cell (HSE.out) HG.out.2.2.1
          have g3 := same_cell (HSE.out) HG.out.2.2.2
          cases bq
          case true =>
            have hY := HBY.out.1 rfl
            have HV := Lib.hid (show fetchR (rnds L) num y (e, f) = some (x1, x2) by rw [HP2.out, if_pos hY])
            clear hY
            have HZ := Lib.hid (set_two HRN3.out HSR3.out HRS.out (.int .u64 x1) (.int .u64 x2))
            go_wp2_with fail
            obtain ⟨p0, p1, pS⟩ := HZ.out
            refine bodyPost_ret (by simp [results, Try.results11, go_sem, p0, p1]; try rfl) rfl ?_
            exact ⟨by rw [HV.out]; rfl, pS⟩
          have hY : ¬ (y1, y2) = (e, f) := fun h => by have := HBY.out.2 h; cases this
          have HV := Lib.hid (HNX.out i (Nat.le_refl _) (by rw [HP2.out, if_neg hY]))
          have HDE := Lib.hid (hD2.out.trans HSE.out)
          clear hY
          go_wp2_with fail
          go_roundw
          case rel => exact ⟨i + 1, by go_num, by omega, HV, HDE⟩
          case measure => simp [intOf]; omega
    · obtain rfl : n = i := by omega
      have HV := Lib.hid (show fetchR (rnds L) x y (e, f) = none by
        rcases hI.out with h | ⟨h, _⟩
        · exact fetchR_no (by rw [rnds_len, EN.out]; exact h)
        · exact h)
      have HRN : wr.heap[rb]? = some (.cells #[.int .u64 0, .int .u64 0] 32 (0, 0)) := by rw [hD.out.block rb (Array.getElem?_eq_some_iff.1 HR0.out).1]; exact HR0.out
      have r0 : wr.cell? ⟨rb, 0, none⟩ = some (.int .u64 0) := by rw [cell_at HRN]; rfl
      have r1 : wr.cell? ⟨rb, 1, none⟩ = some (.int .u64 0) := by rw [cell_at HRN]; rfl
      have f0 : wr.frozen? ⟨rb, 0, none⟩ = false := free_at HRN
      have f1 : wr.frozen? ⟨rb, 1, none⟩ = false := free_at HRN
      have HZ := Lib.hid (set_two HRN (HS.out.trans hD.out) HRS.out (.int .u64 0) (.int .u64 0))
      go_wp2_with fail
      obtain ⟨p0, p1, pS⟩ := HZ.out
      refine bodyPost_ret (by simp [results, Try.results11, go_sem, p0, p1]; try rfl) rfl ?_
      exact ⟨by rw [HV.out]; rfl, pS⟩
end Go.Proofs.Ytchmhpfccanamaa
