/- Layer 10: the document's ReadPassed. -/
import Derived.Test.YtdbhcdhenapfoaaDocL
import Derived.Deep.DeepCutAuto
set_option linter.unusedVariables false
set_option linter.unusedSimpArgs false
namespace Go.Proofs.Ytdbhcdhenapfoaa
open Go.RowKit Go.Maps
set_option maxRecDepth 20000 in
set_option maxHeartbeats 6400000 in
theorem dPassed_any (l : Bs) (hl : l.length ≤ 1000000000) (w : World) :
    Calls Try.prog 25 #[.string (ofL l)] w fun z w' =>
      Same w w' ∧ ((∃ x a n c, rd 3 passlC l = some x ∧ z = .returned (.tuple #[.slice a n c, .bool true]) ∧ OwnP w' w.heap.size (.slice a n c) x) ∨
        (rd 3 passlC l = none ∧ z = .returned (.tuple #[.slice none 0 0, .bool false]))) := by
  go_enter Try.func25, Try.ntmps25
  go_wp2_with fail
  refine (dbegin_any l hl 3 3 rfl w).mono ?_
  rintro e wB ⟨hs1, hz1, rfl, hr1⟩
  obtain ⟨rb, erb⟩ : ∃ rb, w.heap.size = rb := ⟨_, rfl⟩
  rw [erb] at hz1 hr1 ⊢
  obtain ⟨o0, eo0⟩ : ∃ o0, beg 3 l = o0 := ⟨_, rfl⟩
  rw [eo0] at hr1
  have EO0 := Lib.hid eo0
  have ERB := Lib.hid erb
  have HRR0 := Lib.hid hr1
  have HSB := Lib.hid hs1
  have HRB := Lib.hid (show rb < wB.heap.size by omega)
  clear hs1 hz1 hr1 eo0 erb
  go_wp2_with fail
  refine (dcount_any rb 8 (by omega) o0 wB HRR0.out).mono ?_
  rintro e w3 ⟨hO3, n, o1, hn, rfl, hst, hR3⟩
  have HST := Lib.hid hst
  have HR3 := Lib.hid hR3
  have HD3 := Lib.hid hO3
  have hn0 : (0 : Int) ≤ n := by omega
  clear hst hR3 hO3
  go_wp2_with fail
  go_loopw [5, 7] (fun s5 s7 wr => ∃ i : Nat, s7 = .int .i64 i ∧ i ≤ n ∧ Hid (∃ ls o2, ls.length = i ∧ Loop passC o1 n i ls o2 ∧ OwnP wr wB.heap.size s5 ls ∧ RdD wr rb o2) ∧ Hid (Off (· = rb) wB wr)) (fun _ s7 _ => n - (intOf s7).toNat)
  case atStart => exact ⟨0, rfl, by omega, Lib.hid ⟨[], o1, rfl, Loop.start _ _ _, OwnP.nil _ _, HR3.out⟩, HD3⟩
  case round =>
    obtain ⟨i, rfl, hi', hI, hD⟩ := hrel
    obtain ⟨ls, o2, hlen, hlp, hown, hR⟩ := hI.out
    obtain ⟨va, vn, vc, rfl⟩ := hown.form
    have HLX := Lib.hid hlen
    have HLP := Lib.hid hlp
    have HOW := Lib.hid hown
    have HRR := Lib.hid hR
    clear hI hlen hlp hown hR
    obtain ⟨c, hc⟩ : ∃ c : Bool, c = (decide (i < n) && !o2.isNone) := ⟨_, rfl⟩
    have HC := Lib.hid hc
    have hi0 : (0 : Int) ≤ i := by omega
    clear hc
    go_upto_region 5 with fail
    go_cut [24] (fun s24 wx => s24 = .bool c ∧ wr = wx)
    case first =>
      cases o2 with
      | none =>
        have k1 := HRR.out.bad_cell
        have HV := Lib.hid (show c = false by rw [HC.out]; simp)
        by_cases hlt : i < n
        · have hi1 : (i : Int) < n := by omega
          go_wp2_with fail
          go_meet
          exact ⟨by rw [HV.out], rfl⟩
        · have hi1 : decide ((i : Int) < n) = false := decide_eq_false (by omega)
          go_wp2_with fail
          go_meet
          exact ⟨by rw [HV.out], rfl⟩
      | some r =>
        have k1 := HRR.out.good_cell
        by_cases hlt : i < n
        · have hi1 : (i : Int) < n := by omega
          have HV := Lib.hid (show c = true by rw [HC.out]; simp [hlt])
          go_wp2_with fail
          go_meet
          exact ⟨by rw [HV.out], rfl⟩
        · have hi1 : decide ((i : Int) < n) = false := decide_eq_false (by omega)
          have HV := Lib.hid (show c = false by rw [HC.out]; simp [hlt])
          go_wp2_with fail
          go_meet
          exact ⟨by rw [HV.out], rfl⟩
    case rest =>
      obtain ⟨eS, eW⟩ := hcut
      subst eS eW
      cases c
      case true =>
        have hlt : i < n := by have h := HC.out; simp at h; exact h.1
        obtain ⟨r, rfl⟩ : ∃ r, o2 = some r := by
          cases o2 with
          | none => have h := HC.out; simp at h
          | some r => exact ⟨r, rfl⟩
        obtain ⟨wo, rfl⟩ : ∃ wz, wz = wr := ⟨_, rfl⟩
        obtain ⟨w4, ew4⟩ : ∃ w4, wo.alloc (.cells #[.int .u64 0, .int .u64 0, .int .u64 0, .int .u64 0, .int .u64 0, .int .u64 0, .int .u64 0, .int .u64 0, .int .u64 0, .slice none 0 0, .slice none 0 0, .slice none 0 0, .slice none 0 0, .slice none 0 0, .slice none 0 0] 62) = w4 := ⟨_, rfl⟩
        obtain ⟨tb, etb⟩ : ∃ tb, wo.heap.size = tb := ⟨_, rfl⟩
        have hS4 : Same wo w4 := by rw [← ew4]; exact (Same.refl wo).alloc _
        have HTB := Lib.hid (show wB.heap.size ≤ tb ∧ rb < tb from by rw [← etb]; exact ⟨hD.out.size, Nat.lt_of_lt_of_le HRB.out hD.out.size⟩)
        have HB4 := Lib.hid (show w4.heap[tb]? = some (.cells (pasV [] []) 62 (0, 0)) by rw [← ew4, ← etb]; exact heap_new _ _)
        have HR4 := Lib.hid (HRR.out.same hS4)
        have HD4 := Lib.hid (hD.out.trans (Off.of_same hS4))
        have HS4 := Lib.hid hS4
        have EW4 := Lib.hid ew4
        have ETB := Lib.hid etb
        clear hS4 ew4 etb
        go_upto_region 8 with fail
        rw [EW4.out, ETB.out]
        go_wp2_with fail
        go_loopw [9] (fun s9 wr => ∃ j : Nat, s9 = .int .i64 j ∧ j ≤ 3 ∧ Hid (∃ ys o3, ys.length = j * 3 ∧ Loop numC (some r) 9 (j * 3) ys o3 ∧ wr.heap[tb]? = some (.cells (pasV ys []) 62 (0, 0)) ∧ RdD wr rb o3) ∧ Hid (Off (fun k => k = rb ∨ k = tb) w4 wr)) (fun s9 _ => 3 - (intOf s9).toNat)
        case atStart => exact ⟨0, rfl, by omega, Lib.hid ⟨[], some r, rfl, Loop.start _ _ _, HB4.out, HR4.out⟩, Lib.hid (Off.refl _ _)⟩
        case round =>
          obtain ⟨j, rfl, hj', hI, hT⟩ := hrel
          obtain ⟨ysz, oz, hln0, hn9, hb9, hr9⟩ := hI.out
          have HGz := Lib.hid hln0
          have HNz := Lib.hid hn9
          have HBz := Lib.hid hb9
          have HRz := Lib.hid hr9
          have HTz := Lib.hid hT.out
          clear hI hn9 hb9 hr9 hT hln0
          by_cases hjt : j < 3
          · have hj0 : (0 : Int) ≤ j := by omega
            have hj1 : (j : Int) < 3 := by omega
            obtain ⟨wnz, rfl⟩ : ∃ wz, wz = wr := ⟨_, rfl⟩
            go_wp2_with fail
            refine (dnum_any rb oz wnz HRz.out).mono ?_
            rintro e wna ⟨hO, ya, oa, hux, rfl, hst1, hR⟩
            have hb := hO.keep (b := tb) (by have := HTB.out.2; omega) HBz.out
            have hln : ysz.length = j * 3 := HGz.out
            have ka : wna.cell? ⟨tb, j * 3, none⟩ = some (.int .u64 0) := by rw [cell_at hb]; exact pasV_at (by omega) (by omega)
            have fa : wna.frozen? ⟨tb, j * 3, none⟩ = false := free_at hb
            obtain ⟨wnac, ew⟩ : ∃ wz, wna.setCell ⟨tb, j * 3, none⟩ (.int .u64 ya) = wz := ⟨_, rfl⟩
            have hpv := pasV_num (xs := ysz) (by omega) ya
            rw [hln] at hpv
            have hlN : (ysz ++ [ya]).length = j * 3 + 1 := by rw [List.length_append, hln]; rfl
            obtain ⟨ysa, eys⟩ : ∃ z, ysz ++ [ya] = z := ⟨_, rfl⟩
            have hN2 := HNz.out.next (by omega) hst1
            rw [eys] at hN2 hpv hlN
            have HGa := Lib.hid hlN
            have HBa := Lib.hid (show wnac.heap[tb]? = some (.cells (pasV ysa []) 62 (0, 0)) by rw [← ew, heap_set hb, hpv])
            have HRa := Lib.hid (show RdD wnac rb oa by rw [← ew]; exact hR.put (by have := HTB.out.2; omega) _)
            have HTa := Lib.hid (show Off (fun k => k = rb ∨ k = tb) w4 wnac by rw [← ew]; exact (HTz.out.trans (hO.mono (fun k _ e => Or.inl e))).trans (Off.set (S := (fun k => k = rb ∨ k = tb)) _ (Or.inr rfl) _ _))
            have HNa := Lib.hid hN2
            have EWa := Lib.hid ew
            clear hO hst1 hux hR hb hln ew hpv hN2 eys hlN
            go_upto_region 12 with fail
            rw [EWa.out]
            clear ka fa
            go_wp2_with fail
            refine (dnum_any rb oa wnac HRa.out).mono ?_
            rintro e wnb ⟨hO, yb, ob, hux, rfl, hst1, hR⟩
            have hb := hO.keep (b := tb) (by have := HTB.out.2; omega) HBa.out
            have hln : ysa.length = j * 3 + 1 := HGa.out
            have kb : wnb.cell? ⟨tb, j * 3 + 1, none⟩ = some (.int .u64 0) := by rw [cell_at hb]; exact pasV_at (by omega) (by omega)
            have fb : wnb.frozen? ⟨tb, j * 3 + 1, none⟩ = false := free_at hb
            obtain ⟨wnbc, ew⟩ : ∃ wz, wnb.setCell ⟨tb, j * 3 + 1, none⟩ (.int .u64 yb) = wz := ⟨_, rfl⟩
            have hpv := pasV_num (xs := ysa) (by omega) yb
            rw [hln] at hpv
            have hlN : (ysa ++ [yb]).length = j * 3 + 2 := by rw [List.length_append, hln]; rfl
            obtain ⟨ysb, eys⟩ : ∃ z, ysa ++ [yb] = z := ⟨_, rfl⟩
            have hN2 := HNa.out.next (by omega) hst1
            rw [eys] at hN2 hpv hlN
            have HGb := Lib.hid hlN
            have HBb := Lib.hid (show wnbc.heap[tb]? = some (.cells (pasV ysb []) 62 (0, 0)) by rw [← ew, heap_set hb, hpv])
            have HRb := Lib.hid (show RdD wnbc rb ob by rw [← ew]; exact hR.put (by have := HTB.out.2; omega) _)
            have HTb := Lib.hid (show Off (fun k => k = rb ∨ k = tb) w4 wnbc by rw [← ew]; exact (HTa.out.trans (hO.mono (fun k _ e => Or.inl e))).trans (Off.set (S := (fun k => k = rb ∨ k = tb)) _ (Or.inr rfl) _ _))
            have HNb := Lib.hid hN2
            have EWb := Lib.hid ew
            clear hO hst1 hux hR hb hln ew hpv hN2 eys hlN
            go_upto_region 13 with fail
            rw [EWb.out]
            clear kb fb
            go_wp2_with fail
            refine (dnum_any rb ob wnbc HRb.out).mono ?_
            rintro e wnc ⟨hO, yc, oc, hux, rfl, hst1, hR⟩
            have hb := hO.keep (b := tb) (by have := HTB.out.2; omega) HBb.out
            have hln : ysb.length = j * 3 + 2 := HGb.out
            have kc : wnc.cell? ⟨tb, j * 3 + 2, none⟩ = some (.int .u64 0) := by rw [cell_at hb]; exact pasV_at (by omega) (by omega)
            have fc : wnc.frozen? ⟨tb, j * 3 + 2, none⟩ = false := free_at hb
            obtain ⟨wncc, ew⟩ : ∃ wz, wnc.setCell ⟨tb, j * 3 + 2, none⟩ (.int .u64 yc) = wz := ⟨_, rfl⟩
            have hpv := pasV_num (xs := ysb) (by omega) yc
            rw [hln] at hpv
            have hlN : (ysb ++ [yc]).length = j * 3 + 3 := by rw [List.length_append, hln]; rfl
            obtain ⟨ysc, eys⟩ : ∃ z, ysb ++ [yc] = z := ⟨_, rfl⟩
            have hN2 := HNb.out.next (by omega) hst1
            rw [eys] at hN2 hpv hlN
            have HGc := Lib.hid hlN
            have HBc := Lib.hid (show wncc.heap[tb]? = some (.cells (pasV ysc []) 62 (0, 0)) by rw [← ew, heap_set hb, hpv])
            have HRc := Lib.hid (show RdD wncc rb oc by rw [← ew]; exact hR.put (by have := HTB.out.2; omega) _)
            have HTc := Lib.hid (show Off (fun k => k = rb ∨ k = tb) w4 wncc by rw [← ew]; exact (HTb.out.trans (hO.mono (fun k _ e => Or.inl e))).trans (Off.set (S := (fun k => k = rb ∨ k = tb)) _ (Or.inr rfl) _ _))
            have HNc := Lib.hid hN2
            have EWc := Lib.hid ew
            clear hO hst1 hux hR hb hln ew hpv hN2 eys hlN
            go_upto_region 10 with fail
            rw [EWc.out]
            clear kc fc
            go_wp2_with fail
            go_roundw
            case rel => exact ⟨j + 1, by go_num, by omega, Lib.hid ⟨ysc, oc, by rw [HGc.out]; omega, by rw [show (j + 1) * 3 = j * 3 + 3 by omega]; exact HNc.out, HBc.out, HRc.out⟩, HTc⟩
            case measure => simp [intOf]; omega
          · obtain rfl : j = 3 := by omega
            obtain ⟨wa, rfl⟩ : ∃ wz, wz = wr := ⟨_, rfl⟩
            have H9 := Lib.hid (show ysz.length = 9 from HGz.out)
            have HF := Lib.hid (show Step (fixC 9 numC).par (some r) ysz oz from Loop.fixed HNz.out)
            clear hj'
            rw [show ((3 : Nat) : Int) = 3 from rfl]
            go_wp2_with fail
            go_loopw [10] (fun s10 wr => ∃ j : Nat, s10 = .int .i64 j ∧ j ≤ 3 ∧ Hid (∃ ps ss o5, ps.length = j ∧ Loop proofC oz 3 j ps o5 ∧ PrV wr w4.heap.size ss ps ∧ wr.heap[tb]? = some (.cells (pasV ysz ss) 62 (0, 0)) ∧ RdD wr rb o5) ∧ Hid (Off (fun k => k = rb ∨ k = tb) w4 wr)) (fun s10 _ => 3 - (intOf s10).toNat)
            case atStart => exact ⟨0, rfl, by omega, Lib.hid ⟨[], [], oz, rfl, Loop.start _ _ _, .nil, HBz.out, HRz.out⟩, HTz⟩
            case round =>
              obtain ⟨j, rfl, hj', hI, hT⟩ := hrel
              obtain ⟨ps, ss, o5, hl3, hn9, ho9, hb9, hr9⟩ := hI.out
              have HNp := Lib.hid hn9
              have HOp := Lib.hid ho9
              have HBp := Lib.hid hb9
              have HRp := Lib.hid hr9
              have HL3 := Lib.hid (And.intro hl3 ho9.len)
              have HTp := Lib.hid hT.out
              clear hI hn9 hb9 hr9 ho9 hT hl3
              by_cases hjt : j < 3
              · have hj0 : (0 : Int) ≤ j := by omega
                have hj1 : (j : Int) < 3 := by omega
                obtain ⟨wr, rfl⟩ : ∃ wz, wz = wr := ⟨_, rfl⟩
                go_wp2_with fail
                refine (dproof_any rb o5 wr HRp.out).mono ?_
                rintro e wp ⟨hO, a1, n1, c1, a2, n2, c2, p, o6, ho1, ho2, rfl, hst1, hR⟩
                have hb := hO.keep (b := tb) (by have := HTB.out.2; omega) HBp.out
                have hls : ss.length = j * 2 := by rw [HL3.out.2, HL3.out.1]
                have k1 : wp.cell? ⟨tb, 9 + j * 2, none⟩ = some (.slice none 0 0) := by rw [cell_at hb]; exact pasV_sat H9.out (by omega) (by omega)
                have f1 : wp.frozen? ⟨tb, 9 + j * 2, none⟩ = false := free_at hb
                have k2 : wp.cell? ⟨tb, 9 + j * 2 + 1, none⟩ = some (.slice none 0 0) := by rw [cell_at hb]; exact pasV_sat (i := j * 2 + 1) H9.out (by omega) (by omega)
                have f2 : wp.frozen? ⟨tb, 9 + j * 2 + 1, none⟩ = false := free_at hb
                obtain ⟨wpc, ew⟩ : ∃ wz, (wp.setCell ⟨tb, 9 + j * 2, none⟩ (.slice a1 n1 c1)).setCell ⟨tb, 9 + j * 2 + 1, none⟩ (.slice a2 n2 c2) = wz := ⟨_, rfl⟩
                have hp1 := pasV_sl H9.out (ss := ss) (by omega) (.slice a1 n1 c1)
                rw [hls] at hp1
                have hp2 := pasV_sl H9.out (ss := ss ++ [.slice a1 n1 c1]) (by rw [List.length_append]; simp; omega) (.slice a2 n2 c2)
                rw [List.length_append, hls] at hp2
                have hb1 := heap_set (o := 9 + j * 2) hb (.slice a1 n1 c1)
                have h4z : w4.heap.size ≤ wr.heap.size := HTp.out.size
                have HFIN := Lib.hid (show ∃ ps ss o5, ps.length = j + 1 ∧ Loop proofC oz 3 (j + 1) ps o5 ∧ PrV wpc w4.heap.size ss ps ∧ wpc.heap[tb]? = some (.cells (pasV ysz ss) 62 (0, 0)) ∧ RdD wpc rb o5 from by
                  rw [← ew]
                  refine ⟨_, (ss ++ [.slice a1 n1 c1]) ++ [.slice a2 n2 c2], o6, ?_, HNp.out.next hjt hst1, ?_, ?_, (hR.put (by have := HTB.out.2; omega) _).put (by have := HTB.out.2; omega) _⟩
                  · rw [List.length_append, HL3.out.1]; rfl
                  · have hq : PrV wp w4.heap.size (ss ++ [.slice a1 n1 c1, .slice a2 n2 c2]) (ps ++ [p]) := .snoc (HOp.out.map (fun v xs o => o.off hO (fun b hb e => by have := HTB.out.2; have := ETB.out; have := HS4.out.size; omega))) (ho1.down h4z) (ho2.down h4z)
                    rw [List.append_assoc]
                    exact hq.map (fun v xs o => (o.put hb (by decide)).put hb1 (by decide))
                  · rw [heap_set hb1, hp1, show 9 + j * 2 + 1 = 9 + (j * 2 + 1) by omega]
                    exact congrArg (fun z => some (Obj.cells z 62 (0, 0))) hp2)
                have HTn := Lib.hid (show Off (fun k => k = rb ∨ k = tb) w4 wpc by rw [← ew]; exact ((HTp.out.trans (hO.mono (fun k _ e => Or.inl e))).trans (Off.set (S := (fun k => k = rb ∨ k = tb)) _ (Or.inr rfl) _ _)).trans (Off.set (S := (fun k => k = rb ∨ k = tb)) _ (Or.inr rfl) _ _))
                have EW := Lib.hid ew
                clear hO hst1 hR hb hls ew hp1 hp2 hb1 h4z ho1 ho2
                go_upto_region 16 with fail
                rw [EW.out]
                clear k1 f1 k2 f2
                go_wp2_with fail
                go_roundw
                case rel => exact ⟨j + 1, by go_num, by omega, HFIN, HTn⟩
                case measure => simp [intOf]; omega
              · obtain rfl : j = 3 := by omega
                obtain ⟨wf, rfl⟩ : ∃ wz, wz = wr := ⟨_, rfl⟩
                obtain ⟨p0, m0, d0, p1, m1, d1, p2, m2, d2, p3, m3, d3, p4, m4, d4, p5, m5, d5, q0, q1, q2, rfl, rfl, _⟩ := HOp.out.three HL3.out.1
                obtain ⟨x0, x1, x2, x3, x4, x5, x6, x7, x8, rfl⟩ := nine H9.out
                have HBf := Lib.hid (show wf.heap[tb]? = some (.cells #[.int .u64 x0, .int .u64 x1, .int .u64 x2, .int .u64 x3, .int .u64 x4, .int .u64 x5, .int .u64 x6, .int .u64 x7, .int .u64 x8, .slice p0 m0 d0, .slice p1 m1 d1, .slice p2 m2 d2, .slice p3 m3 d3, .slice p4 m4 d4, .slice p5 m5 d5] 62 (0, 0)) from HBp.out)
                have HDf := Lib.hid (HD4.out.later HTp.out (fun i hi e => e.elim id (fun e => by have := HTB.out.1; omega)))
                have HOf := Lib.hid ((HOW.out.off2 (Off.of_same (S := (fun k => k = rb ∨ k = tb)) HS4.out |>.trans HTp.out) (fun b hb hb2 e => by have := HRB.out; have := ETB.out; rcases e with e | e <;> omega)))
                have HPM := Lib.hid (HLP.out.next hlt (HF.out.pair (show Step (fixC 3 proofC).par oz [q0, q1, q2] o5 from Loop.fixed HNp.out)))
                have hlo4 : wB.heap.size ≤ w4.heap.size := HD4.out.size
                have HPR := Lib.hid (HOp.out.map (fun v xs o => o.down hlo4))
                clear hlo4
                have g0 : wf.cell? ⟨tb, 0, none⟩ = some (.int .u64 x0) := by rw [cell_at HBf.out]; rfl
                have g1 : wf.cell? ⟨tb, 1, none⟩ = some (.int .u64 x1) := by rw [cell_at HBf.out]; rfl
                have g2 : wf.cell? ⟨tb, 2, none⟩ = some (.int .u64 x2) := by rw [cell_at HBf.out]; rfl
                have g3 : wf.cell? ⟨tb, 3, none⟩ = some (.int .u64 x3) := by rw [cell_at HBf.out]; rfl
                have g4 : wf.cell? ⟨tb, 4, none⟩ = some (.int .u64 x4) := by rw [cell_at HBf.out]; rfl
                have g5 : wf.cell? ⟨tb, 5, none⟩ = some (.int .u64 x5) := by rw [cell_at HBf.out]; rfl
                have g6 : wf.cell? ⟨tb, 6, none⟩ = some (.int .u64 x6) := by rw [cell_at HBf.out]; rfl
                have g7 : wf.cell? ⟨tb, 7, none⟩ = some (.int .u64 x7) := by rw [cell_at HBf.out]; rfl
                have g8 : wf.cell? ⟨tb, 8, none⟩ = some (.int .u64 x8) := by rw [cell_at HBf.out]; rfl
                have g9 : wf.cell? ⟨tb, 9, none⟩ = some (.slice p0 m0 d0) := by rw [cell_at HBf.out]; rfl
                have g10 : wf.cell? ⟨tb, 10, none⟩ = some (.slice p1 m1 d1) := by rw [cell_at HBf.out]; rfl
                have g11 : wf.cell? ⟨tb, 11, none⟩ = some (.slice p2 m2 d2) := by rw [cell_at HBf.out]; rfl
                have g12 : wf.cell? ⟨tb, 12, none⟩ = some (.slice p3 m3 d3) := by rw [cell_at HBf.out]; rfl
                have g13 : wf.cell? ⟨tb, 13, none⟩ = some (.slice p4 m4 d4) := by rw [cell_at HBf.out]; rfl
                have g14 : wf.cell? ⟨tb, 14, none⟩ = some (.slice p5 m5 d5) := by rw [cell_at HBf.out]; rfl
                have hS7 : Same wf (wf.alloc (.cells #[.int .u64 x0, .int .u64 x1, .int .u64 x2, .int .u64 x3, .int .u64 x4, .int .u64 x5, .int .u64 x6, .int .u64 x7, .int .u64 x8, .slice p0 m0 d0, .slice p1 m1 d1, .slice p2 m2 d2, .slice p3 m3 d3, .slice p4 m4 d4, .slice p5 m5 d5] 62)) := (Same.refl wf).alloc _
                obtain ⟨v', w8, hr8, ho8, hg8, hrow8⟩ := OwnP.push (HOf.out.off2 (Off.of_same (S := fun _ => False) hS7) (fun _ _ _ e => e)) (by rw [HLX.out]; omega) (Nat.le_trans HDf.out.size hS7.size) (x := ([x0, x1, x2, x3, x4, x5, x6, x7, x8], [q0, q1, q2])) rfl rfl (HPR.out.map (fun v xs o => o.off2 (Off.of_same (S := fun _ => False) hS7) (fun _ _ _ e => e))) 51 (ad := ⟨wf.heap.size, 0, none⟩) (cells_new wf [.int .u64 x0, .int .u64 x1, .int .u64 x2, .int .u64 x3, .int .u64 x4, .int .u64 x5, .int .u64 x6, .int .u64 x7, .int .u64 x8, .slice p0 m0 d0, .slice p1 m1 d1, .slice p2 m2 d2, .slice p3 m3 d3, .slice p4 m4 d4, .slice p5 m5 d5] 62)
                have hR8 : RdD w8 rb o5 := (HRp.out.same hS7).far (hg8.block rb (HRp.out.same hS7).lt (fun e => by have := (hrow8 rb e.symm).1; have := HRB.out; omega))
                have hD8 := (HDf.out.trans (Off.of_same hS7)).grown hg8 (fun k hk => (hrow8 k hk).1)
                have HFIN := Lib.hid (show ∃ ls o2, ls.length = i + 1 ∧ Loop passC o1 n (i + 1) ls o2 ∧ OwnP w8 wB.heap.size v' ls ∧ RdD w8 rb o2 from
                  ⟨_, _, by rw [List.length_append, HLX.out]; rfl, HPM.out, ho8, hR8⟩)
                have HD9 := Lib.hid hD8
                clear hR8 hD8 ho8 hg8 hrow8 hS7
                go_wp2_with (first
                  | (at_builtin; refine wpList_append_run rfl _ _ _ rfl _ rfl _ rfl hr8 ?_))
                go_roundw
                case rel => exact ⟨i + 1, by go_num, by omega, HFIN, HD9⟩
                case measure => simp [intOf]; omega
      case false =>
        have hex : o2 = none ∨ i = n := by
          have h := HC.out
          cases o2 with
          | none => exact Or.inl rfl
          | some r => simp at h; exact Or.inr (by omega)
        have HT := Lib.hid (show Step passlC.par (beg 3 l) ls o2 by rw [EO0.out]; exact Loop.listed HST.out HLP.out hex)
        obtain ⟨wa, rfl⟩ : ∃ wz, wz = wr := ⟨_, rfl⟩
        have HSF := Lib.hid (show Same w wa from Same.of_off (S := (· = rb)) ((Off.of_same HSB.out).trans hD.out) (fun k hk e => by have := ERB.out; omega))
        have HOF := Lib.hid (show OwnP wa w.heap.size (.slice va vn vc) ls from HOW.out.down (by have := HRB.out; have := ERB.out; omega))
        clear hex HLP HLX hi' hi0 hD HC HOW
        go_wp2_with fail
        refine (dend_any rb o2 wa HRR.out).mono ?_
        rintro e w7 ⟨rfl, e7⟩
        rw [e7]
        obtain ⟨q, eq⟩ : ∃ q, isEnd o2 = q := ⟨_, rfl⟩
        rw [eq]
        cases q
        · have HN := Lib.hid (rd_no HT.out eq)
          clear e7 eq
          go_wp2_with fail
          go_ret2
          exact ⟨HSF.out, Or.inr ⟨HN.out, rfl⟩⟩
        · have HY := Lib.hid (rd_yes HT.out eq)
          clear e7 eq
          go_wp2_with fail
          go_ret2
          exact ⟨HSF.out, Or.inl ⟨ls, va, vn, vc, HY.out, rfl, HOF.out⟩⟩
end Go.Proofs.Ytdbhcdhenapfoaa
