/- Layer 10: the document's ReadMixing. -/
import Derived.Test.YtdbhcdhenapfoaaDocL
import Derived.Deep.RegionHeld3
import Derived.Deep.DeepCutAuto
set_option linter.unusedVariables false
set_option linter.unusedSimpArgs false
namespace Go.Proofs.Ytdbhcdhenapfoaa
open Go.RowKit Go.Maps
theorem OwnB.puts {base b : Nat} {v : Value} {bs : List (List Int)} {t : TypeId} {f : Nat × Nat} (ht : t ≠ 37) : ∀ (vs : List Value) (o : Nat) (w : World) (cur : Array Value), OwnB w base v bs → w.heap[b]? = some (.cells cur t f) → OwnB (w.setCells b o vs) base v bs
  | [], _, _, _, h, _ => h
  | u :: r, o, w, cur, h, hb => OwnB.puts ht r (o + 1) _ _ (h.put hb ht) (heap_set hb u)
theorem MixO.puts {lo b : Nat} {v0 v1 v2 v3 v4 v5 v6 : Value} {ls : List LetterD} {bs : List (List Int)} {xa xo xp pc pa : List Int} {f : Nat × Nat} : ∀ (vs : List Value) (o : Nat) (w : World) (cur : Array Value), MixO w lo v0 v1 v2 v3 v4 v5 v6 ls bs xa xo xp pc pa → w.heap[b]? = some (.cells cur 30 f) → MixO (w.setCells b o vs) lo v0 v1 v2 v3 v4 v5 v6 ls bs xa xo xp pc pa
  | [], _, _, _, h, _ => h
  | u :: r, o, w, cur, h, hb => MixO.puts r (o + 1) _ _ (h.put hb) (heap_set hb u)
set_option maxRecDepth 20000 in
set_option maxHeartbeats 6400000 in
theorem dMixing_any (l : Bs) (hl : l.length ≤ 1000000000) (w : World) :
    Calls Try.prog 24 #[.string (ofL l)] w fun z w' =>
      Same w w' ∧ ((∃ x a0 n0 c0 a1 n1 c1 a2 n2 c2 a3 n3 c3 a4 n4 c4 a5 n5 c5 a6 n6 c6, rd 2 mixC l = some x ∧ z = .returned (.tuple #[.agg #[.slice a0 n0 c0, .slice a1 n1 c1, .slice a2 n2 c2, .slice a3 n3 c3, .slice a4 n4 c4, .slice a5 n5 c5, .slice a6 n6 c6], .bool true]) ∧ MixO w' w.heap.size (.slice a0 n0 c0) (.slice a1 n1 c1) (.slice a2 n2 c2) (.slice a3 n3 c3) (.slice a4 n4 c4) (.slice a5 n5 c5) (.slice a6 n6 c6) x.1 x.2.1 x.2.2.1 x.2.2.2.1 x.2.2.2.2.1 x.2.2.2.2.2.1 x.2.2.2.2.2.2) ∨
        (rd 2 mixC l = none ∧ z = .returned (.tuple #[.agg #[.slice none 0 0, .slice none 0 0, .slice none 0 0, .slice none 0 0, .slice none 0 0, .slice none 0 0, .slice none 0 0], .bool false]))) := by
  obtain ⟨b2, eb2⟩ : ∃ b2, w.heap.size = b2 := ⟨_, rfl⟩
  obtain ⟨w0, ew0⟩ : ∃ w0, w.alloc (.cells #[.slice none 0 0, .slice none 0 0, .slice none 0 0, .slice none 0 0, .slice none 0 0, .slice none 0 0, .slice none 0 0] 30) = w0 := ⟨_, rfl⟩
  have hS0 : Same w w0 := by rw [← ew0]; exact (Same.refl w).alloc _
  have hz0 : w0.heap.size = b2 + 1 := by rw [← ew0, ← eb2]; simp
  have HB2 := Lib.hid (show w0.heap[b2]? = some (.cells #[.slice none 0 0, .slice none 0 0, .slice none 0 0, .slice none 0 0, .slice none 0 0, .slice none 0 0, .slice none 0 0] 30 (0, 0)) by rw [← ew0, ← eb2]; exact heap_new _ _)
  have HO0 := Lib.hid hS0
  have EW0 := Lib.hid ew0
  have EB2 := Lib.hid eb2
  obtain ⟨rb, erb⟩ : ∃ rb, b2 + 1 = rb := ⟨_, rfl⟩
  obtain ⟨xb, exb⟩ : ∃ xb, b2 + 2 = xb := ⟨_, rfl⟩
  rw [erb] at hz0
  have HZ0 := Lib.hid hz0
  have HE := Lib.hid (And.intro erb exb)
  clear hS0 ew0 eb2 hz0 erb exb
  go_enter Try.func24, Try.ntmps24
  go_upto_region 1 with fail
  rw [EW0.out, EB2.out]
  go_wp2_with fail
  refine (dbegin_any l hl 2 2 rfl w0).mono ?_
  rintro e w1 ⟨hs1, hz1, rfl, hr1⟩
  rw [HZ0.out] at hz1 hr1 ⊢
  obtain ⟨o0, eo0⟩ : ∃ o0, beg 2 l = o0 := ⟨_, rfl⟩
  rw [eo0] at hr1
  have EO0 := Lib.hid eo0
  have HZ1 := Lib.hid (show w1.heap.size = xb by have h1 := HE.out.1; have h2 := HE.out.2; omega)
  obtain ⟨wB, ewB⟩ : ∃ wB, w1.alloc (.cells #[.slice none 0 0, .slice none 0 0, .slice none 0 0, .slice none 0 0, .slice none 0 0, .slice none 0 0, .slice none 0 0] 30) = wB := ⟨_, rfl⟩
  have hS2 : Same w1 wB := by rw [← ewB]; exact (Same.refl w1).alloc _
  have HBB := Lib.hid (hS2.keep (hs1.keep HB2.out))
  have HXB := Lib.hid (show ZMix xb wB by rw [← ewB, ← HZ1.out]; exact heap_new _ _)
  have HRR0 := Lib.hid (hr1.same hS2)
  have HSB := Lib.hid (show Same w wB from HO0.out.trans (hs1.trans hS2))
  have HRB := Lib.hid (show rb < wB.heap.size ∧ xb < wB.heap.size ∧ rb ≠ xb ∧ b2 < wB.heap.size ∧ b2 ≠ rb ∧ b2 ≠ xb ∧ b2 ≤ wB.heap.size by
    have h1 := HE.out.1
    have h2 := HE.out.2
    have h3 : wB.heap.size = w1.heap.size + 1 := by rw [← ewB]; simp
    have h4 := HZ1.out
    omega)
  have EWB := Lib.hid ewB
  clear hs1 hz1 hr1 hS2 ewB eo0
  go_upto_region 3 with fail
  rw [EWB.out, HZ1.out]
  go_wp2_with fail
  refine (dcount_any rb 8 (by omega) o0 wB HRR0.out).mono ?_
  rintro e w3 ⟨hO3, n, o1, hn, rfl, hst, hR3⟩
  have HST := Lib.hid hst
  have HR3 := Lib.hid hR3
  have HX3 := Lib.hid (hO3.keep (b := xb) (by have := HRB.out; omega) HXB.out)
  have HD3 := Lib.hid (hO3.mono (T := (fun k => k = rb ∨ k = xb)) (fun k _ e => Or.inl e))
  have hn0 : (0 : Int) ≤ n := by omega
  clear hst hR3 hO3
  go_wp2_with fail
  go_loopw [7] (fun s7 wr => ∃ i : Nat, s7 = .int .i64 i ∧ i ≤ n ∧ Hid (∃ ls o2 v, ls.length = i ∧ Loop letterC o1 n i ls o2 ∧ MixO wr wB.heap.size v (.slice none 0 0) (.slice none 0 0) (.slice none 0 0) (.slice none 0 0) (.slice none 0 0) (.slice none 0 0) ls [] [] [] [] [] [] ∧ RdD wr rb o2 ∧ MxAt wr xb v (.slice none 0 0) (.slice none 0 0) (.slice none 0 0) (.slice none 0 0) (.slice none 0 0) (.slice none 0 0)) ∧ Hid (Off (fun k => k = rb ∨ k = xb) wB wr)) (fun s7 _ => n - (intOf s7).toNat)
  case atStart => exact ⟨0, rfl, by omega, Lib.hid ⟨[], o1, _, rfl, Loop.start _ _ _, MixO.nil _ _, HR3.out, HX3.out⟩, HD3⟩
  case round =>
    obtain ⟨i, rfl, hi', hI, hD⟩ := hrel
    obtain ⟨ls, o2, v, hlen, hlp, hown, hR, hM⟩ := hI.out
    obtain ⟨va, vn, vc, rfl⟩ := hown.o0.form
    have HLX := Lib.hid hlen
    have HLP := Lib.hid hlp
    have HOW := Lib.hid hown
    have HRR := Lib.hid hR
    have HMX := Lib.hid hM
    clear hI hlen hlp hown hR hM
    obtain ⟨c, hc⟩ : ∃ c : Bool, c = (decide (i < n) && !(o2).isNone) := ⟨_, rfl⟩
    have HC := Lib.hid hc
    have hi0 : (0 : Int) ≤ i := by omega
    clear hc
    go_upto_region 5 with fail
    go_cut [24] (fun s24 wx => s24 = .bool c ∧ wr = wx)
    case first =>
      cases o2 with
      | none =>
        have k1 := HRR.out.bad_cell
        have HV := Lib.hid (show c = false by rw [HC.out]; simp)
        by_cases hlt : i < n
        · have hi1 : (i : Int) < n := by omega
          go_wp2_with fail
          go_meet
          exact ⟨by rw [HV.out], rfl⟩
        · have hi1 : decide ((i : Int) < n) = false := decide_eq_false (by omega)
          go_wp2_with fail
          go_meet
          exact ⟨by rw [HV.out], rfl⟩
      | some r =>
        have k1 := HRR.out.good_cell
        by_cases hlt : i < n
        · have hi1 : (i : Int) < n := by omega
          have HV := Lib.hid (show c = true by rw [HC.out]; simp [hlt])
          go_wp2_with fail
          go_meet
          exact ⟨by rw [HV.out], rfl⟩
        · have hi1 : decide ((i : Int) < n) = false := decide_eq_false (by omega)
          have HV := Lib.hid (show c = false by rw [HC.out]; simp [hlt])
          go_wp2_with fail
          go_meet
          exact ⟨by rw [HV.out], rfl⟩
    case rest =>
      obtain ⟨eS, eW⟩ := hcut
      subst eS eW
      cases c
      case true =>
        have hlt : i < n := by have h := HC.out; simp at h; exact h.1
        obtain ⟨r, rfl⟩ : ∃ r, o2 = some r := by
          cases o2 with
          | none => have h := HC.out; simp at h
          | some r => exact ⟨r, rfl⟩
        obtain ⟨w4, ew4⟩ : ∃ w4, wr.alloc (.cells #[.int .u64 0, .int .u64 0, .int .u64 0, .int .u64 0, .int .u64 0, .int .u64 0, .slice none 0 0, .slice none 0 0] 39) = w4 := ⟨_, rfl⟩
        obtain ⟨b3, eb3⟩ : ∃ b3, wr.heap.size = b3 := ⟨_, rfl⟩
        have hS4 : Same wr w4 := by rw [← ew4]; exact (Same.refl wr).alloc _
        have HLT := Lib.hid (show wB.heap.size ≤ b3 by rw [← eb3]; exact hD.out.size)
        have HX4 := Lib.hid (show ZLet b3 w4 by rw [← ew4, ← eb3]; exact heap_new _ _)
        have HR4 := Lib.hid (HRR.out.same hS4)
        have HS4 := Lib.hid hS4
        have EW4 := Lib.hid ew4
        have EB3 := Lib.hid eb3
        clear hS4 ew4 eb3
        go_upto_region 8 with fail
        rw [EW4.out, EB3.out]
        go_wp2_with fail
        refine (dbox_any rb (some r) w4 HR4.out).mono ?_
        rintro e w5 ⟨hO5, x0, x1, x2, x3, x4, x5, o3, rfl, hst, hR5⟩
        have hx5 := hO5.keep (b := b3) (by have := HRB.out.1; have := HLT.out; omega) HX4.out
        have g0 : w5.cell? ⟨b3, 0, none⟩ = some (.int .u64 0) := by rw [cell_at hx5]; rfl
        have f0 : w5.frozen? ⟨b3, 0, none⟩ = false := free_at hx5
        have g1 : w5.cell? ⟨b3, 1, none⟩ = some (.int .u64 0) := by rw [cell_at hx5]; rfl
        have f1 : w5.frozen? ⟨b3, 1, none⟩ = false := free_at hx5
        have g2 : w5.cell? ⟨b3, 2, none⟩ = some (.int .u64 0) := by rw [cell_at hx5]; rfl
        have f2 : w5.frozen? ⟨b3, 2, none⟩ = false := free_at hx5
        have g3 : w5.cell? ⟨b3, 3, none⟩ = some (.int .u64 0) := by rw [cell_at hx5]; rfl
        have f3 : w5.frozen? ⟨b3, 3, none⟩ = false := free_at hx5
        have g4 : w5.cell? ⟨b3, 4, none⟩ = some (.int .u64 0) := by rw [cell_at hx5]; rfl
        have f4 : w5.frozen? ⟨b3, 4, none⟩ = false := free_at hx5
        have g5 : w5.cell? ⟨b3, 5, none⟩ = some (.int .u64 0) := by rw [cell_at hx5]; rfl
        have f5 : w5.frozen? ⟨b3, 5, none⟩ = false := free_at hx5
        obtain ⟨w6, ew6⟩ : ∃ w6, w5.setCells b3 0 [.int .u64 x0, .int .u64 x1, .int .u64 x2, .int .u64 x3, .int .u64 x4, .int .u64 x5] = w6 := ⟨_, rfl⟩
        have hx6 := heap_sets [.int .u64 x0, .int .u64 x1, .int .u64 x2, .int .u64 x3, .int .u64 x4, .int .u64 x5] 0 w5 _ hx5
        rw [ew6] at hx6
        have HX6 := Lib.hid (show w6.heap[b3]? = some (.cells #[.int .u64 x0, .int .u64 x1, .int .u64 x2, .int .u64 x3, .int .u64 x4, .int .u64 x5, .slice none 0 0, .slice none 0 0] 39 (0, 0)) from hx6)
        have HR6 := Lib.hid (show RdD w6 rb o3 by rw [← ew6]; exact hR5.sets (by have := HRB.out.1; have := HLT.out; omega) _ _)
        have HO6 := Lib.hid (show Off (fun k => k = rb ∨ k = b3) wr w6 by rw [← ew6]; exact Off.setsS (S := fun k => k = rb ∨ k = b3) (b := b3) ((Off.of_same HS4.out).trans (hO5.mono (fun k _ e => Or.inl e))) (Or.inr rfl) _ _)
        have HST1 := Lib.hid hst
        have EW6 := Lib.hid (show ((((((w5.setCell ⟨b3, 0, none⟩ (.int .u64 x0)).setCell ⟨b3, 1, none⟩ (.int .u64 x1)).setCell ⟨b3, 2, none⟩ (.int .u64 x2)).setCell ⟨b3, 3, none⟩ (.int .u64 x3)).setCell ⟨b3, 4, none⟩ (.int .u64 x4)).setCell ⟨b3, 5, none⟩ (.int .u64 x5)) = w6 from ew6)
        clear hO5 hst hR5 hx5 hx6 ew6
        go_upto_region 9 with fail
        rw [EW6.out]
        clear g0 g1 g2 g3 g4 g5 f0 f1 f2 f3 f4 f5
        go_wp2_with fail
        refine (dproof_any rb o3 w6 HR6.out).mono ?_
        rintro e w7 ⟨hO7, a1, n1, c1, a2, n2, c2, p, o4, hv1, hv2, rfl, hst2, hR7⟩
        have hx7 := hO7.keep (b := b3) (by have := HRB.out.1; have := HLT.out; omega) HX6.out
        have g6 : w7.cell? ⟨b3, 6, none⟩ = some (.slice none 0 0) := by rw [cell_at hx7]; rfl
        have f6 : w7.frozen? ⟨b3, 6, none⟩ = false := free_at hx7
        have g7 : w7.cell? ⟨b3, 7, none⟩ = some (.slice none 0 0) := by rw [cell_at hx7]; rfl
        have f7 : w7.frozen? ⟨b3, 7, none⟩ = false := free_at hx7
        obtain ⟨w8, ew8⟩ : ∃ w8, w7.setCells b3 6 [.slice a1 n1 c1, .slice a2 n2 c2] = w8 := ⟨_, rfl⟩
        have hx8 := heap_sets [.slice a1 n1 c1, .slice a2 n2 c2] 6 w7 _ hx7
        rw [ew8] at hx8
        have HX8 := Lib.hid (show w8.heap[b3]? = some (.cells #[.int .u64 x0, .int .u64 x1, .int .u64 x2, .int .u64 x3, .int .u64 x4, .int .u64 x5, .slice a1 n1 c1, .slice a2 n2 c2] 39 (0, 0)) from hx8)
        have HR8 := Lib.hid (show RdD w8 rb o4 by rw [← ew8]; exact hR7.sets (by have := HRB.out.1; have := HLT.out; omega) _ _)
        have hO8 : Off (fun k => k = rb ∨ k = b3) wr w8 := by rw [← ew8]; exact Off.setsS (S := fun k => k = rb ∨ k = b3) (b := b3) (HO6.out.trans (hO7.mono (fun k _ e => Or.inl e))) (Or.inr rfl) _ _
        have hw6 : wB.heap.size ≤ w6.heap.size := Nat.le_trans hD.out.size HO6.out.size
        have HP1 := Lib.hid (show OwnI w8 wB.heap.size (.slice a1 n1 c1) p.1 by rw [← ew8]; exact (hv1.puts (by decide) _ _ _ _ hx7).down hw6)
        have HP2 := Lib.hid (show OwnI w8 wB.heap.size (.slice a2 n2 c2) p.2 by rw [← ew8]; exact (hv2.puts (by decide) _ _ _ _ hx7).down hw6)
        have HD8 := Lib.hid (hD.out.later hO8 (fun i hi e => e.elim Or.inl (fun e => by have := HLT.out; omega)))
        have HOW8 := Lib.hid (HOW.out.off2 hO8 (fun b hb hb2 e => by have := HRB.out.1; have := EB3.out; rcases e with e | e <;> omega))
        have HM8 := Lib.hid (hO8.keep (b := xb) (fun e => by have := HRB.out; have := HLT.out; rcases e with e | e <;> omega) HMX.out)
        have HLP8 := Lib.hid (HLP.out.next hlt (HST1.out.pair hst2))
        have EW8 := Lib.hid (show ((w7.setCell ⟨b3, 6, none⟩ (.slice a1 n1 c1)).setCell ⟨b3, 7, none⟩ (.slice a2 n2 c2)) = w8 from ew8)
        clear hO7 hst2 hR7 hx7 hx8 ew8 hv1 hv2 hw6 hO8
        go_upto_region 10 with fail
        rw [EW8.out]
        clear g6 g7 f6 f7
        have hS9 : Same w8 (w8.alloc (.cells #[.int .u64 x0, .int .u64 x1, .int .u64 x2, .int .u64 x3, .int .u64 x4, .int .u64 x5, .slice a1 n1 c1, .slice a2 n2 c2] 39)) := (Same.refl w8).alloc _
        obtain ⟨v', wf, hrf, hof, hgf, hrowf⟩ := OwnL.push (HOW8.out.o0.off2 (Off.of_same (S := fun _ => False) hS9) (fun _ _ _ e => e)) (by rw [HLX.out]; omega) (Nat.le_trans HD8.out.size hS9.size) (x := ([x0, x1, x2, x3, x4, x5], p)) rfl (HP1.out.off2 (Off.of_same (S := fun _ => False) hS9) (fun _ _ _ e => e)) (HP2.out.off2 (Off.of_same (S := fun _ => False) hS9) (fun _ _ _ e => e)) 22 (ad := ⟨w8.heap.size, 0, none⟩) (cells_new w8 [.int .u64 x0, .int .u64 x1, .int .u64 x2, .int .u64 x3, .int .u64 x4, .int .u64 x5, .slice a1 n1 c1, .slice a2 n2 c2] 39)
        obtain ⟨va8, vn8, vc8, rfl⟩ := hof.form
        have hMf := grown_keep hgf (hS9.keep HM8.out) (fun k hk => by have := (hrowf k hk).1; have := HRB.out; omega)
        have hRf : RdD wf rb o4 := (HR8.out.same hS9).far (hgf.block rb (HR8.out.same hS9).lt (fun e => by have := (hrowf rb e.symm).1; have := HRB.out; omega))
        have hDf := (HD8.out.trans (Off.of_same hS9)).grown hgf (fun k hk => (hrowf k hk).1)
        have HFIN := Lib.hid (show ∃ ls o2 v, ls.length = i + 1 ∧ Loop letterC o1 n (i + 1) ls o2 ∧ MixO (wf.setCell ⟨xb, 0, none⟩ (.slice va8 vn8 vc8)) wB.heap.size v (.slice none 0 0) (.slice none 0 0) (.slice none 0 0) (.slice none 0 0) (.slice none 0 0) (.slice none 0 0) ls [] [] [] [] [] [] ∧ RdD (wf.setCell ⟨xb, 0, none⟩ (.slice va8 vn8 vc8)) rb o2 ∧ MxAt (wf.setCell ⟨xb, 0, none⟩ (.slice va8 vn8 vc8)) xb v (.slice none 0 0) (.slice none 0 0) (.slice none 0 0) (.slice none 0 0) (.slice none 0 0) (.slice none 0 0) from
          ⟨_, _, _, by rw [List.length_append, HLX.out]; rfl, HLP8.out, MixO.put ⟨hof, OwnB.nil _ _, OwnI.nil _ _, OwnI.nil _ _, OwnI.nil _ _, OwnI.nil _ _, OwnI.nil _ _⟩ hMf, hRf.put HRB.out.2.2.1 _, heap_set hMf _⟩)
        have HD9 := Lib.hid (hDf.trans (Off.set (S := (fun k => k = rb ∨ k = xb)) _ (Or.inr rfl) 0 (.slice va8 vn8 vc8)))
        have c8 : wf.cell? ⟨xb, 0, none⟩ = some (.slice va vn vc) := by rw [cell_at hMf]; rfl
        have f8 : wf.frozen? ⟨xb, 0, none⟩ = false := free_at hMf
        have c6 : w8.cell? ⟨xb, 0, none⟩ = some (.slice va vn vc) := by rw [cell_at HM8.out]; rfl
        have g0 : w8.cell? ⟨b3, 0, none⟩ = some (.int .u64 x0) := by rw [cell_at HX8.out]; rfl
        have g1 : w8.cell? ⟨b3, 1, none⟩ = some (.int .u64 x1) := by rw [cell_at HX8.out]; rfl
        have g2 : w8.cell? ⟨b3, 2, none⟩ = some (.int .u64 x2) := by rw [cell_at HX8.out]; rfl
        have g3 : w8.cell? ⟨b3, 3, none⟩ = some (.int .u64 x3) := by rw [cell_at HX8.out]; rfl
        have g4 : w8.cell? ⟨b3, 4, none⟩ = some (.int .u64 x4) := by rw [cell_at HX8.out]; rfl
        have g5 : w8.cell? ⟨b3, 5, none⟩ = some (.int .u64 x5) := by rw [cell_at HX8.out]; rfl
        have g6 : w8.cell? ⟨b3, 6, none⟩ = some (.slice a1 n1 c1) := by rw [cell_at HX8.out]; rfl
        have g7 : w8.cell? ⟨b3, 7, none⟩ = some (.slice a2 n2 c2) := by rw [cell_at HX8.out]; rfl
        clear hMf hRf hDf hof hgf hrowf hS9
        go_wp2_with (first
          | (at_builtin; refine wpList_append_run rfl _ _ _ rfl _ rfl _ rfl hrf ?_))
        go_roundw
        case rel => exact ⟨i + 1, by go_num, by omega, HFIN, HD9⟩
        case measure => simp [intOf]; omega
      case false =>
        have hex : o2 = none ∨ i = n := by
          have h := HC.out
          cases o2 with
          | none => exact Or.inl rfl
          | some r => simp at h; exact Or.inr (by omega)
        have HL := Lib.hid (Loop.listed HST.out HLP.out hex)
        obtain ⟨wa, rfl⟩ : ∃ wz, wz = wr := ⟨_, rfl⟩
        clear hex HLP HLX hi' hi0
        go_wp2_with fail
        refine (dcount_any rb 8 (by omega) o2 wa HRR.out).mono ?_
        rintro e w2 ⟨hO2, nb, o4, hnb, rfl, hst4, hR2⟩
        have HST4 := Lib.hid hst4
        have HR2 := Lib.hid hR2
        have HD2 := Lib.hid (hD.out.trans (hO2.mono (T := (fun k => k = rb ∨ k = xb)) (fun k _ e => Or.inl e)))
        have HM2 := Lib.hid (hO2.keep (b := xb) (by have := HRB.out; omega) HMX.out)
        have HO2 := Lib.hid (HOW.out.off2 hO2 (fun b hb _ e => by have := HRB.out.1; omega))
        have hm0 : (0 : Int) ≤ nb := by omega
        clear hst4 hO2 hR2 HRR HMX HOW hD HC
        go_wp2_with fail
        go_loopw [9] (fun s9 wr => ∃ i : Nat, s9 = .int .i64 i ∧ i ≤ nb ∧ Hid (∃ bs o5 v, bs.length = i ∧ Loop boxC o4 nb i bs o5 ∧ MixO wr wB.heap.size (.slice va vn vc) v (.slice none 0 0) (.slice none 0 0) (.slice none 0 0) (.slice none 0 0) (.slice none 0 0) ls bs [] [] [] [] [] ∧ RdD wr rb o5 ∧ MxAt wr xb (.slice va vn vc) v (.slice none 0 0) (.slice none 0 0) (.slice none 0 0) (.slice none 0 0) (.slice none 0 0)) ∧ Hid (Off (fun k => k = rb ∨ k = xb) wB wr)) (fun s9 _ => nb - (intOf s9).toNat)
        case atStart => exact ⟨0, rfl, by omega, Lib.hid ⟨[], o4, _, rfl, Loop.start _ _ _, HO2.out, HR2.out, HM2.out⟩, HD2⟩
        case round =>
          obtain ⟨i, rfl, hi', hI, hD⟩ := hrel
          obtain ⟨bs, o5, v, hlen, hlp, hown, hR, hM⟩ := hI.out
          obtain ⟨vb, vm, vd, rfl⟩ := hown.o1.form
          have HLX := Lib.hid hlen
          have HLP := Lib.hid hlp
          have HOW := Lib.hid hown
          have HRR := Lib.hid hR
          have HMX := Lib.hid hM
          clear hI hlen hlp hown hR hM
          obtain ⟨c, hc⟩ : ∃ c : Bool, c = (decide (i < nb) && !(o5).isNone) := ⟨_, rfl⟩
          have HC := Lib.hid hc
          have hi0 : (0 : Int) ≤ i := by omega
          clear hc
          go_upto_region 13 with fail
          go_cut [51] (fun s51 wx => s51 = .bool c ∧ wr = wx)
          case first =>
            cases o5 with
            | none =>
              have k1 := HRR.out.bad_cell
              have HV := Lib.hid (show c = false by rw [HC.out]; simp)
              by_cases hlt : i < nb
              · have hi1 : (i : Int) < nb := by omega
                go_wp2_with fail
                go_meet
                exact ⟨by rw [HV.out], rfl⟩
              · have hi1 : decide ((i : Int) < nb) = false := decide_eq_false (by omega)
                go_wp2_with fail
                go_meet
                exact ⟨by rw [HV.out], rfl⟩
            | some r =>
              have k1 := HRR.out.good_cell
              by_cases hlt : i < nb
              · have hi1 : (i : Int) < nb := by omega
                have HV := Lib.hid (show c = true by rw [HC.out]; simp [hlt])
                go_wp2_with fail
                go_meet
                exact ⟨by rw [HV.out], rfl⟩
              · have hi1 : decide ((i : Int) < nb) = false := decide_eq_false (by omega)
                have HV := Lib.hid (show c = false by rw [HC.out]; simp [hlt])
                go_wp2_with fail
                go_meet
                exact ⟨by rw [HV.out], rfl⟩
          case rest =>
            obtain ⟨eS, eW⟩ := hcut
            subst eS eW
            cases c
            case true =>
              have hlt : i < nb := by have h := HC.out; simp at h; exact h.1
              obtain ⟨r, rfl⟩ : ∃ r, o5 = some r := by
                cases o5 with
                | none => have h := HC.out; simp at h
                | some r => exact ⟨r, rfl⟩
              obtain ⟨wd, ewd⟩ : ∃ wd, wr.drew = wd := ⟨_, rfl⟩
              have hSd : Same wr wd := by rw [← ewd]; exact drew_same _
              have HMD := Lib.hid (hSd.keep HMX.out)
              have HRD := Lib.hid (HRR.out.same hSd)
              have HDD := Lib.hid (hD.out.trans (Off.of_same hSd))
              have HOWD := Lib.hid (HOW.out.off2 (Off.of_same (S := fun _ => False) hSd) (fun _ _ _ e => e))
              have EWD := Lib.hid ewd
              clear ewd hSd
              go_upto_region 15 with fail
              refine wp_region_held_drew (S := fun _ => True) (by kernel_rfl) trivial (fun hHeld => ?_)
              rw [EWD.out]
              refine wpAnyH_take (i := 0) (v := ?_) rfl (by kernel_rfl) (by kernel_rfl) (by kernel_rfl) (fun _ _ _ h => h) (Or.inl ⟨by rfl, ?_⟩) trivial ?_
              rotate_left
              · intro w hSw; (try dsimp only at hSw); go_simp; try with_reducible rfl
              try simp only [Act.put, List.getElem_toArray, List.getElem_cons_succ, List.getElem_cons_zero, List.setIfInBounds_toArray, List.set_cons_zero, List.set_cons_succ]
              refine wpAnyH_take (i := 2) (v := ?_) rfl (by kernel_rfl) (by kernel_rfl) (by kernel_rfl) (fun _ _ _ h => h) (Or.inl ⟨by rfl, ?_⟩) trivial ?_
              rotate_left
              · intro w hSw; (try dsimp only at hSw); go_simp; try with_reducible rfl
              try simp only [Act.put, List.getElem_toArray, List.getElem_cons_succ, List.getElem_cons_zero, List.setIfInBounds_toArray, List.set_cons_zero, List.set_cons_succ]
              refine wpAnyH_ready (rs := [1, 3]) (by kernel_rfl) (by simp) ?_
              refine AllReadyH.cons rfl (fun K hK => ?_) (AllReadyH.cons rfl (fun K hK => ?_) AllReadyH.nil)
              · have cl : wd.cell? ⟨xb, 1, none⟩ = some (.slice vb vm vd) := by rw [cell_at HMD.out]; rfl
                go_simp
                clear cl
                refine hK.out _ _ ?_ (fun hHeld => ?_)
                · exact trivial
                clear hK K
                try simp only [Act.put, List.getElem_toArray, List.getElem_cons_succ, List.getElem_cons_zero, List.setIfInBounds_toArray, List.set_cons_zero, List.set_cons_succ]
                refine wpAnyH_ready (rs := [3]) (by kernel_rfl) (by simp) ?_
                refine AllReadyH.cons rfl (fun K hK => ?_) AllReadyH.nil
                go_simp
                refine (dbox_any rb (some r) wd HRD.out).mono ?_
                rintro e w3 ⟨hO3, x0, x1, x2, x3, x4, x5, o6, rfl, hst6, hR3⟩
                have HPM := Lib.hid (HLP.out.next hlt hst6)
                have HR3 := Lib.hid hR3
                have HM3 := Lib.hid (hO3.keep (b := xb) (by have := HRB.out; omega) HMD.out)
                have HD3 := Lib.hid (HDD.out.trans (hO3.mono (T := (fun k => k = rb ∨ k = xb)) (fun k _ e => Or.inl e)))
                have HOW3 := Lib.hid (HOWD.out.off2 hO3 (fun b hb _ e => by have := HRB.out.1; omega))
                clear hst6 hR3 hO3
                go_wp2_with fail
                refine hK.out _ _ ?_ (fun hHeld => ?_)
                · exact trivial
                clear hK K
                try simp only [Act.put, List.getElem_toArray, List.getElem_cons_succ, List.getElem_cons_zero, List.setIfInBounds_toArray, List.set_cons_zero, List.set_cons_succ]
                refine wpAnyH_ready (rs := [4]) (by kernel_rfl) (by simp) ?_
                refine AllReadyH.cons rfl (fun K hK => ?_) AllReadyH.nil
                go_simp
                refine hK.out _ _ ?_ (fun hHeld => ?_)
                · exact trivial
                clear hK K
                try simp only [Act.put, List.getElem_toArray, List.getElem_cons_succ, List.getElem_cons_zero, List.setIfInBounds_toArray, List.set_cons_zero, List.set_cons_succ]
                refine wpAnyH_ready (rs := [5]) (by kernel_rfl) (by simp) ?_
                refine AllReadyH.cons rfl (fun K hK => ?_) AllReadyH.nil
                have hS7 : Same w3 (w3.alloc (.cells #[.int .u64 x0, .int .u64 x1, .int .u64 x2, .int .u64 x3, .int .u64 x4, .int .u64 x5] 37)) := (Same.refl w3).alloc _
                have HO7 := Lib.hid (HOW3.out.off2 (Off.of_same (S := fun _ => False) hS7) (fun _ _ _ e => e))
                obtain ⟨v', w8, hr8, ho8, hg8, hrow8⟩ := OwnB.push HO7.out.o1 (by rw [HLX.out]; omega) (Nat.le_trans HD3.out.size hS7.size) (b := [x0, x1, x2, x3, x4, x5]) rfl 23 (ad := ⟨w3.heap.size, 0, none⟩) (cells_new w3 [.int .u64 x0, .int .u64 x1, .int .u64 x2, .int .u64 x3, .int .u64 x4, .int .u64 x5] 37)
                obtain ⟨va8, vn8, vc8, rfl⟩ := ho8.form
                have hM8 := grown_keep hg8 (hS7.keep HM3.out) (fun k hk => by have := (hrow8 k hk).1; have := HRB.out; omega)
                have hR8 : RdD w8 rb o6 := (HR3.out.same hS7).far (hg8.block rb (HR3.out.same hS7).lt (fun e => by have := (hrow8 rb e.symm).1; have := HRB.out; omega))
                have hD8 := (HD3.out.trans (Off.of_same hS7)).grown hg8 (fun k hk => (hrow8 k hk).1)
                have hL8 := HO7.out.o0.grow hg8 (fun k hk => by obtain ⟨cur, e⟩ := (hrow8 k hk).2; exact ⟨cur, _, _, e, by decide, by decide⟩)
                have HFIN := Lib.hid (show ∃ bs o5 v, bs.length = i + 1 ∧ Loop boxC o4 nb (i + 1) bs o5 ∧ MixO (w8.setCell ⟨xb, 1, none⟩ (.slice va8 vn8 vc8)) wB.heap.size (.slice va vn vc) v (.slice none 0 0) (.slice none 0 0) (.slice none 0 0) (.slice none 0 0) (.slice none 0 0) ls bs [] [] [] [] [] ∧ RdD (w8.setCell ⟨xb, 1, none⟩ (.slice va8 vn8 vc8)) rb o5 ∧ MxAt (w8.setCell ⟨xb, 1, none⟩ (.slice va8 vn8 vc8)) xb (.slice va vn vc) v (.slice none 0 0) (.slice none 0 0) (.slice none 0 0) (.slice none 0 0) (.slice none 0 0) from
                  ⟨_, _, _, by rw [List.length_append, HLX.out]; rfl, HPM.out, MixO.put ⟨hL8, ho8, OwnI.nil _ _, OwnI.nil _ _, OwnI.nil _ _, OwnI.nil _ _, OwnI.nil _ _⟩ hM8, hR8.put HRB.out.2.2.1 _, heap_set hM8 _⟩)
                have HD9 := Lib.hid (hD8.trans (Off.set (S := (fun k => k = rb ∨ k = xb)) _ (Or.inr rfl) 1 (.slice va8 vn8 vc8)))
                have HM8 := Lib.hid hM8
                clear hM8 hR8 hD8 hL8 ho8 hg8 hrow8 hS7
                rw [if_pos (by rfl)]
                refine wp_append_run _ _ _ rfl _ rfl _ rfl hr8 ?_
                refine hK.out _ _ ?_ (fun hHeld => ?_)
                · exact trivial
                clear hK K
                try simp only [Act.put, List.getElem_toArray, List.getElem_cons_succ, List.getElem_cons_zero, List.setIfInBounds_toArray, List.set_cons_zero, List.set_cons_succ]
                clear hr8
                refine wpAnyH_take (i := 6) (v := ?_) rfl (by kernel_rfl) (by kernel_rfl) (by kernel_rfl) (fun _ _ _ h => h) (Or.inl ⟨by rfl, ?_⟩) trivial ?_
                rotate_left
                · intro w hSw; (try dsimp only at hSw); go_simp; try with_reducible rfl
                try simp only [Act.put, List.getElem_toArray, List.getElem_cons_succ, List.getElem_cons_zero, List.setIfInBounds_toArray, List.set_cons_zero, List.set_cons_succ]
                refine wpAnyH_ready (rs := [7]) (by kernel_rfl) (by simp) ?_
                refine AllReadyH.cons rfl (fun K hK => ?_) AllReadyH.nil
                have c8 : w8.cell? ⟨xb, 1, none⟩ = some (.slice vb vm vd) := by rw [cell_at HM8.out]; rfl
                have f8 : w8.frozen? ⟨xb, 1, none⟩ = false := free_at HM8.out
                go_simp
                clear c8 f8
                refine hK.out _ _ ?_ (fun hHeld => ?_)
                · exact trivial
                clear hK K
                try simp only [Act.put, List.getElem_toArray, List.getElem_cons_succ, List.getElem_cons_zero, List.setIfInBounds_toArray, List.set_cons_zero, List.set_cons_succ]
                refine wpAnyH_done (by kernel_rfl) ?_ _
                clear hHeld
                go_wp2_with fail
                go_roundw
                case rel => exact ⟨i + 1, by go_num, by omega, HFIN, HD9⟩
                case measure => simp [intOf]; omega
              · go_simp
                refine (dbox_any rb (some r) wd HRD.out).mono ?_
                rintro e w3 ⟨hO3, x0, x1, x2, x3, x4, x5, o6, rfl, hst6, hR3⟩
                have HPM := Lib.hid (HLP.out.next hlt hst6)
                have HR3 := Lib.hid hR3
                have HM3 := Lib.hid (hO3.keep (b := xb) (by have := HRB.out; omega) HMD.out)
                have HD3 := Lib.hid (HDD.out.trans (hO3.mono (T := (fun k => k = rb ∨ k = xb)) (fun k _ e => Or.inl e)))
                have HOW3 := Lib.hid (HOWD.out.off2 hO3 (fun b hb _ e => by have := HRB.out.1; omega))
                clear hst6 hR3 hO3
                go_wp2_with fail
                refine hK.out _ _ ?_ (fun hHeld => ?_)
                · exact trivial
                clear hK K
                try simp only [Act.put, List.getElem_toArray, List.getElem_cons_succ, List.getElem_cons_zero, List.setIfInBounds_toArray, List.set_cons_zero, List.set_cons_succ]
                refine wpAnyH_ready (rs := [1, 4]) (by kernel_rfl) (by simp) ?_
                refine AllReadyH.cons rfl (fun K hK => ?_) (AllReadyH.cons rfl (fun K hK => ?_) AllReadyH.nil)
                · have cl : w3.cell? ⟨xb, 1, none⟩ = some (.slice vb vm vd) := by rw [cell_at HM3.out]; rfl
                  go_simp
                  clear cl
                  refine hK.out _ _ ?_ (fun hHeld => ?_)
                  · exact trivial
                  clear hK K
                  try simp only [Act.put, List.getElem_toArray, List.getElem_cons_succ, List.getElem_cons_zero, List.setIfInBounds_toArray, List.set_cons_zero, List.set_cons_succ]
                  refine wpAnyH_ready (rs := [4]) (by kernel_rfl) (by simp) ?_
                  refine AllReadyH.cons rfl (fun K hK => ?_) AllReadyH.nil
                  go_simp
                  refine hK.out _ _ ?_ (fun hHeld => ?_)
                  · exact trivial
                  clear hK K
                  try simp only [Act.put, List.getElem_toArray, List.getElem_cons_succ, List.getElem_cons_zero, List.setIfInBounds_toArray, List.set_cons_zero, List.set_cons_succ]
                  refine wpAnyH_ready (rs := [5]) (by kernel_rfl) (by simp) ?_
                  refine AllReadyH.cons rfl (fun K hK => ?_) AllReadyH.nil
                  have hS7 : Same w3 (w3.alloc (.cells #[.int .u64 x0, .int .u64 x1, .int .u64 x2, .int .u64 x3, .int .u64 x4, .int .u64 x5] 37)) := (Same.refl w3).alloc _
                  have HO7 := Lib.hid (HOW3.out.off2 (Off.of_same (S := fun _ => False) hS7) (fun _ _ _ e => e))
                  obtain ⟨v', w8, hr8, ho8, hg8, hrow8⟩ := OwnB.push HO7.out.o1 (by rw [HLX.out]; omega) (Nat.le_trans HD3.out.size hS7.size) (b := [x0, x1, x2, x3, x4, x5]) rfl 23 (ad := ⟨w3.heap.size, 0, none⟩) (cells_new w3 [.int .u64 x0, .int .u64 x1, .int .u64 x2, .int .u64 x3, .int .u64 x4, .int .u64 x5] 37)
                  obtain ⟨va8, vn8, vc8, rfl⟩ := ho8.form
                  have hM8 := grown_keep hg8 (hS7.keep HM3.out) (fun k hk => by have := (hrow8 k hk).1; have := HRB.out; omega)
                  have hR8 : RdD w8 rb o6 := (HR3.out.same hS7).far (hg8.block rb (HR3.out.same hS7).lt (fun e => by have := (hrow8 rb e.symm).1; have := HRB.out; omega))
                  have hD8 := (HD3.out.trans (Off.of_same hS7)).grown hg8 (fun k hk => (hrow8 k hk).1)
                  have hL8 := HO7.out.o0.grow hg8 (fun k hk => by obtain ⟨cur, e⟩ := (hrow8 k hk).2; exact ⟨cur, _, _, e, by decide, by decide⟩)
                  have HFIN := Lib.hid (show ∃ bs o5 v, bs.length = i + 1 ∧ Loop boxC o4 nb (i + 1) bs o5 ∧ MixO (w8.setCell ⟨xb, 1, none⟩ (.slice va8 vn8 vc8)) wB.heap.size (.slice va vn vc) v (.slice none 0 0) (.slice none 0 0) (.slice none 0 0) (.slice none 0 0) (.slice none 0 0) ls bs [] [] [] [] [] ∧ RdD (w8.setCell ⟨xb, 1, none⟩ (.slice va8 vn8 vc8)) rb o5 ∧ MxAt (w8.setCell ⟨xb, 1, none⟩ (.slice va8 vn8 vc8)) xb (.slice va vn vc) v (.slice none 0 0) (.slice none 0 0) (.slice none 0 0) (.slice none 0 0) (.slice none 0 0) from
                    ⟨_, _, _, by rw [List.length_append, HLX.out]; rfl, HPM.out, MixO.put ⟨hL8, ho8, OwnI.nil _ _, OwnI.nil _ _, OwnI.nil _ _, OwnI.nil _ _, OwnI.nil _ _⟩ hM8, hR8.put HRB.out.2.2.1 _, heap_set hM8 _⟩)
                  have HD9 := Lib.hid (hD8.trans (Off.set (S := (fun k => k = rb ∨ k = xb)) _ (Or.inr rfl) 1 (.slice va8 vn8 vc8)))
                  have HM8 := Lib.hid hM8
                  clear hM8 hR8 hD8 hL8 ho8 hg8 hrow8 hS7
                  rw [if_pos (by rfl)]
                  refine wp_append_run _ _ _ rfl _ rfl _ rfl hr8 ?_
                  refine hK.out _ _ ?_ (fun hHeld => ?_)
                  · exact trivial
                  clear hK K
                  try simp only [Act.put, List.getElem_toArray, List.getElem_cons_succ, List.getElem_cons_zero, List.setIfInBounds_toArray, List.set_cons_zero, List.set_cons_succ]
                  clear hr8
                  refine wpAnyH_take (i := 6) (v := ?_) rfl (by kernel_rfl) (by kernel_rfl) (by kernel_rfl) (fun _ _ _ h => h) (Or.inl ⟨by rfl, ?_⟩) trivial ?_
                  rotate_left
                  · intro w hSw; (try dsimp only at hSw); go_simp; try with_reducible rfl
                  try simp only [Act.put, List.getElem_toArray, List.getElem_cons_succ, List.getElem_cons_zero, List.setIfInBounds_toArray, List.set_cons_zero, List.set_cons_succ]
                  refine wpAnyH_ready (rs := [7]) (by kernel_rfl) (by simp) ?_
                  refine AllReadyH.cons rfl (fun K hK => ?_) AllReadyH.nil
                  have c8 : w8.cell? ⟨xb, 1, none⟩ = some (.slice vb vm vd) := by rw [cell_at HM8.out]; rfl
                  have f8 : w8.frozen? ⟨xb, 1, none⟩ = false := free_at HM8.out
                  go_simp
                  clear c8 f8
                  refine hK.out _ _ ?_ (fun hHeld => ?_)
                  · exact trivial
                  clear hK K
                  try simp only [Act.put, List.getElem_toArray, List.getElem_cons_succ, List.getElem_cons_zero, List.setIfInBounds_toArray, List.set_cons_zero, List.set_cons_succ]
                  refine wpAnyH_done (by kernel_rfl) ?_ _
                  clear hHeld
                  go_wp2_with fail
                  go_roundw
                  case rel => exact ⟨i + 1, by go_num, by omega, HFIN, HD9⟩
                  case measure => simp [intOf]; omega
                · go_simp
                  refine hK.out _ _ ?_ (fun hHeld => ?_)
                  · exact trivial
                  clear hK K
                  try simp only [Act.put, List.getElem_toArray, List.getElem_cons_succ, List.getElem_cons_zero, List.setIfInBounds_toArray, List.set_cons_zero, List.set_cons_succ]
                  refine wpAnyH_ready (rs := [1]) (by kernel_rfl) (by simp) ?_
                  refine AllReadyH.cons rfl (fun K hK => ?_) AllReadyH.nil
                  have cl : (w3.alloc (.cells #[.int .u64 x0, .int .u64 x1, .int .u64 x2, .int .u64 x3, .int .u64 x4, .int .u64 x5] 37)).cell? ⟨xb, 1, none⟩ = some (.slice vb vm vd) := by rw [cell_at (((Same.refl w3).alloc _).keep HM3.out)]; rfl
                  go_simp
                  clear cl
                  refine hK.out _ _ ?_ (fun hHeld => ?_)
                  · exact trivial
                  clear hK K
                  try simp only [Act.put, List.getElem_toArray, List.getElem_cons_succ, List.getElem_cons_zero, List.setIfInBounds_toArray, List.set_cons_zero, List.set_cons_succ]
                  refine wpAnyH_ready (rs := [5]) (by kernel_rfl) (by simp) ?_
                  refine AllReadyH.cons rfl (fun K hK => ?_) AllReadyH.nil
                  have hS7 : Same w3 (w3.alloc (.cells #[.int .u64 x0, .int .u64 x1, .int .u64 x2, .int .u64 x3, .int .u64 x4, .int .u64 x5] 37)) := (Same.refl w3).alloc _
                  have HO7 := Lib.hid (HOW3.out.off2 (Off.of_same (S := fun _ => False) hS7) (fun _ _ _ e => e))
                  obtain ⟨v', w8, hr8, ho8, hg8, hrow8⟩ := OwnB.push HO7.out.o1 (by rw [HLX.out]; omega) (Nat.le_trans HD3.out.size hS7.size) (b := [x0, x1, x2, x3, x4, x5]) rfl 23 (ad := ⟨w3.heap.size, 0, none⟩) (cells_new w3 [.int .u64 x0, .int .u64 x1, .int .u64 x2, .int .u64 x3, .int .u64 x4, .int .u64 x5] 37)
                  obtain ⟨va8, vn8, vc8, rfl⟩ := ho8.form
                  have hM8 := grown_keep hg8 (hS7.keep HM3.out) (fun k hk => by have := (hrow8 k hk).1; have := HRB.out; omega)
                  have hR8 : RdD w8 rb o6 := (HR3.out.same hS7).far (hg8.block rb (HR3.out.same hS7).lt (fun e => by have := (hrow8 rb e.symm).1; have := HRB.out; omega))
                  have hD8 := (HD3.out.trans (Off.of_same hS7)).grown hg8 (fun k hk => (hrow8 k hk).1)
                  have hL8 := HO7.out.o0.grow hg8 (fun k hk => by obtain ⟨cur, e⟩ := (hrow8 k hk).2; exact ⟨cur, _, _, e, by decide, by decide⟩)
                  have HFIN := Lib.hid (show ∃ bs o5 v, bs.length = i + 1 ∧ Loop boxC o4 nb (i + 1) bs o5 ∧ MixO (w8.setCell ⟨xb, 1, none⟩ (.slice va8 vn8 vc8)) wB.heap.size (.slice va vn vc) v (.slice none 0 0) (.slice none 0 0) (.slice none 0 0) (.slice none 0 0) (.slice none 0 0) ls bs [] [] [] [] [] ∧ RdD (w8.setCell ⟨xb, 1, none⟩ (.slice va8 vn8 vc8)) rb o5 ∧ MxAt (w8.setCell ⟨xb, 1, none⟩ (.slice va8 vn8 vc8)) xb (.slice va vn vc) v (.slice none 0 0) (.slice none 0 0) (.slice none 0 0) (.slice none 0 0) (.slice none 0 0) from
                    ⟨_, _, _, by rw [List.length_append, HLX.out]; rfl, HPM.out, MixO.put ⟨hL8, ho8, OwnI.nil _ _, OwnI.nil _ _, OwnI.nil _ _, OwnI.nil _ _, OwnI.nil _ _⟩ hM8, hR8.put HRB.out.2.2.1 _, heap_set hM8 _⟩)
                  have HD9 := Lib.hid (hD8.trans (Off.set (S := (fun k => k = rb ∨ k = xb)) _ (Or.inr rfl) 1 (.slice va8 vn8 vc8)))
                  have HM8 := Lib.hid hM8
                  clear hM8 hR8 hD8 hL8 ho8 hg8 hrow8 hS7
                  rw [if_pos (by rfl)]
                  refine wp_append_run _ _ _ rfl _ rfl _ rfl hr8 ?_
                  refine hK.out _ _ ?_ (fun hHeld => ?_)
                  · exact trivial
                  clear hK K
                  try simp only [Act.put, List.getElem_toArray, List.getElem_cons_succ, List.getElem_cons_zero, List.setIfInBounds_toArray, List.set_cons_zero, List.set_cons_succ]
                  clear hr8
                  refine wpAnyH_take (i := 6) (v := ?_) rfl (by kernel_rfl) (by kernel_rfl) (by kernel_rfl) (fun _ _ _ h => h) (Or.inl ⟨by rfl, ?_⟩) trivial ?_
                  rotate_left
                  · intro w hSw; (try dsimp only at hSw); go_simp; try with_reducible rfl
                  try simp only [Act.put, List.getElem_toArray, List.getElem_cons_succ, List.getElem_cons_zero, List.setIfInBounds_toArray, List.set_cons_zero, List.set_cons_succ]
                  refine wpAnyH_ready (rs := [7]) (by kernel_rfl) (by simp) ?_
                  refine AllReadyH.cons rfl (fun K hK => ?_) AllReadyH.nil
                  have c8 : w8.cell? ⟨xb, 1, none⟩ = some (.slice vb vm vd) := by rw [cell_at HM8.out]; rfl
                  have f8 : w8.frozen? ⟨xb, 1, none⟩ = false := free_at HM8.out
                  go_simp
                  clear c8 f8
                  refine hK.out _ _ ?_ (fun hHeld => ?_)
                  · exact trivial
                  clear hK K
                  try simp only [Act.put, List.getElem_toArray, List.getElem_cons_succ, List.getElem_cons_zero, List.setIfInBounds_toArray, List.set_cons_zero, List.set_cons_succ]
                  refine wpAnyH_done (by kernel_rfl) ?_ _
                  clear hHeld
                  go_wp2_with fail
                  go_roundw
                  case rel => exact ⟨i + 1, by go_num, by omega, HFIN, HD9⟩
                  case measure => simp [intOf]; omega
            case false =>
              have hex : o5 = none ∨ i = nb := by
                have h := HC.out
                cases o5 with
                | none => exact Or.inl rfl
                | some r => simp at h; exact Or.inr (by omega)
              have HB := Lib.hid (Loop.listed HST4.out HLP.out hex)
              obtain ⟨wb, rfl⟩ : ∃ wz, wz = wr := ⟨_, rfl⟩
              have HD5 := Lib.hid hD.out
              clear hex HLP HLX hi' hi0 hD HC
              go_wp2_with fail
              refine (dlist_any rb o5 wb HRR.out).mono ?_
              rintro e w2b ⟨hO, v, y2, ox2, hv, rfl, hst, hR⟩
              obtain ⟨a2, n2, c2, rfl⟩ := hv.form
              have hm := hO.keep (b := xb) (by have := HRB.out; omega) HMX.out
              have k2 : w2b.cell? ⟨xb, 2, none⟩ = some (.slice none 0 0) := by rw [cell_at hm]; rfl
              have f2 : w2b.frozen? ⟨xb, 2, none⟩ = false := free_at hm
              obtain ⟨w2c, ew⟩ : ∃ wz, w2b.setCell ⟨xb, 2, none⟩ (.slice a2 n2 c2) = wz := ⟨_, rfl⟩
              have hoo := (HOW.out.off2 hO (fun b hb _ e => by have := HRB.out.1; omega)).put (o := 2) (u := (.slice a2 n2 c2)) hm
              have hvv := (hv.put (o := 2) (u := (.slice a2 n2 c2)) hm (by decide)).down HD5.out.size
              rw [ew] at hoo hvv
              have HO2c := Lib.hid (show MixO w2c wB.heap.size (.slice va vn vc) (.slice vb vm vd) (.slice a2 n2 c2) (.slice none 0 0) (.slice none 0 0) (.slice none 0 0) (.slice none 0 0) ls bs y2 [] [] [] [] from ⟨hoo.o0, hoo.o1, hvv, hoo.o3, hoo.o4, hoo.o5, hoo.o6⟩)
              have HM2c := Lib.hid (show MxAt w2c xb (.slice va vn vc) (.slice vb vm vd) (.slice a2 n2 c2) (.slice none 0 0) (.slice none 0 0) (.slice none 0 0) (.slice none 0 0) by rw [← ew]; exact heap_set hm _)
              have HR2c := Lib.hid (show RdD w2c rb ox2 by rw [← ew]; exact hR.put HRB.out.2.2.1 _)
              have HD2c := Lib.hid (show Off (fun k => k = rb ∨ k = xb) wB w2c by rw [← ew]; exact (HD5.out.trans (hO.mono (fun k _ e => Or.inl e))).trans (Off.set (S := (fun k => k = rb ∨ k = xb)) _ (Or.inr rfl) _ _))
              have HT2c := Lib.hid hst
              have EW2c := Lib.hid ew
              clear hst hO hR hv hm hoo hvv ew
              go_upto_region 17 with fail
              rw [EW2c.out]
              clear k2 f2
              go_wp2_with fail
              refine (dlist_any rb ox2 w2c HR2c.out).mono ?_
              rintro e w3b ⟨hO, v, y3, ox3, hv, rfl, hst, hR⟩
              obtain ⟨a3, n3, c3, rfl⟩ := hv.form
              have hm := hO.keep (b := xb) (by have := HRB.out; omega) HM2c.out
              have k3 : w3b.cell? ⟨xb, 3, none⟩ = some (.slice none 0 0) := by rw [cell_at hm]; rfl
              have f3 : w3b.frozen? ⟨xb, 3, none⟩ = false := free_at hm
              obtain ⟨w3c, ew⟩ : ∃ wz, w3b.setCell ⟨xb, 3, none⟩ (.slice a3 n3 c3) = wz := ⟨_, rfl⟩
              have hoo := (HO2c.out.off2 hO (fun b hb _ e => by have := HRB.out.1; omega)).put (o := 3) (u := (.slice a3 n3 c3)) hm
              have hvv := (hv.put (o := 3) (u := (.slice a3 n3 c3)) hm (by decide)).down HD2c.out.size
              rw [ew] at hoo hvv
              have HO3c := Lib.hid (show MixO w3c wB.heap.size (.slice va vn vc) (.slice vb vm vd) (.slice a2 n2 c2) (.slice a3 n3 c3) (.slice none 0 0) (.slice none 0 0) (.slice none 0 0) ls bs y2 y3 [] [] [] from ⟨hoo.o0, hoo.o1, hoo.o2, hvv, hoo.o4, hoo.o5, hoo.o6⟩)
              have HM3c := Lib.hid (show MxAt w3c xb (.slice va vn vc) (.slice vb vm vd) (.slice a2 n2 c2) (.slice a3 n3 c3) (.slice none 0 0) (.slice none 0 0) (.slice none 0 0) by rw [← ew]; exact heap_set hm _)
              have HR3c := Lib.hid (show RdD w3c rb ox3 by rw [← ew]; exact hR.put HRB.out.2.2.1 _)
              have HD3c := Lib.hid (show Off (fun k => k = rb ∨ k = xb) wB w3c by rw [← ew]; exact (HD2c.out.trans (hO.mono (fun k _ e => Or.inl e))).trans (Off.set (S := (fun k => k = rb ∨ k = xb)) _ (Or.inr rfl) _ _))
              have HT3c := Lib.hid hst
              have EW3c := Lib.hid ew
              clear hst hO hR hv hm hoo hvv ew
              go_upto_region 18 with fail
              rw [EW3c.out]
              clear k3 f3
              go_wp2_with fail
              refine (dlist_any rb ox3 w3c HR3c.out).mono ?_
              rintro e w4b ⟨hO, v, y4, ox4, hv, rfl, hst, hR⟩
              obtain ⟨a4, n4, c4, rfl⟩ := hv.form
              have hm := hO.keep (b := xb) (by have := HRB.out; omega) HM3c.out
              have k4 : w4b.cell? ⟨xb, 4, none⟩ = some (.slice none 0 0) := by rw [cell_at hm]; rfl
              have f4 : w4b.frozen? ⟨xb, 4, none⟩ = false := free_at hm
              obtain ⟨w4c, ew⟩ : ∃ wz, w4b.setCell ⟨xb, 4, none⟩ (.slice a4 n4 c4) = wz := ⟨_, rfl⟩
              have hoo := (HO3c.out.off2 hO (fun b hb _ e => by have := HRB.out.1; omega)).put (o := 4) (u := (.slice a4 n4 c4)) hm
              have hvv := (hv.put (o := 4) (u := (.slice a4 n4 c4)) hm (by decide)).down HD3c.out.size
              rw [ew] at hoo hvv
              have HO4c := Lib.hid (show MixO w4c wB.heap.size (.slice va vn vc) (.slice vb vm vd) (.slice a2 n2 c2) (.slice a3 n3 c3) (.slice a4 n4 c4) (.slice none 0 0) (.slice none 0 0) ls bs y2 y3 y4 [] [] from ⟨hoo.o0, hoo.o1, hoo.o2, hoo.o3, hvv, hoo.o5, hoo.o6⟩)
              have HM4c := Lib.hid (show MxAt w4c xb (.slice va vn vc) (.slice vb vm vd) (.slice a2 n2 c2) (.slice a3 n3 c3) (.slice a4 n4 c4) (.slice none 0 0) (.slice none 0 0) by rw [← ew]; exact heap_set hm _)
              have HR4c := Lib.hid (show RdD w4c rb ox4 by rw [← ew]; exact hR.put HRB.out.2.2.1 _)
              have HD4c := Lib.hid (show Off (fun k => k = rb ∨ k = xb) wB w4c by rw [← ew]; exact (HD3c.out.trans (hO.mono (fun k _ e => Or.inl e))).trans (Off.set (S := (fun k => k = rb ∨ k = xb)) _ (Or.inr rfl) _ _))
              have HT4c := Lib.hid hst
              have EW4c := Lib.hid ew
              clear hst hO hR hv hm hoo hvv ew
              go_upto_region 19 with fail
              rw [EW4c.out]
              clear k4 f4
              go_wp2_with fail
              refine (dproof_any rb ox4 w4c HR4c.out).mono ?_
              rintro e w5b ⟨hO, a5, n5, c5, a6, n6, c6, p, ox5, hv5, hv6, rfl, hst, hR⟩
              have hm := hO.keep (b := xb) (by have := HRB.out; omega) HM4c.out
              have k5 : w5b.cell? ⟨xb, 5, none⟩ = some (.slice none 0 0) := by rw [cell_at hm]; rfl
              have f5 : w5b.frozen? ⟨xb, 5, none⟩ = false := free_at hm
              have k6 : w5b.cell? ⟨xb, 6, none⟩ = some (.slice none 0 0) := by rw [cell_at hm]; rfl
              have f6 : w5b.frozen? ⟨xb, 6, none⟩ = false := free_at hm
              obtain ⟨w5c, ew⟩ : ∃ wz, (w5b.setCell ⟨xb, 5, none⟩ (.slice a5 n5 c5)).setCell ⟨xb, 6, none⟩ (.slice a6 n6 c6) = wz := ⟨_, rfl⟩
              have hm5 := heap_set (o := 5) hm (.slice a5 n5 c5)
              have hoo := ((HO4c.out.off2 hO (fun b hb _ e => by have := HRB.out.1; omega)).put (o := 5) (u := (.slice a5 n5 c5)) hm).put (o := 6) (u := (.slice a6 n6 c6)) hm5
              have hv5b := ((hv5.put (o := 5) (u := (.slice a5 n5 c5)) hm (by decide)).put (o := 6) (u := (.slice a6 n6 c6)) hm5 (by decide)).down HD4c.out.size
              have hv6b := ((hv6.put (o := 5) (u := (.slice a5 n5 c5)) hm (by decide)).put (o := 6) (u := (.slice a6 n6 c6)) hm5 (by decide)).down HD4c.out.size
              rw [ew] at hoo hv5b hv6b
              have HO5c := Lib.hid (show MixO w5c wB.heap.size (.slice va vn vc) (.slice vb vm vd) (.slice a2 n2 c2) (.slice a3 n3 c3) (.slice a4 n4 c4) (.slice a5 n5 c5) (.slice a6 n6 c6) ls bs y2 y3 y4 p.1 p.2 from ⟨hoo.o0, hoo.o1, hoo.o2, hoo.o3, hoo.o4, hv5b, hv6b⟩)
              have HM5c := Lib.hid (show MxAt w5c xb (.slice va vn vc) (.slice vb vm vd) (.slice a2 n2 c2) (.slice a3 n3 c3) (.slice a4 n4 c4) (.slice a5 n5 c5) (.slice a6 n6 c6) by rw [← ew]; exact heap_set hm5 _)
              have HR5c := Lib.hid (show RdD w5c rb ox5 by rw [← ew]; exact (hR.put HRB.out.2.2.1 _).put HRB.out.2.2.1 _)
              have HD5c := Lib.hid (show Off (fun k => k = rb ∨ k = xb) wB w5c by rw [← ew]; exact ((HD4c.out.trans (hO.mono (fun k _ e => Or.inl e))).trans (Off.set (S := (fun k => k = rb ∨ k = xb)) _ (Or.inr rfl) _ _)).trans (Off.set (S := (fun k => k = rb ∨ k = xb)) _ (Or.inr rfl) _ _))
              have HT := Lib.hid (show Step mixC.par (beg 2 l) (ls, bs, y2, y3, y4, p) ox5 by rw [EO0.out]; exact HL.out.pair (HB.out.pair (HT2c.out.pair (HT3c.out.pair (HT4c.out.pair hst)))))
              have EW5c := Lib.hid ew
              clear hst hO hR hv5 hv6 hm hm5 hoo hv5b hv6b ew
              go_upto_region 20 with fail
              rw [EW5c.out]
              clear k5 f5 k6 f6
              go_wp2_with fail
              refine (dend_any rb ox5 w5c HR5c.out).mono ?_
              rintro e w7 ⟨rfl, e7⟩
              rw [e7]
              obtain ⟨q, eq⟩ : ∃ q, isEnd ox5 = q := ⟨_, rfl⟩
              rw [eq]
              have HB5 := Lib.hid (HD5c.out.keep (b := b2) (fun e => by have := HRB.out; rcases e with e | e <;> omega) HBB.out)
              have q0 : w5c.cell? ⟨b2, 0, none⟩ = some (.slice none 0 0) := by rw [cell_at HB5.out]; rfl
              have f0 : w5c.frozen? ⟨b2, 0, none⟩ = false := free_at HB5.out
              have q1 : w5c.cell? ⟨b2, 1, none⟩ = some (.slice none 0 0) := by rw [cell_at HB5.out]; rfl
              have f1 : w5c.frozen? ⟨b2, 1, none⟩ = false := free_at HB5.out
              have q2 : w5c.cell? ⟨b2, 2, none⟩ = some (.slice none 0 0) := by rw [cell_at HB5.out]; rfl
              have f2 : w5c.frozen? ⟨b2, 2, none⟩ = false := free_at HB5.out
              have q3 : w5c.cell? ⟨b2, 3, none⟩ = some (.slice none 0 0) := by rw [cell_at HB5.out]; rfl
              have f3 : w5c.frozen? ⟨b2, 3, none⟩ = false := free_at HB5.out
              have q4 : w5c.cell? ⟨b2, 4, none⟩ = some (.slice none 0 0) := by rw [cell_at HB5.out]; rfl
              have f4 : w5c.frozen? ⟨b2, 4, none⟩ = false := free_at HB5.out
              have q5 : w5c.cell? ⟨b2, 5, none⟩ = some (.slice none 0 0) := by rw [cell_at HB5.out]; rfl
              have f5 : w5c.frozen? ⟨b2, 5, none⟩ = false := free_at HB5.out
              have q6 : w5c.cell? ⟨b2, 6, none⟩ = some (.slice none 0 0) := by rw [cell_at HB5.out]; rfl
              have f6 : w5c.frozen? ⟨b2, 6, none⟩ = false := free_at HB5.out
              cases q
              · have HN := Lib.hid (rd_no HT.out eq)
                obtain ⟨w8, ew8⟩ : ∃ w8, w5c.setCells b2 0 [.slice none 0 0, .slice none 0 0, .slice none 0 0, .slice none 0 0, .slice none 0 0, .slice none 0 0, .slice none 0 0] = w8 := ⟨_, rfl⟩
                have hp8 := heap_sets [.slice none 0 0, .slice none 0 0, .slice none 0 0, .slice none 0 0, .slice none 0 0, .slice none 0 0, .slice none 0 0] 0 w5c _ HB5.out
                rw [ew8] at hp8
                have hp8 : w8.heap[b2]? = some (.cells #[.slice none 0 0, .slice none 0 0, .slice none 0 0, .slice none 0 0, .slice none 0 0, .slice none 0 0, .slice none 0 0] 30 (0, 0)) := hp8
                have p0 : w8.cell? ⟨b2, 0, none⟩ = some (.slice none 0 0) := by rw [cell_at hp8]; rfl
                have p1 : w8.cell? ⟨b2, 1, none⟩ = some (.slice none 0 0) := by rw [cell_at hp8]; rfl
                have p2 : w8.cell? ⟨b2, 2, none⟩ = some (.slice none 0 0) := by rw [cell_at hp8]; rfl
                have p3 : w8.cell? ⟨b2, 3, none⟩ = some (.slice none 0 0) := by rw [cell_at hp8]; rfl
                have p4 : w8.cell? ⟨b2, 4, none⟩ = some (.slice none 0 0) := by rw [cell_at hp8]; rfl
                have p5 : w8.cell? ⟨b2, 5, none⟩ = some (.slice none 0 0) := by rw [cell_at hp8]; rfl
                have p6 : w8.cell? ⟨b2, 6, none⟩ = some (.slice none 0 0) := by rw [cell_at hp8]; rfl
                have HS8 := Lib.hid (show Same w w8 by rw [← ew8]; exact Same.of_off (S := fun k => b2 ≤ k) (((Off.of_same HSB.out).trans (HD5c.out.mono (fun k _ e => by have := HE.out.1; have := HE.out.2; rcases e with e | e <;> omega))).setsS (by omega) _ _) (fun k hk e => by have := EB2.out; omega))
                have EW8 := Lib.hid (show (((((((w5c.setCell ⟨b2, 0, none⟩ (.slice none 0 0)).setCell ⟨b2, 1, none⟩ (.slice none 0 0)).setCell ⟨b2, 2, none⟩ (.slice none 0 0)).setCell ⟨b2, 3, none⟩ (.slice none 0 0)).setCell ⟨b2, 4, none⟩ (.slice none 0 0)).setCell ⟨b2, 5, none⟩ (.slice none 0 0)).setCell ⟨b2, 6, none⟩ (.slice none 0 0)) = w8 from ew8)
                clear ew8 hp8 e7 eq
                go_wp2_with fail
                rw [EW8.out]
                refine bodyPost_ret (by simp [results, Try.results24, go_sem, p0, p1, p2, p3, p4, p5, p6]; try rfl) rfl ?_
                exact ⟨HS8.out, Or.inr ⟨HN.out, rfl⟩⟩
              · have HY := Lib.hid (rd_yes HT.out eq)
                have g0 : w5c.cell? ⟨xb, 0, none⟩ = some (.slice va vn vc) := by rw [cell_at HM5c.out]; rfl
                have g1 : w5c.cell? ⟨xb, 1, none⟩ = some (.slice vb vm vd) := by rw [cell_at HM5c.out]; rfl
                have g2 : w5c.cell? ⟨xb, 2, none⟩ = some (.slice a2 n2 c2) := by rw [cell_at HM5c.out]; rfl
                have g3 : w5c.cell? ⟨xb, 3, none⟩ = some (.slice a3 n3 c3) := by rw [cell_at HM5c.out]; rfl
                have g4 : w5c.cell? ⟨xb, 4, none⟩ = some (.slice a4 n4 c4) := by rw [cell_at HM5c.out]; rfl
                have g5 : w5c.cell? ⟨xb, 5, none⟩ = some (.slice a5 n5 c5) := by rw [cell_at HM5c.out]; rfl
                have g6 : w5c.cell? ⟨xb, 6, none⟩ = some (.slice a6 n6 c6) := by rw [cell_at HM5c.out]; rfl
                obtain ⟨w8, ew8⟩ : ∃ w8, w5c.setCells b2 0 [.slice va vn vc, .slice vb vm vd, .slice a2 n2 c2, .slice a3 n3 c3, .slice a4 n4 c4, .slice a5 n5 c5, .slice a6 n6 c6] = w8 := ⟨_, rfl⟩
                have hp8 := heap_sets [.slice va vn vc, .slice vb vm vd, .slice a2 n2 c2, .slice a3 n3 c3, .slice a4 n4 c4, .slice a5 n5 c5, .slice a6 n6 c6] 0 w5c _ HB5.out
                rw [ew8] at hp8
                have hp8 : w8.heap[b2]? = some (.cells #[.slice va vn vc, .slice vb vm vd, .slice a2 n2 c2, .slice a3 n3 c3, .slice a4 n4 c4, .slice a5 n5 c5, .slice a6 n6 c6] 30 (0, 0)) := hp8
                have p0 : w8.cell? ⟨b2, 0, none⟩ = some (.slice va vn vc) := by rw [cell_at hp8]; rfl
                have p1 : w8.cell? ⟨b2, 1, none⟩ = some (.slice vb vm vd) := by rw [cell_at hp8]; rfl
                have p2 : w8.cell? ⟨b2, 2, none⟩ = some (.slice a2 n2 c2) := by rw [cell_at hp8]; rfl
                have p3 : w8.cell? ⟨b2, 3, none⟩ = some (.slice a3 n3 c3) := by rw [cell_at hp8]; rfl
                have p4 : w8.cell? ⟨b2, 4, none⟩ = some (.slice a4 n4 c4) := by rw [cell_at hp8]; rfl
                have p5 : w8.cell? ⟨b2, 5, none⟩ = some (.slice a5 n5 c5) := by rw [cell_at hp8]; rfl
                have p6 : w8.cell? ⟨b2, 6, none⟩ = some (.slice a6 n6 c6) := by rw [cell_at hp8]; rfl
                have HS8 := Lib.hid (show Same w w8 by rw [← ew8]; exact Same.of_off (S := fun k => b2 ≤ k) (((Off.of_same HSB.out).trans (HD5c.out.mono (fun k _ e => by have := HE.out.1; have := HE.out.2; rcases e with e | e <;> omega))).setsS (by omega) _ _) (fun k hk e => by have := EB2.out; omega))
                have HOF := Lib.hid (show MixO w8 w.heap.size (.slice va vn vc) (.slice vb vm vd) (.slice a2 n2 c2) (.slice a3 n3 c3) (.slice a4 n4 c4) (.slice a5 n5 c5) (.slice a6 n6 c6) ls bs y2 y3 y4 p.1 p.2 by rw [← ew8, EB2.out]; exact (MixO.puts _ _ _ _ HO5c.out HB5.out).down HRB.out.2.2.2.2.2.2)
                have EW8 := Lib.hid (show (((((((w5c.setCell ⟨b2, 0, none⟩ (.slice va vn vc)).setCell ⟨b2, 1, none⟩ (.slice vb vm vd)).setCell ⟨b2, 2, none⟩ (.slice a2 n2 c2)).setCell ⟨b2, 3, none⟩ (.slice a3 n3 c3)).setCell ⟨b2, 4, none⟩ (.slice a4 n4 c4)).setCell ⟨b2, 5, none⟩ (.slice a5 n5 c5)).setCell ⟨b2, 6, none⟩ (.slice a6 n6 c6)) = w8 from ew8)
                clear ew8 hp8 e7 eq
                go_wp2_with fail
                rw [EW8.out]
                refine bodyPost_ret (by simp [results, Try.results24, go_sem, p0, p1, p2, p3, p4, p5, p6]; try rfl) rfl ?_
                exact ⟨HS8.out, Or.inl ⟨(ls, bs, y2, y3, y4, p), va, vn, vc, vb, vm, vd, a2, n2, c2, a3, n3, c3, a4, n4, c4, a5, n5, c5, a6, n6, c6, HY.out, rfl, HOF.out⟩⟩
end Go.Proofs.Ytdbhcdhenapfoaa
