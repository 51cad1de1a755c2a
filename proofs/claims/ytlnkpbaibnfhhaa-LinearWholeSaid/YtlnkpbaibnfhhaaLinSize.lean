/- linear.Size: how many exponents a claim is about. -/
import Derived.Test.YtlnkpbaibnfhhaaLinR
import Derived.Test.YtlnkpbaibnfhhaaW3
set_option linter.unusedVariables false
set_option linter.unusedSimpArgs false
namespace Go.Proofs.Ytlnkpbaibnfhhaa
open Go.RowKit NT
theorem out_any (P Q G H : Int) (ra : Option Addr) (rn rc : Nat) (x : Int) (gx : Nat) (P0 : 0 ≤ P) (Q0 : 0 ≤ Q) (Q1 : Q < 18446744073709551616) (x0 : 0 ≤ x) (W0 w : World) (h : BoxS W0 gx P Q G H ra rn rc w) :
    Calls Try.prog 38 #[.int .u64 x, .pointer (some ⟨gx, 0, none⟩)] w fun z w' => z = .returned (.bool (!inB P Q x)) ∧ Same w w' := by
  obtain ⟨b0, b1, b2, b3, b4, hS⟩ := h
  go_enter Try.func38, Try.ntmps38
  go_wp2_with fail
  refine (in_any P Q G H ra rn rc x P0 Q0 Q1 x0 _).mono ?_
  rintro e1 w1 ⟨rfl, hT⟩
  go_wp2_with fail
  go_ret
  exact ⟨rfl, hT⟩
theorem idx_any (P Q G H : Int) (ra : Option Addr) (rn rc : Nat) (gx : Nat) (a : Option Addr) (n cap : Nat) (xs : List Int) (P0 : 0 ≤ P) (Q0 : 0 ≤ Q) (Q1 : Q < 18446744073709551616) (W0 w : World) (h : BoxS W0 gx P Q G H ra rn rc w) (hi : IntsAt w a n xs) :
    Calls Try.prog 60 #[.slice a n cap, .func (.func 38) #[] #[.pointer (some ⟨gx, 0, none⟩)]] w fun z w' => (∃ r : Int, z = .returned (.int .i64 r) ∧ decide (0 ≤ r) = !allB P Q xs) ∧ Same w w' := by
  have hlen := hi.len
  have hsmall := hi.small
  have HLen := Lib.hid hlen
  have HB := Lib.hid h
  clear hlen h
  go_enter Try.func60, Try.ntmps60
  go_wp2_with fail
  go_loopw [8] (fun s8 wr => ∃ i : Nat, s8 = .int .i64 i ∧ i ≤ n ∧ Hid (∀ j, j < i → InP P Q (xs.getD j 0)) ∧ Same w wr) (fun s8 _ => n - (intOf s8).toNat)
  case atStart => exact ⟨0, rfl, by omega, fun j hj => by omega, Same.refl _⟩
  case round =>
    obtain ⟨i, rfl, hle, hup, hD⟩ := hrel
    by_cases hlt : i < n
    · obtain ⟨b, off, ha, hcells⟩ := hi.cells (by omega)
      subst ha
      obtain ⟨x, hx⟩ : ∃ x, xs.getD i 0 = x := ⟨_, rfl⟩
      have hc := same_cell hD (hcells i hlt)
      have hx0 := (hi.bd i).1
      rw [hx] at hc hx0
      have HBr := Lib.hid (BoxS.same HB.out hD)
      by_cases hin : InP P Q x
      · have hB := Lib.hid (inB_yes hin)
        have hup2 : Hid (∀ j, j < i + 1 → InP P Q (xs.getD j 0)) := fun j hj => by
          by_cases e : j = i
          · subst e; rw [hx]; exact hin
          · exact hup.out j (by omega)
        clear hx hcells hin hup
        go_wp2_with fail
        refine (out_any P Q G H ra rn rc x gx P0 Q0 Q1 hx0 W0 _ HBr.out).mono ?_
        rintro e1 w1 ⟨rfl, hT⟩
        rw [hB.out]
        go_wp2_with fail
        go_roundw
        case rel => exact ⟨i + 1, by go_num, by omega, hup2, hD.trans hT⟩
        case measure => simp [intOf]; omega
      · have hB := Lib.hid (inB_no hin)
        have hb := allB_no (P := P) (Q := Q) (xs := xs) (fun hA => hin (by rw [← hx]; exact hA.at (by rw [HLen.out]; exact hlt)))
        have HBn := Lib.hid hb
        clear hx hcells hin hup hb
        go_wp2_with fail
        refine (out_any P Q G H ra rn rc x gx P0 Q0 Q1 hx0 W0 _ HBr.out).mono ?_
        rintro e1 w1 ⟨rfl, hT⟩
        rw [hB.out]
        go_wp2_with fail
        go_ret
        exact ⟨⟨_, rfl, by rw [HBn.out]; exact decide_eq_true (by omega)⟩, hD.trans hT⟩
    · obtain rfl : i = n := by omega
      have hb := allB_yes (P := P) (Q := Q) (xs := xs) (AllE.of (fun j hj => hup.out j (by rw [← HLen.out]; exact hj)))
      have HBn := Lib.hid hb
      clear hup hb
      go_wp2_with fail
      go_ret
      exact ⟨⟨_, rfl, by rw [HBn.out]; rfl⟩, hD⟩
theorem cf_any (P Q G H : Int) (ra : Option Addr) (rn rc : Nat) (gx : Nat) (a : Option Addr) (n cap : Nat) (xs : List Int) (P0 : 0 ≤ P) (Q0 : 0 ≤ Q) (Q1 : Q < 18446744073709551616) (W0 w : World) (h : BoxS W0 gx P Q G H ra rn rc w) (hi : IntsAt w a n xs) :
    Calls Try.prog 40 #[.slice a n cap, .func (.func 38) #[] #[.pointer (some ⟨gx, 0, none⟩)]] w fun z w' => z = .returned (.bool (!allB P Q xs)) ∧ Same w w' := by
  have HB := Lib.hid h
  clear h
  go_enter Try.func40, Try.ntmps40
  go_wp2_with fail
  refine (idx_any P Q G H ra rn rc gx a n cap xs P0 Q0 Q1 W0 _ HB.out hi).mono ?_
  rintro e1 w1 ⟨⟨r, rfl, hr⟩, hT⟩
  have HR := Lib.hid hr
  clear hr
  go_wp2_with fail
  go_ret
  exact ⟨ret_bool HR.out, hT⟩
set_option maxHeartbeats 1600000 in
theorem size_any (P Q G H : Int) (ra : Option Addr) (rn rc : Nat) (ta ba : Option Addr) (tn tc bn bc : Nat) (ts : List Int) (bs : List (List Int)) (hP : U64 P) (hQ : U64 Q) (w : World) (ht : IntsAt w ta tn ts) (hb : MatAt w ba bn bs) :
    Calls Try.prog 15 #[.agg #[.int .u64 P, .int .u64 Q, .int .u64 G, .int .u64 H, .slice ra rn rc], .agg #[.slice ta tn tc, .slice ba bn bc]] w fun z w' => z = .returned (.int .i64 (sizeS P Q ts bs : Nat)) ∧ Same w w' := by
  obtain ⟨W, gx, cx, eW, eg, ec, hB⟩ := par_claim w P Q G H ra rn rc (.slice ta tn tc) (.slice ba bn bc)
  have EW := Lib.hid eW
  have EG := Lib.hid eg
  have EC := Lib.hid ec
  have HU := Lib.hid (And.intro hP hQ)
  have HT := Lib.hid ht
  have HM := Lib.hid hb
  have HB := Lib.hid hB
  have HLT := Lib.hid ht.len
  have HLB := Lib.hid hb.len
  have hst := ht.small
  have hsb := hb.small
  clear eW eg ec hP hQ ht hb hB
  have hmf : ∀ (fn : Fn) (first cap : Array Value) (w : World), (Instr.makeFunc fn first cap).run Try.prog w = .ok (.func fn first cap) w := fun _ _ _ _ => rfl
  obtain ⟨c0, c1, b0, b1, b2, b3, b4, hS⟩ := HB.out
  by_cases ht0 : tn = 0
  · have HV := Lib.hid (sizeS_no (P := P) (Q := Q) (ts := ts) (bs := bs) (fun h => by have := h.t0; rw [HLT.out] at this; omega))
    subst ht0
    go_enter Try.func15, Try.ntmps15
    go_upto_region 1 with fail
    rw [EW.out, EG.out, EC.out]
    go_wp2_with fail
    go_ret
    exact ⟨by rw [HV.out]; rfl, hS⟩
  have d0 : ((tn : Int) == 0) = false := by simp; omega
  by_cases ht64 : 64 < tn
  · have HV := Lib.hid (sizeS_no (P := P) (Q := Q) (ts := ts) (bs := bs) (fun h => by have := h.t64; rw [HLT.out] at this; omega))
    have d1 : decide ((64 : Int) < tn) = true := decide_eq_true (by omega)
    go_enter Try.func15, Try.ntmps15
    go_upto_region 1 with fail
    rw [EW.out, EG.out, EC.out]
    go_wp2_with fail
    go_ret
    exact ⟨by rw [HV.out]; rfl, hS⟩
  have d1 : decide ((64 : Int) < tn) = false := decide_eq_false (by omega)
  by_cases hbt : bn = tn
  case neg =>
    have HV := Lib.hid (sizeS_no (P := P) (Q := Q) (ts := ts) (bs := bs) (fun h => by have := h.b; rw [HLT.out, HLB.out] at this; omega))
    have d2 : ((bn : Int) != tn) = true := by simp; omega
    go_enter Try.func15, Try.ntmps15
    go_upto_region 1 with fail
    rw [EW.out, EG.out, EC.out]
    go_wp2_with fail
    go_ret
    exact ⟨by rw [HV.out]; rfl, hS⟩
  subst hbt
  have d2 : ((bn : Int) != bn) = false := by simp
  go_enter Try.func15, Try.ntmps15
  go_upto_region 1 with fail
  rw [EW.out, EG.out, EC.out]
  go_wp2_with fail
  refine (cf_any P Q G H ra rn rc gx ta bn tc ts HU.out.1.1 HU.out.2.1 HU.out.2.2 w _ HB.out.2.2 (HT.out.same hS)).mono ?_
  rintro e1 w1 ⟨rfl, hT⟩
  by_cases hat : AllE P Q ts
  case neg =>
    have HV := Lib.hid (sizeS_no (P := P) (Q := Q) (ts := ts) (bs := bs) (fun h => hat h.te))
    rw [allB_no hat]
    clear hat
    go_wp2_with fail
    go_ret
    exact ⟨by rw [HV.out]; rfl, hS.trans hT⟩
  rw [allB_yes hat]
  have HAT := Lib.hid hat
  replace HB := Lib.hid (ClS.same HB.out hT)
  clear hat c0 c1 b0 b1 b2 b3 b4 hS hT d2
  obtain ⟨c0, c1, b0, b1, b2, b3, b4, hS⟩ := HB.out
  obtain ⟨mb, mo, hma, hmr⟩ := (HM.out.same hS).rows (by omega)
  subst hma
  obtain ⟨f0, n0, k0, hc0, hf0⟩ := hmr 0 (by omega)
  rw [Nat.add_zero] at hc0
  have HN0 := Lib.hid (show wide bs = n0 from hf0.len)
  have hn0s := hf0.small
  have hbn0 : (0 : Int) < bn := by omega
  have hbn1 : 0 < bn := by omega
  clear hmr hf0
  go_wp2_with fail
  go_loopw [43] (fun s43 wr => ∃ j : Nat, s43 = .int .i64 j ∧ j ≤ bn ∧ Hid (∀ i, i < j → wide bs ≤ 64 ∧ RowFit P Q (wide bs) (bs.getD i [])) ∧ Same w1 wr) (fun s43 _ => bn - (intOf s43).toNat)
  case atStart => exact ⟨0, rfl, by omega, fun i hi => by omega, Same.refl _⟩
  case round =>
    obtain ⟨j, rfl, hj, hup, hD⟩ := hrel
    have HBr := Lib.hid (ClS.same HB.out hD)
    clear c0 c1 b0 b1 b2 b3 b4 hc0 hbn0 hbn1
    by_cases hlt : j < bn
    · obtain ⟨mb2, mo2, hma2, hmr⟩ := (HM.out.same (hS.trans hD)).rows (by omega)
      injection hma2 with hma3
      injection hma3 with e1 e2 e3
      subst e1 e2
      obtain ⟨fa, fn, fc, hc, hf⟩ := hmr j hlt
      have HF := Lib.hid hf
      have HFL := Lib.hid hf.len
      have hfs := hf.small
      obtain ⟨row, hrow⟩ : ∃ row, bs.getD j [] = row := ⟨_, rfl⟩
      rw [hrow] at HF HFL
      have HROW := Lib.hid hrow
      clear hmr hf hrow e3
      by_cases hfn : fn = n0
      case neg =>
        have d3 : ((fn : Int) != n0) = true := by simp; omega
        have HV := Lib.hid (sizeS_no (P := P) (Q := Q) (ts := ts) (bs := bs) (fun h => hfn (by have := (h.rows j (by rw [HLB.out]; exact hlt)).1; rw [HROW.out, HFL.out, HN0.out] at this; exact this)))
        go_wp2_with fail
        go_ret
        exact ⟨by rw [HV.out]; rfl, hS.trans hD⟩
      subst hfn
      by_cases h64 : 64 < fn
      · have d4 : decide ((64 : Int) < fn) = true := decide_eq_true (by omega)
        have HV := Lib.hid (sizeS_no (P := P) (Q := Q) (ts := ts) (bs := bs) (fun h => by have := h.n64; rw [HN0.out] at this; omega))
        go_wp2_with fail
        go_ret
        exact ⟨by rw [HV.out]; rfl, hS.trans hD⟩
      have d4 : decide ((64 : Int) < fn) = false := decide_eq_false (by omega)
      go_wp2_with fail
      refine (cf_any P Q G H ra rn rc gx fa fn fc row HU.out.1.1 HU.out.2.1 HU.out.2.2 w _ HBr.out.2.2 HF.out).mono ?_
      rintro e1 w2 ⟨rfl, hT⟩
      by_cases har : AllE P Q row
      case neg =>
        have HV := Lib.hid (sizeS_no (P := P) (Q := Q) (ts := ts) (bs := bs) (fun h => har (by have := (h.rows j (by rw [HLB.out]; exact hlt)).2; rw [HROW.out] at this; exact this)))
        rw [allB_no har]
        clear har
        go_wp2_with fail
        go_ret
        exact ⟨by rw [HV.out]; rfl, hS.trans (hD.trans hT)⟩
      rw [allB_yes har]
      have hup2 : Hid (∀ i, i < j + 1 → wide bs ≤ 64 ∧ RowFit P Q (wide bs) (bs.getD i [])) := fun i hi => by
        by_cases e : i = j
        · subst e; rw [HROW.out, HN0.out]; exact ⟨by omega, HFL.out, har⟩
        · exact hup.out i (by omega)
      clear har hup hc
      go_wp2_with fail
      go_roundw
      case rel => exact ⟨j + 1, by go_num, by omega, hup2, hD.trans hT⟩
      case measure => simp [intOf]; omega
    · obtain rfl : j = bn := by omega
      have HV := Lib.hid (size_end (P := P) (Q := Q) (ts := ts) (bs := bs) (by rw [HLT.out]; omega) (by rw [HLT.out]; omega) (by rw [HLT.out, HLB.out]) HAT.out (by rw [HLB.out]; exact hup.out))
      clear hup
      go_wp2_with fail
      go_ret
      exact ⟨by rw [HV.out, HN0.out]; rfl, hS.trans hD⟩
end Go.Proofs.Ytlnkpbaibnfhhaa
