/- The walk of GroupCounts. -/
import Derived.Test.YtdinemhodnleeaaLaw4
import Derived.Test.YtdinemhodnleeaaCountN
set_option linter.unusedVariables false
set_option linter.unusedSimpArgs false
namespace Go.Proofs.Ytdinemhodnleeaa
open Go.RowKit Go.Maps NT
set_option maxHeartbeats 1600000 in
theorem lawCounts (P Q G H : Int) (ra : Option Addr) (rn rc : Nat) (rs : List RowD) (hF : Fine rs) (hP : U64 P) (hQ : U64 Q) (hG : U64 G) (hH : U64 H) (w : World) (h : RowsAt w ra rn rs) :
    Calls Try.prog 5 #[.agg #[.int .u64 P, .int .u64 Q, .int .u64 G, .int .u64 H, .slice ra rn rc]] w fun e w' => e = .returned (.bool true) ∧ Same w w' := by
  obtain ⟨W, bx, eW, eb, hS, c0, c1, c2, c3, c4⟩ := par_box w P Q G H (.slice ra rn rc)
  have EW := Lib.hid eW
  have EB := Lib.hid eb
  clear eW eb
  have hB0 : BoxS W bx P Q G H ra rn rc W := ⟨c0, c1, c2, c3, c4, Same.refl W⟩
  have h1 := h.same hS
  clear h
  have HU := Lib.hid (And.intro hP (And.intro hQ (And.intro hG hH)))
  have HF := Lib.hid hF
  clear hP hQ hG hH hF c0 c1 c2 c3 c4
  go_enter Try.func5, Try.ntmps5
  go_upto_region 1 with fail
  rw [EW.out, EB.out]
  go_wp2_with fail
  refine (awake4 _).mono ?_
  rintro e1 w1 ⟨rfl, hS1⟩
  have hB1 := hB0.same hS1
  obtain ⟨b0, b1, b2, b3, b4, hS3⟩ := hB1
  clear hS1
  by_cases hp : P ≤ 3000
  case neg =>
    have d1 : decide ((3000 : Int) < P) = true := decide_eq_true (by omega)
    go_wp2_with fail
    go_ret
    exact ⟨rfl, hS.trans hS3⟩
  have d1 : decide ((3000 : Int) < P) = false := decide_eq_false (by omega)
  go_wp2_with fail
  refine (few_any P Q G H ra rn rc rs _ (h1.same hS3)).mono ?_
  rintro e1 w2 ⟨rfl, hS2⟩
  have hB2 := BoxS.same (W0 := W) ⟨b0, b1, b2, b3, b4, hS3⟩ hS2
  clear b0 b1 b2 b3 b4 hS2 hS3
  obtain ⟨b0, b1, b2, b3, b4, hS3⟩ := hB2
  by_cases hs : SmallP rs
  case neg =>
    rw [smallB_no hs]
    clear hs
    go_wp2_with fail
    go_ret
    exact ⟨rfl, hS.trans hS3⟩
  rw [smallB_yes hs]
  clear hs
  go_wp2_with fail
  refine (right_any P Q G H ra rn rc rs HU.out.1 HU.out.2.1 HU.out.2.2.1 HU.out.2.2.2 _ (h1.same hS3)).mono ?_
  rintro e1 w3 ⟨rfl, hS4⟩
  have hB3 := BoxS.same (W0 := W) ⟨b0, b1, b2, b3, b4, hS3⟩ hS4
  clear b0 b1 b2 b3 b4 hS3 hS4
  obtain ⟨b0, b1, b2, b3, b4, hS3⟩ := hB3
  by_cases hr : RightP P Q G H rs
  case neg =>
    rw [grpB_no hr]
    clear hr
    go_wp2_with fail
    go_ret
    exact ⟨rfl, hS.trans hS3⟩
  rw [grpB_yes hr]
  have HR := Lib.hid hr
  clear hr
  go_wp2_with fail
  have hB4 : BoxS W bx P Q G H ra rn rc w3 := ⟨b0, b1, b2, b3, b4, hS3⟩
  have HB4 := Lib.hid hB4
  have HP0 := HU.out.1.1
  have HQ0 := HU.out.2.1.1
  have HQ1 := HU.out.2.1.2
  clear b0 b1 b2 b3 b4 hS3 hB4
  go_loopw [3, 24] (fun s2 s24 wr => ∃ c : Int, ∃ j : Int, s2 = .int .u64 c ∧ s24 = .int .u64 j ∧ 0 ≤ j ∧ j ≤ P ∧ 0 ≤ c ∧ c ≤ j ∧ Hid (c = cnt (fun i => inB P Q i) j.toNat) ∧ Same w3 wr) (fun _ s24 _ => P.toNat - (intOf s24).toNat)
  case atStart => exact ⟨0, 0, rfl, rfl, by omega, HP0, by omega, by omega, rfl, Same.refl w3⟩
  case round =>
    obtain ⟨c, j, rfl, rfl, j0, j1, k0, k1, hc, hT⟩ := hrel
    obtain ⟨b0, b1, b2, b3, b4, hS3⟩ := HB4.out.same hT
    by_cases hlt : j < P
    · have d2 : decide (j < P) = true := decide_eq_true hlt
      go_wp2_with fail
      refine (in_any P Q G H ra rn rc j HP0 HQ0 HQ1 j0 _).mono ?_
      rintro e1 w4 ⟨rfl, hT2⟩
      by_cases hi : InP P Q j
      · rw [inB_yes hi]
        have hc2 : Hid (c + 1 = cnt (fun i => inB P Q i) (j + 1).toNat) := by
          have e : ((j.toNat : Nat) : Int) = j := by omega
          have hc0 := hc.out
          rw [show (j + 1).toNat = j.toNat + 1 by omega, cnt_yes (f := fun i => inB P Q i) (by show inB P Q ((j.toNat : Nat) : Int) = true; rw [e]; exact inB_yes hi)]
          refine Lib.hid ?_
          omega
        clear hi hc
        go_wp2_with fail
        go_roundw
        case rel => exact ⟨c + 1, j + 1, by go_num, by go_num, by omega, by omega, by omega, by omega, hc2, hT.trans hT2⟩
        case measure => simp [intOf]; omega
      · rw [inB_no hi]
        have hc2 : Hid (c = cnt (fun i => inB P Q i) (j + 1).toNat) := by
          have e : ((j.toNat : Nat) : Int) = j := by omega
          have hc0 := hc.out
          rw [show (j + 1).toNat = j.toNat + 1 by omega, cnt_no (f := fun i => inB P Q i) (by show inB P Q ((j.toNat : Nat) : Int) = false; rw [e]; exact inB_no hi)]
          refine Lib.hid ?_
          omega
        clear hi hc
        go_wp2_with fail
        go_roundw
        case rel => exact ⟨c, j + 1, by go_num, by go_num, by omega, by omega, by omega, by omega, hc2, hT.trans hT2⟩
        case measure => simp [intOf]; omega
    · have d2 : decide (j < P) = false := decide_eq_false hlt
      have hj : j = P := by omega
      have hcQ : Q = c := by
        have := hc.out
        rw [hj, elem_count HF.out HR.out] at this
        omega
      subst hcQ
      have hmm := @run_makeMap Try.prog
      have hT9 : Same wr (wr.alloc (.map #[] 0)) := (Same.refl wr).alloc _
      obtain ⟨f0, f1, f2, f3, f4, f5⟩ := (BoxS.same (W0 := W) ⟨b0, b1, b2, b3, b4, hS3⟩ hT9)
      clear hc hj
      go_wp2_with fail
      have hown0 := World.ownsMap_made (H := Unit) wr Try.prog 22 (plainElem (H := Unit) Try.prog 4)
      obtain ⟨B, hB⟩ : ∃ B, wr.heap.size = B := ⟨_, rfl⟩
      have hWB : W.heap.size ≤ B := by rw [← hB]; exact hS3.size
      obtain ⟨V, hV⟩ : ∃ V, wr.alloc (.map #[] 0) = V := ⟨_, rfl⟩
      rw [hV, hB] at hown0
      rw [hV] at f5
      rw [hV, hB]
      have HB00 := Lib.hid hB0
      have HO := Lib.hid hown0
      clear hmm hT9 f0 f1 f2 f3 f4 b0 b1 b2 b3 b4 hown0 hV hB hT HB4 hB0
      go_loopw [36] (fun s wl => ∃ e : Int, ∃ D : DataW Unit, s = .int .u64 e ∧ 0 ≤ e ∧ e ≤ Q ∧ Hid (wl.ownsMap Try.prog 22 (plainElem Try.prog 4) B e.toNat D) ∧ Hid (Tidy D ∧ Maps.size D = e.toNat ∧ ∀ kl, Maps.has D kl = true → ∃ i : Nat, i < e.toNat ∧ kl = .int .u64 (expI Q P G i)) ∧ Same W wl) (fun s _ => Q.toNat - (intOf s).toNat)
      case atStart => exact ⟨0, _, rfl, by omega, HQ0, HO.out, ⟨tidy_empty, rfl, fun kl h => by cases h⟩, f5⟩
      case round =>
        obtain ⟨e, D, rfl, k2, k3, hown, hkeys, hT⟩ := hrel
        obtain ⟨g0, g1, g2, g3, g4, g5⟩ := HB00.out.same hT
        by_cases hlt2 : e < Q
        · have d3 : decide (e < Q) = true := decide_eq_true hlt2
          go_wp2_with fail
          refine (exp_any P Q G H ra rn rc G e HP0 HQ0 HQ1 HU.out.2.2.1.1 k2 (by omega) _).mono ?_
          rintro e1 w4 ⟨rfl, hT4⟩
          have hown4 := hown.out.kept (hT4.grown none) (by simp)
          have hnew : Maps.has D (.int .u64 (expI Q P G e)) = false := by
            cases hh : Maps.has D (.int .u64 (expI Q P G e)) with
            | false => rfl
            | true =>
              obtain ⟨i, hi, ei⟩ := hkeys.out.2.2 _ hh
              exact absurd (by injection ei) (exp_inj HF.out HR.out hlt2 hi)
          have hvu := expI_u Q P G e
          obtain ⟨v, hv⟩ : ∃ v, expI Q P G e = v := ⟨_, rfl⟩
          rw [hv] at hnew hvu
          rw [hv]
          have HV := Lib.hid hv
          have HNew := Lib.hid hnew
          have HT5 := Lib.hid (hT.trans hT4)
          clear hv hnew g0 g1 g2 g3 g4 g5 hT hT4
          go_wp2_with (at_mapUpdate; refine wpList_mapUpdate_own _ rfl _ _ _ 31 rfl 22 4 lawU Try.underlying31 _ B e.toNat D rfl hown4 (by unfold maxLen; omega) (.int .u64 v) (.bool true) (.int .u64 v) rfl rfl (keyU hvu) (.lit (.bool true)) [] (plainElem_bool Try.underlying4 true) ?_)
          intro w5 hown5 hgrow5
          have hT6 := below_of_grown HT5.out hgrow5 hWB
          have hk2 : Hid (Tidy (D.put (.int .u64 v) (.lit (.bool true))) ∧ Maps.size (D.put (.int .u64 v) (.lit (.bool true))) = (e + 1).toNat ∧ ∀ kl, Maps.has (D.put (.int .u64 v) (.lit (.bool true))) kl = true → ∃ i : Nat, i < (e + 1).toNat ∧ kl = .int .u64 (expI Q P G i)) := by
            obtain ⟨t1, t2, t3⟩ := hkeys.out
            refine ⟨t1.put (k := Lit.int .u64 v) trivial _, ?_, fun kl hh => ?_⟩
            · rw [Maps.size_put t1, HNew.out, t2]
              simp; omega
            · by_cases ek : kl = .int .u64 v
              · exact ⟨e.toNat, by omega, by rw [ek, ← HV.out, show ((e.toNat : Nat) : Int) = e by omega]⟩
              · rw [Maps.has_put_other ek] at hh
                obtain ⟨i, hi, ei⟩ := t3 kl hh
                exact ⟨i, by omega, ei⟩
          have HO5 : Hid (w5.ownsMap Try.prog 22 (plainElem Try.prog 4) B (e + 1).toNat (D.put (.int .u64 v) (.lit (.bool true)))) := by
            rw [show (e + 1).toNat = e.toNat + 1 by omega]; exact hown5
          clear hown5 hgrow5 hown4 hown hkeys
          go_wp2_with fail
          go_roundw
          case rel => exact ⟨e + 1, _, by go_num, by omega, by omega, HO5, hk2, hT6⟩
          case measure => simp [intOf]; omega
        · have d3 : decide (e < Q) = false := decide_eq_false hlt2
          have he : e = Q := by omega
          have hlen := hown.out.len (t := 31) Try.underlying31 3
          rw [hkeys.out.2.1, show ((e.toNat : Nat) : Int) = Q by omega] at hlen
          clear he
          go_wp2_with fail
          go_ret
          exact ⟨ret_bool (by simp), hS.trans hT⟩
end Go.Proofs.Ytdinemhodnleeaa
