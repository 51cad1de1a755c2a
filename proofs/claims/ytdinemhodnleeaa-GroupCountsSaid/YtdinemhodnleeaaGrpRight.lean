/- group.Right: is it a group? -/
import Derived.Test.YtdinemhodnleeaaGrpIn
import Derived.Test.YtdinemhodnleeaaAll
set_option linter.unusedVariables false
set_option linter.unusedSimpArgs false
namespace Go.Proofs.Ytdinemhodnleeaa
open Go.RowKit NT
set_option maxHeartbeats 2000000 in
theorem right_any (P Q G H : Int) (ra : Option Addr) (rn rc : Nat) (rs : List RowD) (hP : U64 P) (hQ : U64 Q) (hG : U64 G) (hH : U64 H) (w : World) (h : RowsAt w ra rn rs) :
    Calls Try.prog 8 #[.agg #[.int .u64 P, .int .u64 Q, .int .u64 G, .int .u64 H, .slice ra rn rc]] w fun z w' => z = .returned (.bool (grpB P Q G H rs)) ∧ Same w w' := by
  obtain ⟨W, bx, eW, eb, hS, c0, c1, c2, c3, c4⟩ := par_box w P Q G H (.slice ra rn rc)
  have EW := Lib.hid eW
  have EB := Lib.hid eb
  clear eW eb
  have h1 := h.same hS
  obtain ⟨P0, P1⟩ := hP
  obtain ⟨Q0, Q1⟩ := hQ
  obtain ⟨G0, G1⟩ := hG
  obtain ⟨H0, H1⟩ := hH
  clear h
  by_cases g1 : 5 ≤ Q
  case neg =>
    have hb := grpB_no (P := P) (Q := Q) (G := G) (H := H) (rs := rs) (fun h => by exact g1 h.1)
    have HB := Lib.hid hb
    have d1 : decide (Q < 5) = true := decide_eq_true (by omega)
    clear hb
    go_enter Try.func8, Try.ntmps8
    go_upto_region 1 with fail
    rw [EW.out, EB.out]
    go_wp2_with fail
    go_ret
    exact ⟨ret_bool HB.out.symm, hS⟩
  have d1 : decide (Q < 5) = false := decide_eq_false (by omega)
  by_cases g2 : Q < 2305843009213693952
  case neg =>
    have hb := grpB_no (P := P) (Q := Q) (G := G) (H := H) (rs := rs) (fun h => by exact g2 h.2.1)
    have HB := Lib.hid hb
    have d2 : decide ((2305843009213693951 : Int) < Q) = true := decide_eq_true (by omega)
    clear hb
    go_enter Try.func8, Try.ntmps8
    go_upto_region 1 with fail
    rw [EW.out, EB.out]
    go_wp2_with fail
    go_ret
    exact ⟨ret_bool HB.out.symm, hS⟩
  have d2 : decide ((2305843009213693951 : Int) < Q) = false := decide_eq_false (by omega)
  by_cases g3 : P = 2 * Q + 1
  case neg =>
    have hb := grpB_no (P := P) (Q := Q) (G := G) (H := H) (rs := rs) (fun h => by exact g3 h.2.2.1)
    have HB := Lib.hid hb
    have d3 : ((P : Int) != 2 * Q + 1) = true := by rw [bne_iff_ne]; exact g3
    clear g3
    clear hb
    go_enter Try.func8, Try.ntmps8
    go_upto_region 1 with fail
    rw [EW.out, EB.out]
    go_wp2_with fail
    go_ret
    exact ⟨ret_bool HB.out.symm, hS⟩
  have d3 : ((P : Int) != 2 * Q + 1) = false := by rw [← g3]; simp
  have G3 := Lib.hid g3
  clear g3
  by_cases g4 : G = H
  case pos =>
    have hb := grpB_no (P := P) (Q := Q) (G := G) (H := H) (rs := rs) (fun h => by exact h.2.2.2.2.2.2.2.2.2 g4)
    have HB := Lib.hid hb
    have d4 : ((G : Int) == H) = true := by rw [beq_iff_eq]; exact g4
    clear g4
    clear hb
    go_enter Try.func8, Try.ntmps8
    go_upto_region 1 with fail
    rw [EW.out, EB.out]
    go_wp2_with fail
    go_ret
    exact ⟨ret_bool HB.out.symm, hS⟩
  have d4 : ((G : Int) == H) = false := beq_eq_false_iff_ne.2 g4
  have G4 := Lib.hid g4
  clear g4
  go_enter Try.func8, Try.ntmps8
  go_upto_region 1 with fail
  rw [EW.out, EB.out]
  go_wp2_with fail
  obtain ⟨W2, eW2⟩ : ∃ W2, W.alloc (.cells #[.int .u64 G, .int .u64 H] 22) = W2 := ⟨_, rfl⟩
  obtain ⟨b2, eb2⟩ : ∃ b2, W.heap.size = b2 := ⟨_, rfl⟩
  have hS2 : Same W W2 := by rw [← eW2]; exact (Same.refl W).alloc _
  have l0 : W2.cell? ⟨b2, 0, none⟩ = some (.int .u64 G) := by rw [← eW2, ← eb2]; simp [World.cell?_alloc_new]
  have l1 : W2.cell? ⟨b2, 1, none⟩ = some (.int .u64 H) := by rw [← eW2, ← eb2]; simp [World.cell?_alloc_new]
  rw [eW2, eb2]
  clear eW2 eb2
  have c0' := same_cell hS2 c0
  have c1' := same_cell hS2 c1
  have c2' := same_cell hS2 c2
  have c3' := same_cell hS2 c3
  have c4' := same_cell hS2 c4
  clear c0 c1 c2 c3 c4
  go_loopw [35] (fun s wr => ∃ i : Nat, s = .int .i64 i ∧ i ≤ 2 ∧ Hid (1 ≤ i → G ≠ 1 ∧ InP P Q G) ∧ Hid (2 ≤ i → H ≠ 1 ∧ InP P Q H) ∧ Same W2 wr) (fun s _ => 2 - (intOf s).toNat)
  case atStart => exact ⟨0, rfl, by omega, fun h => by omega, fun h => by omega, Same.refl W2⟩
  case round =>
    obtain ⟨i, rfl, hi, hg, hh, hT⟩ := hrel
    have c0'' := same_cell hT c0'
    have c1'' := same_cell hT c1'
    have c2'' := same_cell hT c2'
    have c3'' := same_cell hT c3'
    have c4'' := same_cell hT c4'
    by_cases hlt : i < 2
    · obtain ⟨X, lx, X0, X1, hX⟩ : ∃ X : Int, W2.cell? ⟨b2, i, none⟩ = some (.int .u64 X) ∧ 0 ≤ X ∧ X < 18446744073709551616 ∧ Hid ((i = 0 ∧ X = G) ∨ (i = 1 ∧ X = H)) := by
        match i, hlt with
        | 0, _ => exact ⟨G, l0, G0, G1, .inl ⟨rfl, rfl⟩⟩
        | 1, _ => exact ⟨H, l1, H0, H1, .inr ⟨rfl, rfl⟩⟩
      have lx' := same_cell hT lx
      by_cases e1 : X = 1
      · have hb := grpB_no (P := P) (Q := Q) (G := G) (H := H) (rs := rs) (fun h => by
          rcases hX.out with ⟨_, e⟩ | ⟨_, e⟩
          · exact h.2.2.2.2.2.2.2.1 (e ▸ e1)
          · exact h.2.2.2.2.2.2.2.2.1 (e ▸ e1))
        have HB := Lib.hid hb
        have b1 : ((X : Int) == 1) = true := by rw [e1]; rfl
        clear hb e1 c0' c1' c2' c3' c4' l0 l1
        go_wp2_with fail
        go_ret
        exact ⟨ret_bool HB.out.symm, hS.trans (hS2.trans hT)⟩
      · have b1 : ((X : Int) == 1) = false := beq_eq_false_iff_ne.2 e1
        have E1 := Lib.hid e1
        clear e1
        go_wp2_with fail
        refine (in_any P Q G H ra rn rc X P0 Q0 Q1 X0 _).mono ?_
        rintro e1 w1 ⟨rfl, hT1⟩
        have hT2 : Same W2 w1 := hT.trans hT1
        by_cases k2 : InP P Q X
        case neg =>
          rw [inB_no k2]
          have hb := grpB_no (P := P) (Q := Q) (G := G) (H := H) (rs := rs) (fun h => by
            rcases hX.out with ⟨_, e⟩ | ⟨_, e⟩
            · exact k2 (e ▸ h.2.2.2.2.2.1)
            · exact k2 (e ▸ h.2.2.2.2.2.2.1))
          have HB := Lib.hid hb
          clear hb k2
          go_wp2_with fail
          go_ret
          exact ⟨ret_bool HB.out.symm, hS.trans (hS2.trans hT2)⟩
        rw [inB_yes k2]
        have K2 := Lib.hid k2
        clear k2
        go_wp2_with fail
        go_roundw
        case rel =>
          refine ⟨i + 1, by go_num, by omega, fun _ => ?_, fun h2 => ?_, hT2⟩
          · by_cases h0 : 1 ≤ i
            · exact hg.out h0
            · rcases hX.out with ⟨_, e⟩ | ⟨_, e⟩
              · exact e ▸ ⟨E1.out, K2.out⟩
              · omega
          · rcases hX.out with ⟨_, e⟩ | ⟨_, e⟩
            · omega
            · exact e ▸ ⟨E1.out, K2.out⟩
        case measure => simp [intOf]; omega
    · obtain rfl : i = 2 := by omega
      obtain ⟨n1, k2⟩ := hg.out (by omega)
      obtain ⟨n2, k3⟩ := hh.out (by omega)
      have N1 := Lib.hid n1
      have N2 := Lib.hid n2
      have K2 := Lib.hid k2
      have K3 := Lib.hid k3
      clear n1 n2 k2 k3 hg hh c0' c1' c2' c3' c4' l0 l1
      have hTT := hS2.trans hT
      go_wp2_with fail
      refine (proved_any P ra rn rc rs _ (h1.same hTT) ⟨P0, P1⟩).mono ?_
      rintro e1 w1 ⟨rfl, hT1⟩
      have hT2 := hT.trans hT1
      by_cases k0 : ProvedP P rs
      case neg =>
        rw [provedB_no k0]
        have hb := grpB_no (P := P) (Q := Q) (G := G) (H := H) (rs := rs) (fun h => k0 h.2.2.2.1)
        have HB := Lib.hid hb
        clear hb k0
        go_wp2_with fail
        go_ret
        exact ⟨ret_bool HB.out.symm, hS.trans (hS2.trans hT2)⟩
      rw [provedB_yes k0]
      have K0 := Lib.hid k0
      clear k0
      have d1' := same_cell hT1 c1''
      have d4' := same_cell hT1 c4''
      go_wp2_with fail
      refine (proved_any Q ra rn rc rs _ (h1.same (hS2.trans hT2)) ⟨Q0, Q1⟩).mono ?_
      rintro e1 w2 ⟨rfl, hT3⟩
      have hT4 := hT2.trans hT3
      have hb : grpB P Q G H rs = provedB Q rs := by
        by_cases k1 : ProvedP Q rs
        · rw [provedB_yes k1, grpB_yes ⟨g1, g2, G3.out, K0.out, k1, K2.out, K3.out, N1.out, N2.out, G4.out⟩]
        · rw [provedB_no k1, grpB_no (fun h => k1 h.2.2.2.2.1)]
      go_wp2_with fail
      go_ret
      exact ⟨ret_bool hb.symm, hS.trans (hS2.trans hT4)⟩
end Go.Proofs.Ytdinemhodnleeaa
