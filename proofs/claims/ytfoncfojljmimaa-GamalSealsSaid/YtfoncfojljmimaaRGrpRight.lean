/- The reference's Right: is it a group? -/
import Derived.Test.YtfoncfojljmimaaRGrpIn
import Derived.Test.YtfoncfojljmimaaRef2B
set_option linter.unusedVariables false
set_option linter.unusedSimpArgs false
namespace Go.Proofs.Ytfoncfojljmimaa
open Go.RowKit NT
set_option maxHeartbeats 2000000 in
theorem rright_any (P Q G H : Int) (ra : Option Addr) (rn rc : Nat) (rs : List RowD) (hP : U64 P) (hQ : U64 Q) (hG : U64 G) (hH : U64 H) (w : World) (h : RowsAt w ra rn rs) :
    Calls Try.prog 32 #[.agg #[.int .u64 P, .int .u64 Q, .int .u64 G, .int .u64 H, .slice ra rn rc]] w fun z w' => z = .returned (.bool (grpB P Q G H rs)) ∧ Same w w' := by
  obtain ⟨W, bx, eW, eb, hS, c0, c1, c2, c3, c4⟩ := par_box w P Q G H (.slice ra rn rc)
  have EW := Lib.hid eW
  have EB := Lib.hid eb
  clear eW eb
  have h1 := h.same hS
  obtain ⟨P0, P1⟩ := hP
  obtain ⟨Q0, Q1⟩ := hQ
  obtain ⟨G0, G1⟩ := hG
  obtain ⟨H0, H1⟩ := hH
  clear h
  by_cases g1 : 5 ≤ Q
  case neg =>
    have hb := grpB_no (P := P) (Q := Q) (G := G) (H := H) (rs := rs) (fun h => by exact g1 h.1)
    have HB := Lib.hid hb
    have d1 : decide (Q < 5) = true := decide_eq_true (by omega)
    clear hb
    go_enter Try.func32, Try.ntmps32
    go_upto_region 1 with fail
    rw [EW.out, EB.out]
    go_wp2_with fail
    go_ret
    exact ⟨ret_bool HB.out.symm, hS⟩
  have d1 : decide (Q < 5) = false := decide_eq_false (by omega)
  by_cases g2 : Q < 2305843009213693952
  case neg =>
    have hb := grpB_no (P := P) (Q := Q) (G := G) (H := H) (rs := rs) (fun h => by exact g2 h.2.1)
    have HB := Lib.hid hb
    have d2 : decide ((2305843009213693952 : Int) ≤ Q) = true := decide_eq_true (by omega)
    clear hb
    go_enter Try.func32, Try.ntmps32
    go_upto_region 1 with fail
    rw [EW.out, EB.out]
    go_wp2_with fail
    go_ret
    exact ⟨ret_bool HB.out.symm, hS⟩
  have d2 : decide ((2305843009213693952 : Int) ≤ Q) = false := decide_eq_false (by omega)
  by_cases g3 : P = 2 * Q + 1
  case neg =>
    have hb := grpB_no (P := P) (Q := Q) (G := G) (H := H) (rs := rs) (fun h => by exact g3 h.2.2.1)
    have HB := Lib.hid hb
    have d3 : ((P : Int) != 2 * Q + 1) = true := by rw [bne_iff_ne]; exact g3
    clear g3
    clear hb
    go_enter Try.func32, Try.ntmps32
    go_upto_region 1 with fail
    rw [EW.out, EB.out]
    go_wp2_with fail
    go_ret
    exact ⟨ret_bool HB.out.symm, hS⟩
  have d3 : ((P : Int) != 2 * Q + 1) = false := by rw [← g3]; simp
  have G3 := Lib.hid g3
  clear g3
  go_enter Try.func32, Try.ntmps32
  go_upto_region 1 with fail
  rw [EW.out, EB.out]
  have hS0 : Same W W := Same.refl W
  go_wp2_with fail
  refine (rproved_any P ra rn rc rs _ (h1.same hS0) ⟨P0, P1⟩).mono ?_
  rintro e1 w1 ⟨rfl, hT1⟩
  have hS1 : Same W w1 := hS0.trans hT1
  by_cases k0 : ProvedP P rs
  case neg =>
    rw [provedB_no k0]
    have hb := grpB_no (P := P) (Q := Q) (G := G) (H := H) (rs := rs) (fun h => k0 h.2.2.2.1)
    have HB := Lib.hid hb
    clear hb k0
    go_wp2_with fail
    go_ret
    exact ⟨ret_bool HB.out.symm, hS.trans hS1⟩
  rw [provedB_yes k0]
  have K0 := Lib.hid k0
  clear k0 hT1
  have c0' := same_cell hS1 c0
  have c1' := same_cell hS1 c1
  have c2' := same_cell hS1 c2
  have c3' := same_cell hS1 c3
  have c4' := same_cell hS1 c4
  go_wp2_with fail
  refine (rproved_any Q ra rn rc rs _ (h1.same hS1) ⟨Q0, Q1⟩).mono ?_
  rintro e1 w2 ⟨rfl, hT2⟩
  have hS2 : Same W w2 := hS1.trans hT2
  by_cases k1 : ProvedP Q rs
  case neg =>
    rw [provedB_no k1]
    have hb := grpB_no (P := P) (Q := Q) (G := G) (H := H) (rs := rs) (fun h => k1 h.2.2.2.2.1)
    have HB := Lib.hid hb
    clear hb k1
    go_wp2_with fail
    go_ret
    exact ⟨ret_bool HB.out.symm, hS.trans hS2⟩
  rw [provedB_yes k1]
  have K1 := Lib.hid k1
  clear k1 hT2
  have c0'' := same_cell hS2 c0
  have c1'' := same_cell hS2 c1
  have c2'' := same_cell hS2 c2
  have c3'' := same_cell hS2 c3
  have c4'' := same_cell hS2 c4
  clear c0' c1' c2' c3' c4'
  go_wp2_with fail
  refine (rin_any P Q G H ra rn rc G P0 Q0 Q1 G0 _).mono ?_
  rintro e1 w3 ⟨rfl, hT3⟩
  have hS3 : Same W w3 := hS2.trans hT3
  by_cases k2 : InP P Q G
  case neg =>
    rw [inB_no k2]
    have hb := grpB_no (P := P) (Q := Q) (G := G) (H := H) (rs := rs) (fun h => k2 h.2.2.2.2.2.1)
    have HB := Lib.hid hb
    clear hb k2
    go_wp2_with fail
    go_ret
    exact ⟨ret_bool HB.out.symm, hS.trans hS3⟩
  rw [inB_yes k2]
  have K2 := Lib.hid k2
  clear k2 hT3
  have c0''' := same_cell hS3 c0
  have c1''' := same_cell hS3 c1
  have c2''' := same_cell hS3 c2
  have c3''' := same_cell hS3 c3
  have c4''' := same_cell hS3 c4
  clear c0'' c1'' c2'' c3'' c4''
  go_wp2_with fail
  refine (rin_any P Q G H ra rn rc H P0 Q0 Q1 H0 _).mono ?_
  rintro e1 w4 ⟨rfl, hT4⟩
  have hS4 : Same W w4 := hS3.trans hT4
  by_cases k3 : InP P Q H
  case neg =>
    rw [inB_no k3]
    have hb := grpB_no (P := P) (Q := Q) (G := G) (H := H) (rs := rs) (fun h => k3 h.2.2.2.2.2.2.1)
    have HB := Lib.hid hb
    clear hb k3
    go_wp2_with fail
    go_ret
    exact ⟨ret_bool HB.out.symm, hS.trans hS4⟩
  rw [inB_yes k3]
  have K3 := Lib.hid k3
  clear k3 hT4
  have c0'''' := same_cell hS4 c0
  have c1'''' := same_cell hS4 c1
  have c2'''' := same_cell hS4 c2
  have c3'''' := same_cell hS4 c3
  have c4'''' := same_cell hS4 c4
  clear c0''' c1''' c2''' c3''' c4'''
  have hb : grpB P Q G H rs = ((G != 1) && ((H != 1) && (G != H))) := by
    by_cases a1 : G = 1
    · rw [grpB_no (fun h => h.2.2.2.2.2.2.2.1 a1), a1]; rfl
    · by_cases a2 : H = 1
      · rw [grpB_no (fun h => h.2.2.2.2.2.2.2.2.1 a2), a2]; simp
      · by_cases a3 : G = H
        · rw [grpB_no (fun h => h.2.2.2.2.2.2.2.2.2 a3), a3]; simp
        · rw [grpB_yes ⟨g1, g2, G3.out, K0.out, K1.out, K2.out, K3.out, a1, a2, a3⟩, bne_iff_ne.2 a1, bne_iff_ne.2 a2, bne_iff_ne.2 a3]; rfl
  have HB := Lib.hid hb
  clear hb c0 c1 c2 c3 c4
  by_cases a1 : G = 1
  · have b1 : ((G : Int) != 1) = false := by rw [a1]; rfl
    clear a1
    go_wp2_with fail
    go_ret
    exact ⟨ret_bool (by rw [HB.out, b1]; rfl), hS.trans hS4⟩
  have b1 : ((G : Int) != 1) = true := bne_iff_ne.2 a1
  clear a1
  by_cases a2 : H = 1
  · have b2 : ((H : Int) != 1) = false := by rw [a2]; rfl
    clear a2
    go_wp2_with fail
    go_ret
    exact ⟨ret_bool (by rw [HB.out, b1, b2]; rfl), hS.trans hS4⟩
  have b2 : ((H : Int) != 1) = true := bne_iff_ne.2 a2
  clear a2
  go_wp2_with fail
  go_ret
  exact ⟨ret_bool (by rw [HB.out, b1, b2]; simp), hS.trans hS4⟩
end Go.Proofs.Ytfoncfojljmimaa
