/- The law's Group: few rows, of few factors, and the group is right. -/
import Derived.Test.YtfoncfojljmimaaGrpB
import Derived.Test.YtfoncfojljmimaaPrimeN
import Derived.Test.YtfoncfojljmimaaRGrpRight
set_option linter.unusedVariables false
set_option linter.unusedSimpArgs false
namespace Go.Proofs.Ytfoncfojljmimaa
open Go.RowKit NT
theorem getD_mem {xs : List Int} {f : Int} (h : f ∈ xs) : ∃ i, xs.getD i 0 = f := by
  obtain ⟨i, hi, e⟩ := List.getElem_of_mem h
  exact ⟨i, by simp [List.getD, hi, e]⟩
theorem rows_fine {w : World} {a : Option Addr} {n : Nat} {rs : List RowD} (h : RowsAt w a n rs) : Fine rs := by
  intro i
  by_cases hi : i < n
  · obtain ⟨b, off, _, hr⟩ := h.rows (by omega)
    obtain ⟨fa, fn, fc, _, hf⟩ := (hr i hi).f
    refine ⟨fun f hm => ?_, hf.bd⟩
    obtain ⟨j, e⟩ := getD_mem hm
    rw [← e]
    exact (hf.bd j).1
  · have : rs.getD i default = default := by simp [List.getD, List.getElem?_eq_none (show rs.length ≤ i by rw [h.len]; omega)]
    rw [this]
    exact ⟨fun f hm => (by cases hm), fun j => ⟨by simp [default], by simp [default]⟩⟩
/-- few rows, of few factors -/
def SmallP (rs : List RowD) : Prop := rs.length ≤ 80 ∧ ∀ i, i < rs.length → (rs.getD i default).f.length ≤ 40
noncomputable def smallB (rs : List RowD) : Bool := open Classical in decide (SmallP rs)
theorem smallB_yes {rs : List RowD} (h : SmallP rs) : smallB rs = true := by unfold smallB; classical exact decide_eq_true h
theorem smallB_no {rs : List RowD} (h : ¬ SmallP rs) : smallB rs = false := by unfold smallB; classical exact decide_eq_false h
/-- few rows, of few factors, of a group that is right -/
def GoodP (P Q G H : Int) (rs : List RowD) : Prop := SmallP rs ∧ RightP P Q G H rs
noncomputable def goodB (P Q G H : Int) (rs : List RowD) : Bool := open Classical in decide (GoodP P Q G H rs)
theorem goodB_yes {P Q G H : Int} {rs : List RowD} (h : GoodP P Q G H rs) : goodB P Q G H rs = true := by unfold goodB; classical exact decide_eq_true h
theorem goodB_no {P Q G H : Int} {rs : List RowD} (h : ¬ GoodP P Q G H rs) : goodB P Q G H rs = false := by unfold goodB; classical exact decide_eq_false h
theorem goodB_eq {P Q G H : Int} {rs : List RowD} (h : SmallP rs) : grpB P Q G H rs = goodB P Q G H rs := by
  by_cases hr : RightP P Q G H rs
  · rw [grpB_yes hr, goodB_yes ⟨h, hr⟩]
  · rw [grpB_no hr, goodB_no (fun k => hr k.2)]
set_option maxHeartbeats 800000 in
theorem group5_any (P Q G H : Int) (a : Option Addr) (n cap : Nat) (rs : List RowD) (hP : U64 P) (hQ : U64 Q) (hG : U64 G) (hH : U64 H) (w0 : World) (h0 : RowsAt w0 a n rs) :
    Calls Try.prog 10 #[.agg #[.int .u64 P, .int .u64 Q, .int .u64 G, .int .u64 H, .slice a n cap]] w0 fun e w' => e = .returned (.bool (goodB P Q G H rs)) ∧ Same w0 w' := by
  obtain ⟨w, bx, eW, eb, hS0, c0, c1, c2, c3, c4⟩ := par_box w0 P Q G H (.slice a n cap)
  have EW := Lib.hid eW
  have EB := Lib.hid eb
  clear eW eb
  have HU := Lib.hid (And.intro hP (And.intro hQ (And.intro hG hH)))
  clear hP hQ hG hH
  have h := h0.same hS0
  clear h0
  have hlen := h.len
  have hsmall := h.small
  have HLen := Lib.hid hlen
  clear hlen
  by_cases hn : n ≤ 80
  · have h64 : decide ((80 : Int) < n) = false := decide_eq_false (by omega)
    go_enter Try.func10, Try.ntmps10
    go_upto_region 1 with fail
    rw [EW.out, EB.out]
    go_wp2_with fail
    go_loopw [12] (fun s12 wr => ∃ i : Nat, s12 = .int .i64 i ∧ i ≤ n ∧ Hid (∀ j, j < i → (rs.getD j default).f.length ≤ 40) ∧ Same w wr) (fun s12 _ => n - (intOf s12).toNat)
    case atStart => exact ⟨0, rfl, by omega, fun j hj => by omega, Same.refl w⟩
    case round =>
      obtain ⟨i, rfl, hi, hup, hS⟩ := hrel
      by_cases hlt : i < n
      · obtain ⟨b, off, ha, hrows⟩ := h.rows (by omega)
        subst ha
        have hrow := (hrows i hlt).same hS
        obtain ⟨r, hr⟩ : ∃ r, r = rs.getD i default := ⟨_, rfl⟩
        rw [← hr] at hrow
        obtain ⟨r0, r1, ⟨fa, fn, fc, r2, hf⟩, hnb, hab⟩ := hrow
        have hfl := hf.len
        have hfs := hf.small
        by_cases h40 : fn ≤ 40
        · have d40 : decide ((40 : Int) < fn) = false := decide_eq_false (by omega)
          have hup2 : Hid (∀ j, j < i + 1 → (rs.getD j default).f.length ≤ 40) := fun j hj => by
            by_cases e : j = i
            · subst e; rw [← hr, hfl]; exact h40
            · exact hup.out j (by omega)
          clear hr hrows hup hf hfl hnb hab
          go_wp2_with fail
          go_roundw
          case rel => exact ⟨i + 1, by go_num, by omega, hup2, hS.alloc _⟩
          case measure => simp [intOf]; omega
        · have d40 : decide ((40 : Int) < fn) = true := decide_eq_true (by omega)
          have hb := goodB_no (P := P) (Q := Q) (G := G) (H := H) (rs := rs) (fun hA => h40 (by have := hA.1.2 i (by rw [HLen.out]; exact hlt); rw [← hr, hfl] at this; exact this))
          have HB := Lib.hid hb
          clear hr hrows hup hf hfl hnb hab hb h40
          go_wp2_with fail
          go_ret
          exact ⟨ret_bool HB.out.symm, hS0.trans (hS.alloc _)⟩
      · obtain rfl : i = n := by omega
        have hb := goodB_eq (P := P) (Q := Q) (G := G) (H := H) (rs := rs) ⟨by rw [HLen.out]; exact hn, by rw [HLen.out]; exact hup.out⟩
        have HB := Lib.hid hb
        have HW := Lib.hid (h.same hS)
        have k0 := same_cell hS c0
        have k1 := same_cell hS c1
        have k2 := same_cell hS c2
        have k3 := same_cell hS c3
        have k4 := same_cell hS c4
        clear hb hup h c0 c1 c2 c3 c4
        go_wp2_with fail
        refine (rright_any P Q G H a i cap rs HU.out.1 HU.out.2.1 HU.out.2.2.1 HU.out.2.2.2 _ HW.out).mono ?_
        rintro e1 w1 ⟨rfl, hT⟩
        rw [HB.out]
        go_wp2_with fail
        go_ret
        exact ⟨rfl, hS0.trans (hS.trans hT)⟩
  · have h64 : decide ((80 : Int) < n) = true := decide_eq_true (by omega)
    have hb := goodB_no (P := P) (Q := Q) (G := G) (H := H) (rs := rs) (fun hA => by have := hA.1.1; rw [HLen.out] at this; omega)
    have HB := Lib.hid hb
    clear hb hn
    go_enter Try.func10, Try.ntmps10
    go_upto_region 1 with fail
    rw [EW.out, EB.out]
    go_wp2_with fail
    go_ret
    exact ⟨ret_bool HB.out.symm, hS0⟩

end Go.Proofs.Ytfoncfojljmimaa
