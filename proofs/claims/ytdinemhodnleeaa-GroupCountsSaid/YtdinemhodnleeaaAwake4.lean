/- The law's few (few rows, of few factors) and awake. -/
import Derived.Test.YtdinemhodnleeaaAll
import Derived.Test.YtdinemhodnleeaaSmallA
import Derived.Test.YtdinemhodnleeaaGrpRight
import Derived.Test.YtdinemhodnleeaaGrpLay
import Derived.Test.YtdinemhodnleeaaGrpExp
import Derived.Test.YtdinemhodnleeaaGrpProd
import Derived.Outline
set_option linter.unusedVariables false
set_option linter.unusedSimpArgs false
namespace Go.Proofs.Ytdinemhodnleeaa
open Go.RowKit NT
theorem getD_mem {xs : List Int} {f : Int} (h : f ∈ xs) : ∃ i, xs.getD i 0 = f := by
  obtain ⟨i, hi, e⟩ := List.getElem_of_mem h
  exact ⟨i, by simp [List.getD, hi, e]⟩
theorem rows_fine {w : World} {a : Option Addr} {n : Nat} {rs : List RowD} (h : RowsAt w a n rs) : Fine rs := by
  intro i
  by_cases hi : i < n
  · obtain ⟨b, off, _, hr⟩ := h.rows (by omega)
    obtain ⟨fa, fn, fc, _, hf⟩ := (hr i hi).f
    refine ⟨fun f hm => ?_, hf.bd⟩
    obtain ⟨j, e⟩ := getD_mem hm
    rw [← e]
    exact (hf.bd j).1
  · have : rs.getD i default = default := by simp [List.getD, List.getElem?_eq_none (show rs.length ≤ i by rw [h.len]; omega)]
    rw [this]
    exact ⟨fun f hm => (by cases hm), fun j => ⟨by simp [default], by simp [default]⟩⟩
/-- few rows, of few factors -/
def SmallP (rs : List RowD) : Prop := rs.length ≤ 80 ∧ ∀ i, i < rs.length → (rs.getD i default).f.length ≤ 40
noncomputable def smallB (rs : List RowD) : Bool := open Classical in decide (SmallP rs)
theorem smallB_yes {rs : List RowD} (h : SmallP rs) : smallB rs = true := by unfold smallB; classical exact decide_eq_true h
theorem smallB_no {rs : List RowD} (h : ¬ SmallP rs) : smallB rs = false := by unfold smallB; classical exact decide_eq_false h
theorem few_any (P Q G H : Int) (a : Option Addr) (n cap : Nat) (rs : List RowD) (w0 : World) (h0 : RowsAt w0 a n rs) :
    Calls Try.prog 7 #[.agg #[.int .u64 P, .int .u64 Q, .int .u64 G, .int .u64 H, .slice a n cap]] w0 fun e w' => e = .returned (.bool (smallB rs)) ∧ Same w0 w' := by
  obtain ⟨w, bx, eW, eb, hS0, c0, c1, c2, c3, c4⟩ := par_box w0 P Q G H (.slice a n cap)
  have EW := Lib.hid eW
  have EB := Lib.hid eb
  clear eW eb c0 c1 c2 c3
  have h := h0.same hS0
  clear h0
  have hlen := h.len
  have hsmall := h.small
  have HLen := Lib.hid hlen
  clear hlen
  by_cases hn : n ≤ 80
  · have h64 : decide ((80 : Int) < n) = false := decide_eq_false (by omega)
    go_enter Try.func7, Try.ntmps7
    go_upto_region 1 with fail
    rw [EW.out, EB.out]
    go_wp2_with fail
    go_loopw [12] (fun s12 wr => ∃ i : Nat, s12 = .int .i64 i ∧ i ≤ n ∧ Hid (∀ j, j < i → (rs.getD j default).f.length ≤ 40) ∧ Same w wr) (fun s12 _ => n - (intOf s12).toNat)
    case atStart => exact ⟨0, rfl, by omega, fun j hj => by omega, Same.refl w⟩
    case round =>
      obtain ⟨i, rfl, hi, hup, hS⟩ := hrel
      by_cases hlt : i < n
      · obtain ⟨b, off, ha, hrows⟩ := h.rows (by omega)
        subst ha
        have hrow := (hrows i hlt).same hS
        obtain ⟨r, hr⟩ : ∃ r, r = rs.getD i default := ⟨_, rfl⟩
        rw [← hr] at hrow
        obtain ⟨c0, c1, ⟨fa, fn, fc, c2, hf⟩, hnb, hab⟩ := hrow
        have hfl := hf.len
        have hfs := hf.small
        by_cases h40 : fn ≤ 40
        · have d40 : decide ((40 : Int) < fn) = false := decide_eq_false (by omega)
          have hup2 : Hid (∀ j, j < i + 1 → (rs.getD j default).f.length ≤ 40) := fun j hj => by
            by_cases e : j = i
            · subst e; rw [← hr, hfl]; exact h40
            · exact hup.out j (by omega)
          clear hr hrows hup hf hfl hnb hab
          go_wp2_with fail
          go_roundw
          case rel => exact ⟨i + 1, by go_num, by omega, hup2, hS.alloc _⟩
          case measure => simp [intOf]; omega
        · have d40 : decide ((40 : Int) < fn) = true := decide_eq_true (by omega)
          have hb := smallB_no (rs := rs) (fun hA => h40 (by have := hA.2 i (by rw [HLen.out]; exact hlt); rw [← hr, hfl] at this; exact this))
          have HB := Lib.hid hb
          clear hr hrows hup hf hfl hnb hab hb h40
          go_wp2_with fail
          go_ret
          exact ⟨ret_bool HB.out.symm, hS0.trans (hS.alloc _)⟩
      · obtain rfl : i = n := by omega
        have hb := smallB_yes (rs := rs) ⟨by rw [HLen.out]; exact hn, by rw [HLen.out]; exact hup.out⟩
        have HB := Lib.hid hb
        clear hb hup
        go_wp2_with fail
        go_ret
        exact ⟨ret_bool HB.out.symm, hS0.trans hS⟩
  · have h64 : decide ((80 : Int) < n) = true := decide_eq_true (by omega)
    have hb := smallB_no (rs := rs) (fun hA => by have := hA.1; rw [HLen.out] at this; omega)
    have HB := Lib.hid hb
    clear hb hn
    go_enter Try.func7, Try.ntmps7
    go_upto_region 1 with fail
    rw [EW.out, EB.out]
    go_wp2_with fail
    go_ret
    exact ⟨ret_bool HB.out.symm, hS0⟩

theorem not4_6 : ¬ InP 2027 1013 (5 + 1) := by
  intro h
  have h1 : powI ((6 : Nat) : Int) ((1013 : Nat) : Int) ((2027 : Nat) : Int) = 1 := h.2.2
  rw [powI_num (a := 6) (e := 1013) (n := 2027) 2026 (by omega) (by omega) (by kernel_rfl)] at h1
  cases h1
theorem in4_2021 : InP 2027 1013 2021 := ⟨by decide, by decide, powI_num (a := 2021) (e := 1013) (n := 2027) 1 (by omega) (by omega) (by kernel_rfl)⟩
theorem exp4 : expI 1013 2027 4 1013 = 1 := powI_num (a := 4) (e := 0) (n := 2027) 1 (by omega) (by omega) rfl
theorem mulI_num {a b p : Nat} (v : Nat) (h2 : 2 ≤ p) (h1 : p ≤ 4611686018427387904) (h : a * b % p = v) : mulI (a : Int) (b : Int) (p : Int) = v := by
  unfold mulI
  simp only [Int.toNat_natCast]
  rw [mulS_yes ⟨by omega, by omega⟩, h]
theorem prod4 : prodI 2027 [4, 9] = 36 := by
  have h1 := mulI_num (a := 1) (b := 4) (p := 2027) 4 (by omega) (by omega) rfl
  have h2 := mulI_num (a := 4) (b := 9) (p := 2027) 36 (by omega) (by omega) rfl
  unfold prodI
  simp only [List.foldl]
  exact (congrArg (fun z => mulI z 9 2027) h1).trans h2
theorem awake4 (w : World) : Calls Try.prog 6 #[] w fun e w' => e = .returned (.bool true) ∧ Same w w' := by
  have H1 := Lib.hid (grpB_yes right4)
  have H2 := Lib.hid (layV_out (P := 2027) (Q := 1013) (k := 5) (by decide) not4_6)
  have H3 := Lib.hid (backV_high in4_2021 (by decide))
  have H4 := Lib.hid (inB_yes in4_2021)
  have H5 := Lib.hid exp4
  have H6 := Lib.hid prod4
  go_enter Try.func6, Try.ntmps6
  go_wp2_with fail
  refine (small4_any _).mono ?_
  rintro e1 w1 ⟨a, rfl, hr, hS1⟩
  obtain ⟨W, bx, eW, eb, hS, c0, c1, c2, c3, c4⟩ := par_box w1 2027 1013 4 9 (.slice a 5 5)
  have EW := Lib.hid eW
  have EB := Lib.hid eb
  clear eW eb
  have hr1 := hr.same hS
  go_wp2_with fail
  rw [EW.out, EB.out]
  refine (lay_any 2027 1013 4 9 a 5 5 5 rfl (by omega) (by omega) ⟨by omega, by omega⟩ _).mono ?_
  rintro e1 w2 ⟨rfl, hS2⟩
  rw [H2.out]
  have b0 := same_cell hS2 c0
  have b1 := same_cell hS2 c1
  have b2 := same_cell hS2 c2
  have b3 := same_cell hS2 c3
  have b4 := same_cell hS2 c4
  go_wp2_with fail
  refine (back_any 2027 1013 4 9 a 5 5 2021 rfl (by omega) (by omega) ⟨by omega, by omega⟩ _).mono ?_
  rintro e1 w3 ⟨rfl, hS3⟩
  rw [H3.out, H4.out]
  replace b0 := same_cell hS3 b0
  replace b1 := same_cell hS3 b1
  replace b2 := same_cell hS3 b2
  replace b3 := same_cell hS3 b3
  replace b4 := same_cell hS3 b4
  have hS4 := (hS2.trans hS3)
  go_wp2_with fail
  refine (right_any 2027 1013 4 9 a 5 5 rs4 ⟨by omega, by omega⟩ ⟨by omega, by omega⟩ ⟨by omega, by omega⟩ ⟨by omega, by omega⟩ _ (hr1.same hS4)).mono ?_
  rintro e1 w4 ⟨rfl, hS5⟩
  rw [H1.out]
  replace b0 := same_cell hS5 b0
  replace b1 := same_cell hS5 b1
  replace b2 := same_cell hS5 b2
  replace b3 := same_cell hS5 b3
  replace b4 := same_cell hS5 b4
  have hS6 := (hS4.trans hS5)
  go_wp2_with fail
  refine (exp_any 2027 1013 4 9 a 5 5 4 1013 (by omega) (by omega) (by omega) (by omega) (by omega) (by omega) _).mono ?_
  rintro e1 w5 ⟨rfl, hS7⟩
  rw [H5.out]
  replace b0 := same_cell hS7 b0
  replace b1 := same_cell hS7 b1
  replace b2 := same_cell hS7 b2
  replace b3 := same_cell hS7 b3
  replace b4 := same_cell hS7 b4
  have hS8 := (hS6.trans hS7)
  go_wp2_with fail
  obtain ⟨hi, hS9, _⟩ := ints_alloc w5 _ rfl [4, 9] (fun j => by match j with | 0 => exact ⟨by decide, by decide⟩ | 1 => exact ⟨by decide, by decide⟩ | _ + 2 => exact ⟨by simp, by simp⟩) (by decide) #[.int .u64 4, .int .u64 9] (fun j hj => by match j, hj with | 0, _ => rfl | 1, _ => rfl) 22
  refine (prod_any 2027 1013 4 9 a 5 5 _ 2 2 [4, 9] (by omega) _ hi).mono ?_
  rintro e1 w6 ⟨rfl, hS10⟩
  rw [H6.out]
  go_wp2_with fail
  go_ret
  exact ⟨rfl, hS1.trans (hS.trans ((hS8.trans hS9).trans hS10))⟩
end Go.Proofs.Ytdinemhodnleeaa
