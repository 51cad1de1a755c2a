/- The walks of the laws of layer 2: each returns true. -/
import Derived.Test.YtkladabdaimkiaaAll
import Derived.Test.YtkladabdaimkiaaRef2B
import Derived.Test.YtkladabdaimkiaaSeven
import Derived.Test.YtkladabdaimkiaaModInv
import Derived.Test.YtkladabdaimkiaaModMul
import Derived.Outline
set_option linter.unusedVariables false
set_option linter.unusedSimpArgs false
namespace Go.Proofs.Ytkladabdaimkiaa
open Go.RowKit NT
theorem getD_mem {xs : List Int} {f : Int} (h : f ∈ xs) : ∃ i, xs.getD i 0 = f := by
  obtain ⟨i, hi, e⟩ := List.getElem_of_mem h
  exact ⟨i, by simp [List.getD, hi, e]⟩
theorem rows_fine {w : World} {a : Option Addr} {n : Nat} {rs : List RowD} (h : RowsAt w a n rs) : Fine rs := by
  intro i
  by_cases hi : i < n
  · obtain ⟨b, off, _, hr⟩ := h.rows (by omega)
    obtain ⟨fa, fn, fc, _, hf⟩ := (hr i hi).f
    refine ⟨fun f hm => ?_, hf.bd⟩
    obtain ⟨j, e⟩ := getD_mem hm
    rw [← e]
    exact (hf.bd j).1
  · have : rs.getD i default = default := by simp [List.getD, List.getElem?_eq_none (show rs.length ≤ i by rw [h.len]; omega)]
    rw [this]
    exact ⟨fun f hm => (by cases hm), fun j => ⟨by simp [default], by simp [default]⟩⟩
/-- few rows, of few factors -/
def SmallP (rs : List RowD) : Prop := rs.length ≤ 80 ∧ ∀ i, i < rs.length → (rs.getD i default).f.length ≤ 40
noncomputable def smallB (rs : List RowD) : Bool := open Classical in decide (SmallP rs)
theorem smallB_yes {rs : List RowD} (h : SmallP rs) : smallB rs = true := by unfold smallB; classical exact decide_eq_true h
theorem smallB_no {rs : List RowD} (h : ¬ SmallP rs) : smallB rs = false := by unfold smallB; classical exact decide_eq_false h
theorem small_any (a : Option Addr) (n cap : Nat) (rs : List RowD) (w : World) (h : RowsAt w a n rs) :
    Calls Try.prog 8 #[.slice a n cap] w fun e w' => e = .returned (.bool (smallB rs)) ∧ Same w w' := by
  have hlen := h.len
  have hsmall := h.small
  have HLen := Lib.hid hlen
  clear hlen
  by_cases hn : n ≤ 80
  · have h64 : decide ((80 : Int) < n) = false := decide_eq_false (by omega)
    go_enter Try.func8, Try.ntmps8
    go_wp2_with fail
    go_loopw [10] (fun s10 wr => ∃ i : Nat, s10 = .int .i64 i ∧ i ≤ n ∧ Hid (∀ j, j < i → (rs.getD j default).f.length ≤ 40) ∧ Same w wr) (fun s10 _ => n - (intOf s10).toNat)
    case atStart => exact ⟨0, rfl, by omega, fun j hj => by omega, Same.refl w⟩
    case round =>
      obtain ⟨i, rfl, hi, hup, hS⟩ := hrel
      by_cases hlt : i < n
      · obtain ⟨b, off, ha, hrows⟩ := h.rows (by omega)
        subst ha
        have hrow := (hrows i hlt).same hS
        obtain ⟨r, hr⟩ : ∃ r, r = rs.getD i default := ⟨_, rfl⟩
        rw [← hr] at hrow
        obtain ⟨c0, c1, ⟨fa, fn, fc, c2, hf⟩, hnb, hab⟩ := hrow
        have hfl := hf.len
        have hfs := hf.small
        by_cases h40 : fn ≤ 40
        · have d40 : decide ((40 : Int) < fn) = false := decide_eq_false (by omega)
          have hup2 : Hid (∀ j, j < i + 1 → (rs.getD j default).f.length ≤ 40) := fun j hj => by
            by_cases e : j = i
            · subst e; rw [← hr, hfl]; exact h40
            · exact hup.out j (by omega)
          clear hr hrows hup hf hfl hnb hab
          go_wp2_with fail
          go_roundw
          case rel => exact ⟨i + 1, by go_num, by omega, hup2, hS.alloc _⟩
          case measure => simp [intOf]; omega
        · have d40 : decide ((40 : Int) < fn) = true := decide_eq_true (by omega)
          have hb := smallB_no (rs := rs) (fun hA => h40 (by have := hA.2 i (by rw [HLen.out]; exact hlt); rw [← hr, hfl] at this; exact this))
          have HB := Lib.hid hb
          clear hr hrows hup hf hfl hnb hab hb h40
          go_wp2_with fail
          go_ret
          exact ⟨ret_bool HB.out.symm, hS.alloc _⟩
      · obtain rfl : i = n := by omega
        have hb := smallB_yes (rs := rs) ⟨by rw [HLen.out]; exact hn, by rw [HLen.out]; exact hup.out⟩
        have HB := Lib.hid hb
        clear hb hup
        go_wp2_with fail
        go_ret
        exact ⟨ret_bool HB.out.symm, hS⟩
  · have h64 : decide ((80 : Int) < n) = true := decide_eq_true (by omega)
    have hb := smallB_no (rs := rs) (fun hA => by have := hA.1; rw [HLen.out] at this; omega)
    have HB := Lib.hid hb
    clear hb hn
    go_enter Try.func8, Try.ntmps8
    go_wp2_with fail
    go_ret
    exact ⟨ret_bool HB.out.symm, Same.refl w⟩
theorem awake2 (w : World) : Calls Try.prog 7 #[] w fun e w' => e = .returned (.bool true) ∧ Same w w' := by
  have h1 := holdsB_yes ok7
  have h2 := provedB_yes proved7
  have h3 := provedB_no proved5
  have H1 := Lib.hid h1
  have H2 := Lib.hid h2
  have H3 := Lib.hid h3
  clear h1 h2 h3
  go_enter Try.func7, Try.ntmps7
  go_wp2_with fail
  have hr := lit7 w 23 35
  obtain ⟨W, hW⟩ : ∃ W, W = (((w.alloc (.cells #[.int .u64 2] 23)).alloc (.cells #[.int .u64 2, .int .u64 3] 23)).alloc
    (.cells #[.int .u64 3, .int .u64 2, .slice (some ⟨w.heap.size, 0, none⟩) 1 1, .int .u64 7, .int .u64 3, .slice (some ⟨w.heap.size + 1, 0, none⟩) 2 2] 35)) := ⟨_, rfl⟩
  have hS : Same w W := by rw [hW]; exact (((Same.refl w).alloc _).alloc _).alloc _
  rw [← hW] at hr ⊢
  clear hW
  obtain ⟨A, hA⟩ : ∃ A : Addr, A = ⟨w.heap.size + 1 + 1, 0, none⟩ := ⟨_, rfl⟩
  rw [← hA] at hr ⊢
  clear hA
  refine (holds_any (some A) 2 2 rs7 W hr).mono ?_
  rintro e1 w1 ⟨rfl, hS1⟩
  rw [H1.out]
  go_wp2_with fail
  refine (proved_any 7 (some A) 2 2 rs7 w1 (hr.same hS1) ⟨by omega, by omega⟩).mono ?_
  rintro e1 w2 ⟨rfl, hS2⟩
  rw [H2.out]
  go_wp2_with fail
  refine (proved_any 5 (some A) 2 2 rs7 w2 (hr.same (hS1.trans hS2)) ⟨by omega, by omega⟩).mono ?_
  rintro e1 w3 ⟨rfl, hS3⟩
  rw [H3.out]
  go_wp2_with fail
  go_ret
  exact ⟨rfl, ((hS.trans hS1).trans hS2).trans hS3⟩
theorem lawHolds (a : Option Addr) (n cap : Nat) (x : Int) (rs : List RowD) (w : World) (h : RowsAt w a n rs) (hx : U64 x) :
    Calls Try.prog 3 #[.slice a n cap, .int .u64 x] w fun e w' => e = .returned (.bool true) ∧ Same w w' := by
  by_cases hs : SmallP rs
  · have hb := smallB_yes hs
    have HB := Lib.hid hb
    have HX := Lib.hid hx
    clear hb hs hx
    go_enter Try.func3, Try.ntmps3
    go_wp2_with fail
    refine (awake2 _).mono ?_
    rintro e1 w1 ⟨rfl, hS1⟩
    go_wp2_with fail
    refine (small_any a n cap rs _ (h.same hS1)).mono ?_
    rintro e1 w2 ⟨rfl, hS2⟩
    rw [HB.out]
    have h2 := h.same (hS1.trans hS2)
    have HS2 := Lib.hid (hS1.trans hS2)
    clear hS1 hS2 h
    go_wp2_with fail
    refine (holds_any a n cap rs _ h2).mono ?_
    rintro e1 w3 ⟨rfl, hS3⟩
    go_wp2_with fail
    refine (rholds_any a n cap rs _ (h2.same hS3)).mono ?_
    rintro e1 w4 ⟨rfl, hS4⟩
    go_wp2_with fail
    refine (proved_any x a n cap rs _ ((h2.same hS3).same hS4) HX.out).mono ?_
    rintro e1 w5 ⟨rfl, hS5⟩
    go_wp2_with fail
    refine (rproved_any x a n cap rs _ (((h2.same hS3).same hS4).same hS5) HX.out).mono ?_
    rintro e1 w6 ⟨rfl, hS6⟩
    go_wp2_with fail
    go_ret
    exact ⟨by simp, (((HS2.out.trans hS3).trans hS4).trans hS5).trans hS6⟩
  · have hb := smallB_no hs
    have HB := Lib.hid hb
    clear hb hs hx
    go_enter Try.func3, Try.ntmps3
    go_wp2_with fail
    refine (awake2 _).mono ?_
    rintro e1 w1 ⟨rfl, hS1⟩
    go_wp2_with fail
    refine (small_any a n cap rs _ (h.same hS1)).mono ?_
    rintro e1 w2 ⟨rfl, hS2⟩
    rw [HB.out]
    go_wp2_with fail
    go_ret
    exact ⟨rfl, hS1.trans hS2⟩
end Go.Proofs.Ytkladabdaimkiaa
