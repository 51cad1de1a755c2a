/- Layer 14: DropKeeps, walked. -/
import Derived.Test.YtchmhpfccanamaaDropK
set_option linter.unusedVariables false
set_option linter.unusedSimpArgs false
namespace Go.Proofs.Ytchmhpfccanamaa
open Go.RowKit
theorem deliver_none (B ob : Nat) (R : List Rnd) (cnt num : Int) (hR : R.length ≤ 16) (hcnt : 0 ≤ cnt ∧ cnt ≤ 99999) (w : World) (h : OffAt w B ob R cnt) (hno : okD R num = false) :
    Calls Try.prog 8 #[.pointer (some ⟨ob, 0, none⟩), .int .i64 num, .slice none 0 0] w fun z w' => z = .returned (.bool false) ∧ OffAt w' B ob R cnt ∧ Below B w w' :=
  (deliver_any B ob R cnt num none 0 0 [] hR hcnt (by omega) w h (notes_none w)).mono fun z w' ⟨e, h1, _, h2⟩ => ⟨by rw [e, hno], by rw [delR_no hno, cntD_no hno] at h1; exact h1, h2⟩
set_option maxRecDepth 100000 in
set_option maxHeartbeats 6400000 in
theorem lawKeeps (x e y : Int) (w : World) (hx : -9223372036854775808 ≤ x ∧ x ≤ 9223372036854775807) (he : -9223372036854775808 ≤ e ∧ e ≤ 9223372036854775807) (hy : U64 y) :
    Calls Try.prog 5 #[.int .i64 x, .int .i64 e, .int .u64 y] w fun e w' => e = .returned (.bool true) ∧ Same w w' := by
  obtain ⟨B, eB⟩ : ∃ B, w.heap.size = B := ⟨_, rfl⟩
  have EB := Lib.hid eB
  have HY := Lib.hid hy
  have hF : FromB B w w := by rw [← eB]; exact FromB.refl w
  clear eB hy
  go_enter Try.func5, Try.ntmps5
  go_wp2_with fail
  refine (awake14 _).mono ?_
  rintro e1 w1 ⟨rfl, hS1⟩
  have HF1 := Lib.hid (hF.same hS1)
  clear hF hS1
  by_cases g1 : e < 0
  · have d1 : decide (e < 0) = true := decide_eq_true g1
    go_wp2_with fail
    go_ret
    exact ⟨rfl, HF1.out.out EB.out⟩
  have d1 : decide (e < 0) = false := decide_eq_false g1
  by_cases g2 : e > 40
  · have d2 : decide (e > 40) = true := decide_eq_true g2
    go_wp2_with fail
    go_ret
    exact ⟨rfl, HF1.out.out EB.out⟩
  have d2 : decide (e > 40) = false := decide_eq_false g2
  by_cases g3 : x < -1000000
  · have d3 : decide (x < -1000000) = true := decide_eq_true g3
    go_wp2_with fail
    go_ret
    exact ⟨rfl, HF1.out.out EB.out⟩
  have d3 : decide (x < -1000000) = false := decide_eq_false g3
  by_cases g4 : x > 1000000
  · have d4 : decide (x > 1000000) = true := decide_eq_true g4
    go_wp2_with fail
    go_ret
    exact ⟨rfl, HF1.out.out EB.out⟩
  have d4 : decide (x > 1000000) = false := decide_eq_false g4
  obtain ⟨n, rfl⟩ := Int.eq_ofNat_of_zero_le (show 0 ≤ e by omega)
  simp only [Int.ofNat_eq_natCast] at *
  go_wp2_with fail
  have hn40 : n ≤ 40 := by omega
  have hx1 : -1000000 ≤ x := by omega
  have hx2 : x ≤ 1000000 := by omega
  clear d1 d2 d3 d4 g1 g2 g3 g4 he hx
  refine (new_any _).mono ?_
  rintro e wz ⟨rfl, rfl⟩
  obtain ⟨w2, ew2⟩ : ∃ w2, w1.alloc (.cells #[.slice none 0 0, .int .i64 0] 55) = w2 := ⟨_, rfl⟩
  obtain ⟨ob, eob⟩ : ∃ ob, w1.heap.size = ob := ⟨_, rfl⟩
  have hO := OffAt.new w1
  rw [eob, ew2] at hO
  have hBo : B ≤ ob := by rw [← eob]; exact HF1.out.le
  have HO := Lib.hid (hO.down hBo)
  have HF2 := Lib.hid (show FromB B w w2 by rw [← ew2]; exact HF1.out.alloc _)
  rw [eob, ew2]
  clear eob ew2 hO hBo
  go_wp2_with fail
  go_loopw [31] (fun s31 wr => ∃ i : Nat, s31 = .int .i64 i ∧ i ≤ n ∧ Hid (OffAt wr B ob (keepR x y i) i) ∧ Hid (FromB B w wr)) (fun s31 _ => n - (intOf s31).toNat)
  case atStart => exact ⟨0, rfl, by omega, HO, HF2⟩
  case round =>
    obtain ⟨i, rfl, hi, hO, hF⟩ := hrel
    by_cases hlt : i < n
    · have hi0 : (0 : Int) ≤ i := by omega
      have hi1 : (i : Int) < n := by omega
      have hw1 : IntKind.u64.wrap (i : Int) = i := by simp [go_sem, IntKind.wrap_u64, wrap64]; omega
      have hw2 : IntKind.i64.wrap (x + i) = x + i := by simp [go_sem, IntKind.wrap_i64, wrap64]; omega
      have hw3 : IntKind.i64.wrap (x - 1) = x - 1 := by simp [go_sem, IntKind.wrap_i64, wrap64]; omega
      have HOK := Lib.hid (ok_next x y i)
      have HAG := Lib.hid (ok_again x y i)
      have HBE := Lib.hid (ok_before x y i)
      have HL := Lib.hid (keep_len x y i)
      have HL1 := Lib.hid (keep_len x y (i + 1))
      go_wp2_with fail
      refine (deliver_any B ob _ i (x + i) _ 2 2 (twoN y i) (by rw [HL.out]; omega) (by omega) (by omega) _ (hO.out.same ((Same.refl wr).alloc _)) (notes_two wr HY.out HY.out)).mono ?_
      rintro e w3 ⟨rfl, hO3, _, hB3⟩
      rw [HOK.out]
      rw [cntD_yes HOK.out] at hO3
      have HO3 := Lib.hid (show OffAt w3 B ob (keepR x y (i + 1)) (i + 1) from hO3)
      have HF3 := Lib.hid ((hF.out.alloc (.cells #[.int .u64 y, .int .u64 i, .int .u64 1, .int .u64 y, .int .u64 i, .int .u64 2] 25)).more hB3)
      clear hO3 hB3
      go_wp2_with fail
      refine (deliver_none B ob _ (i + 1) (x + i) (by rw [HL1.out]; omega) (by omega) _ HO3.out HAG.out).mono ?_
      rintro e w4 ⟨rfl, hO4, hB4⟩
      have HO4 := Lib.hid hO4
      have HF4 := Lib.hid (HF3.out.more hB4)
      clear hO4 hB4
      go_wp2_with fail
      refine (deliver_none B ob _ (i + 1) (x - 1) (by rw [HL1.out]; omega) (by omega) _ HO4.out HBE.out).mono ?_
      rintro e w5 ⟨rfl, hO5, hB5⟩
      have HO5 := Lib.hid hO5
      have HF5 := Lib.hid (HF4.out.more hB5)
      clear hO5 hB5
      go_wp2_with fail
      go_roundw
      case rel => exact ⟨i + 1, by go_num, by omega, HO5, HF5⟩
      case measure => simp [intOf]; omega
    · obtain rfl : n = i := by omega
      have HL := Lib.hid (keep_len x y n)
      go_wp2_with fail
      go_loopw [64] (fun s64 wr => ∃ i : Nat, s64 = .int .i64 i ∧ i ≤ n ∧ Hid (OffAt wr B ob (keepR x y n) n) ∧ Hid (FromB B w wr)) (fun s64 _ => n - (intOf s64).toNat)
      case atStart => exact ⟨0, rfl, by omega, hO, hF⟩
      case round =>
        obtain ⟨i, rfl, hi, hO, hF⟩ := hrel
        by_cases hlt : i < n
        · have hi0 : (0 : Int) ≤ i := by omega
          have hi1 : (i : Int) < n := by omega
          have hw1 : IntKind.u64.wrap (i : Int) = i := by simp [go_sem, IntKind.wrap_u64, wrap64]; omega
          have hw2 : IntKind.i64.wrap (x + i) = x + i := by simp [go_sem, IntKind.wrap_i64, wrap64]; omega
          have hw3 : IntKind.i64.wrap ((n : Int) - 16) = (n : Int) - 16 := by simp [go_sem, IntKind.wrap_i64, wrap64]; omega
          have HFE := Lib.hid (keep_fetch x y n i hlt)
          go_wp2_with fail
          refine (fetch_any B ob _ n (x + i) y i 1 (by rw [HL.out]; omega) HY.out _ hO.out).mono ?_
          rintro e w3 ⟨rfl, hS3⟩
          rw [HFE.out]
          by_cases hk : (n : Int) - 16 ≤ i
          · rw [if_pos hk]
            unfold fetV bodyV
            have hb : decide ((i : Int) ≥ (n : Int) - 16) = true := decide_eq_true hk
            have heq := equal_body i 2 i 2
            have HO3 := Lib.hid ((hO.out.same hS3).same ((Same.refl w3).alloc (.cells #[.int .u64 i, .int .u64 2] 32)))
            have HF3 := Lib.hid ((hF.out.same hS3).alloc (.cells #[.int .u64 i, .int .u64 2] 32))
            clear hS3
            go_wp2_with fail
            go_roundw
            case rel => exact ⟨i + 1, by go_num, by omega, HO3, HF3⟩
            case measure => simp [intOf]; omega
          · rw [if_neg hk]
            unfold fetV bodyV
            have hb : decide ((i : Int) ≥ (n : Int) - 16) = false := decide_eq_false hk
            have HO3 := Lib.hid ((hO.out.same hS3).same ((Same.refl w3).alloc (.cells #[.int .u64 0, .int .u64 0] 32)))
            have HF3 := Lib.hid ((hF.out.same hS3).alloc (.cells #[.int .u64 0, .int .u64 0] 32))
            clear hS3
            go_wp2_with fail
            go_roundw
            case rel => exact ⟨i + 1, by go_num, by omega, HO3, HF3⟩
            case measure => simp [intOf]; omega
        · obtain rfl : n = i := by omega
          obtain ⟨k, ek⟩ : ∃ k, (keepR x y n).length = k := ⟨_, rfl⟩
          have hk1 : k = n - (n - 16) := by rw [← ek, HL.out]
          have hkm : (if 16 < (n : Int) then (16 : Int) else n) = k := by split <;> omega
          have EK := Lib.hid ek
          have HKM := Lib.hid hkm
          clear ek hk1 hkm
          go_wp2_with fail
          refine (rounds_any B ob _ n (by rw [HL.out]; omega) _ hO.out).mono ?_
          rintro e w3 ⟨a, cap, rfl, _, hS3⟩
          rw [EK.out]
          have HO3 := Lib.hid (hO.out.same hS3)
          have HF3 := Lib.hid (hF.out.same hS3)
          clear hS3
          have hkm := HKM.out
          go_wp2_with fail
          refine (count_any B ob _ n _ HO3.out).mono ?_
          rintro e w4 ⟨rfl, rfl⟩
          go_wp2_with fail
          go_ret
          exact ⟨rfl, HF3.out.out EB.out⟩
end Go.Proofs.Ytchmhpfccanamaa
