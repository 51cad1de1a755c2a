/- Layer 10: the document's bytes. -/
import Derived.Test.YtdbhcdhenapfoaaAwk
set_option linter.unusedVariables false
set_option linter.unusedSimpArgs false
namespace Go.Proofs.Ytdbhcdhenapfoaa
open Go.RowKit Go.Maps
theorem own_same {w w' : World} {lo : Nat} {v : Value} {l : Bs} (h : OwnY w lo v l) (hs : Same w w') : OwnY w' lo v l := ownsRow_off2 h (Off.of_same (S := fun _ => False) hs) (fun _ _ _ e => e)
set_option maxHeartbeats 800000 in
theorem rbytes_any (x : Int) (hx0 : 0 ≤ x) (hx1 : x < 18446744073709551616) (w : World) :
    Calls Try.prog 63 #[.int .u64 x, .int .i64 8] w fun z w' => z = .returned (.string (ofL (encN x))) ∧ Same w w' := by
  go_enter Try.func63, Try.ntmps63
  go_wp2_with fail
  go_loopw [5, 6] (fun s5 s6 wr => ∃ k : Nat, s6 = .int .i64 (7 - (k : Int)) ∧ k ≤ 8 ∧ Hid (OwnY wr w.heap.size s5 ((encN x).take k) ∧ Same w wr)) (fun _ s6 _ => (intOf s6 + 1).toNat)
  case atStart => exact ⟨0, rfl, by omega, Lib.hid ⟨World.ownsRow_nil _ _ _ _, Same.refl _⟩⟩
  case round =>
    obtain ⟨k, rfl, hk', hH⟩ := hrel
    obtain ⟨wa, rfl⟩ : ∃ wz, wz = wr := ⟨_, rfl⟩
    obtain ⟨va, vn, vc, rfl⟩ := hH.out.1.form
    by_cases hk : k < 8
    · have HNX := Lib.hid (encN_take (x := x) hk)
      obtain ⟨z, ez⟩ : ∃ z : Int, 7 - (k : Int) = z := ⟨_, rfl⟩
      have hz0 : 0 ≤ z := by omega
      have hz1 : z ≤ 7 := by omega
      have HZ := Lib.hid ez
      have HBY := Lib.hid (wrap_byte hx0 (8 * z) (56 - 8 * k) (by omega))
      have HBY2 := Lib.hid ((IntKind.wrap_u8 _).symm.trans HBY.out)
      have hlk : ((encN x).take k).length ≤ 8 := by rw [List.length_take, encN_len]; omega
      rw [ez]
      have hS7 : Same wa (wa.alloc (.cells #[.int .u8 ((byteAt x (56 - 8 * k)).toNat : Int)] 5)) := (Same.refl wa).alloc _
      obtain ⟨v', w8, hr8, ho8, hg8, hrow8⟩ := OwnY.push (l := (encN x).take k) (own_same (l := (encN x).take k) (lo := w.heap.size) (v := .slice va vn vc) hH.out.1 hS7) (Nat.le_trans hlk (by decide)) (Nat.le_trans hH.out.2.size hS7.size) [byteAt x (56 - 8 * k)] (by simp) 99 (ad := ⟨wa.heap.size, 0, none⟩) (cells_new wa [.int .u8 ((byteAt x (56 - 8 * k)).toNat : Int)] 5)
      have HFIN := Lib.hid (show OwnY w8 w.heap.size v' ((encN x).take (k + 1)) ∧ Same w w8 from ⟨by rw [HNX.out]; exact ho8, Below.grown (hH.out.2.trans hS7) hg8 (Nat.le_trans hH.out.2.size hS7.size) (fun k hk => (hrow8 k hk).1)⟩)
      clear ez hS7 ho8 hg8 hrow8 hlk
      go_upto_region 5 with fail
      go_wp2_with (first
        | (at_builtin; rw [HBY2.out]; refine wpList_append_run rfl _ _ _ rfl _ rfl _ rfl hr8 ?_))
      go_roundw
      case rel => exact ⟨k + 1, by have := HZ.out; go_num, by omega, HFIN⟩
      case measure => simp [intOf]; omega
    · obtain rfl : k = 8 := by omega
      have e8 : (7 : Int) - ((8 : Nat) : Int) = -1 := rfl
      rw [e8]
      have hst := row_string hH.out.1 (by rw [List.take_of_length_le (by rw [encN_len]; omega)]; simp [encN])
      rw [List.take_of_length_le (by rw [encN_len]; omega)] at hst
      go_wp2_with fail
      go_ret
      exact ⟨rfl, hH.out.2⟩
theorem rnums_any (a : Option Addr) (n c : Nat) (xs : List Int) (hn : n ≤ 1000) (w : World) (h : IntsAt w a n xs) :
    Calls Try.prog 52 #[.slice a n c] w fun z w' => z = .returned (.string (ofL (xs.flatMap encN))) ∧ Same w w' := by
  have HI := Lib.hid h
  have HLX := Lib.hid h.len
  have hn0 : (0 : Int) ≤ n := by omega
  clear h
  go_enter Try.func52, Try.ntmps52
  go_wp2_with fail
  go_loopw [3, 4] (fun s3 s4 wr => ∃ i : Nat, s4 = .int .i64 i ∧ i ≤ n ∧ s3 = .string (ofL ((xs.take i).flatMap encN)) ∧ Hid (Same w wr)) (fun _ s4 _ => n - (intOf s4).toNat)
  case atStart => exact ⟨0, rfl, by omega, rfl, Lib.hid (Same.refl _)⟩
  case round =>
    obtain ⟨i, rfl, hi', rfl, hS⟩ := hrel
    obtain ⟨wa, rfl⟩ : ∃ wz, wz = wr := ⟨_, rfl⟩
    by_cases hlt : i < n
    · have hi0 : (0 : Int) ≤ i := by omega
      have hi1 : (i : Int) < n := by omega
      obtain ⟨bk, off, rfl, hcs⟩ := (HI.out.same hS.out).cells (by omega)
      have hc := hcs i hlt
      have hbd := HI.out.bd i
      have HT := Lib.hid (take_flat encN xs i 0 (by rw [HLX.out]; exact hlt))
      obtain ⟨x, ex⟩ : ∃ x, xs.getD i 0 = x := ⟨_, rfl⟩
      rw [ex] at hc hbd HT
      have hx0 := hbd.1
      have hx1 := hbd.2
      have HA := Lib.hid (append_ofL ((xs.take i).flatMap encN) (encN x))
      clear hcs ex hbd
      go_wp2_with fail
      refine (rbytes_any x hx0 hx1 wa).mono ?_
      rintro e w2 ⟨rfl, hs2⟩
      have HS2 := Lib.hid (hS.out.trans hs2)
      have hcat : ¬ ((ofL ((xs.take i).flatMap encN)).size + (ofL (encN x)).size > 9223372036854775807) := by
        rw [size_ofL, size_ofL, flat_len, encN_len, List.length_take]; omega
      clear hs2 hc
      go_wp2_with fail
      go_roundw
      case rel => exact ⟨i + 1, by go_num, by omega, by rw [HA.out, HT.out], HS2⟩
      case measure => simp [intOf]; omega
    · obtain rfl : n = i := by omega
      have HT := Lib.hid (show xs.take n = xs from List.take_of_length_le (by rw [HLX.out]; omega))
      rw [HT.out]
      go_wp2_with fail
      go_ret
      exact ⟨rfl, hS.out⟩
theorem rcount_s (n : Nat) (hn : n ≤ 64) (w : World) :
    Calls Try.prog 33 #[.int .i64 n] w fun z w' => z = .returned (.string (ofL (encC n))) ∧ Same w w' := by
  have hn0 : (0 : Int) ≤ n := by omega
  have hn1 : (n : Int) ≤ 64 := by omega
  have q0 : (n : Int).tdiv 256 = 0 := by rw [Int.tdiv_eq_ediv_of_nonneg hn0]; omega
  have q1 : (n : Int).tmod 256 = n := by rw [Int.tmod_eq_emod_of_nonneg hn0]; omega
  have hw0 : IntKind.u8.wrap 0 = 0 := by simp [IntKind.wrap_u8]
  have hw1 : IntKind.u8.wrap (n : Int) = n := by rw [IntKind.wrap_u8]; omega
  obtain ⟨w2, ew2⟩ : ∃ w2, w.alloc (.cells #[.int .u8 0, .int .u8 n] 5) = w2 := ⟨_, rfl⟩
  obtain ⟨b, eb⟩ : ∃ b, w.heap.size = b := ⟨_, rfl⟩
  have hS : Same w w2 := by rw [← ew2]; exact (Same.refl w).alloc _
  have hb : w2.heap[b]? = some (.cells #[.int .u8 0, .int .u8 n] 5 (0, 0)) := by rw [← ew2, ← eb]; exact heap_new _ _
  have hst : (convert 99 9 (.slice (some ⟨b, 0, none⟩) 2 2)).run Try.prog w2 = .ok (.string (ofL (encC n))) w2 := by
    refine row_string (lo := 0) ⟨rfl, .inr ⟨b, 2, _, rfl, Nat.zero_le _, hb, Nat.le_refl 2, by decide, rfl, ?_⟩⟩ (by simp [encC])
    have e1 : ((UInt8.ofNat (n / 256 % 256)).toNat : Int) = 0 := by rw [UInt8.toNat_ofNat']; omega
    have e2 : ((UInt8.ofNat (n % 256)).toNat : Int) = n := by rw [UInt8.toNat_ofNat']; omega
    simp only [byV, encC, List.map_cons, List.map_nil, e1, e2]
    rfl
  have HS := Lib.hid hS
  have EW2 := Lib.hid ew2
  have EB := Lib.hid eb
  clear hS hb ew2 eb
  go_enter Try.func33, Try.ntmps33
  go_wp2_with (first | (rw [EW2.out, EB.out]))
  go_ret
  exact ⟨rfl, HS.out⟩
end Go.Proofs.Ytdbhcdhenapfoaa
