/- Layer 10: WireKinds. -/
import Derived.Test.YtdbhcdhenapfoaaAwk
set_option linter.unusedVariables false
set_option linter.unusedSimpArgs false
namespace Go.Proofs.Ytdbhcdhenapfoaa
open Go.RowKit Go.Maps
theorem readLetter_b (l : Bs) (hl : l.length ≤ 1000000000) (w : World) :
    Calls Try.prog 16 #[.string (ofL l)] w fun z w' => Same w w' ∧ ∃ x0 x1 x2 x3 x4 x5 a1 n1 c1 a2 n2 c2, z = .returned (.tuple #[.agg #[.int .u64 x0, .int .u64 x1, .int .u64 x2, .int .u64 x3, .int .u64 x4, .int .u64 x5, .slice a1 n1 c1, .slice a2 n2 c2], .bool (rd 1 letterC l).isSome]) := by
  refine (readLetter_any l hl w).mono ?_
  rintro e w1 ⟨hs, (⟨x, x0, x1, x2, x3, x4, x5, a1, n1, c1, a2, n2, c2, hr, _, rfl, _⟩ | ⟨hr, rfl⟩)⟩
  · exact ⟨hs, _, _, _, _, _, _, _, _, _, _, _, _, by rw [hr]; rfl⟩
  · exact ⟨hs, _, _, _, _, _, _, _, _, _, _, _, _, by rw [hr]; rfl⟩
theorem readMixing_b (l : Bs) (hl : l.length ≤ 1000000000) (w : World) :
    Calls Try.prog 12 #[.string (ofL l)] w fun z w' => Same w w' ∧ ∃ a0 n0 c0 a1 n1 c1 a2 n2 c2 a3 n3 c3 a4 n4 c4 a5 n5 c5 a6 n6 c6, z = .returned (.tuple #[.agg #[.slice a0 n0 c0, .slice a1 n1 c1, .slice a2 n2 c2, .slice a3 n3 c3, .slice a4 n4 c4, .slice a5 n5 c5, .slice a6 n6 c6], .bool (rd 2 mixC l).isSome]) := by
  refine (readMixing_any l hl w).mono ?_
  rintro e w1 ⟨hs, (⟨x, a0, n0, c0, a1, n1, c1, a2, n2, c2, a3, n3, c3, a4, n4, c4, a5, n5, c5, a6, n6, c6, hr, rfl, _⟩ | ⟨hr, rfl⟩)⟩
  · exact ⟨hs, _, _, _, _, _, _, _, _, _, _, _, _, _, _, _, _, _, _, _, _, _, by rw [hr]; rfl⟩
  · exact ⟨hs, _, _, _, _, _, _, _, _, _, _, _, _, _, _, _, _, _, _, _, _, _, by rw [hr]; rfl⟩
theorem readPassed_b (l : Bs) (hl : l.length ≤ 1000000000) (w : World) :
    Calls Try.prog 19 #[.string (ofL l)] w fun z w' => Same w w' ∧ ∃ a n c, z = .returned (.tuple #[.slice a n c, .bool (rd 3 passlC l).isSome]) := by
  refine (readPassed_any l hl w).mono ?_
  rintro e w1 ⟨hs, (⟨x, a, n, c, hr, rfl, _⟩ | ⟨hr, rfl⟩)⟩
  · exact ⟨hs, _, _, _, by rw [hr]; rfl⟩
  · exact ⟨hs, _, _, _, by rw [hr]; rfl⟩
def knd (l : Bs) : Nat := (rd 1 letterC l).isSome.toNat + (rd 2 mixC l).isSome.toNat + (rd 3 passlC l).isSome.toNat
set_option maxHeartbeats 1600000 in
theorem kinds_any (l : Bs) (hl : l.length ≤ 1000000000) (w : World) :
    Calls Try.prog 18 #[.string (ofL l)] w fun z w' => z = .returned (.int .i64 (knd l : Nat)) ∧ Same w w' := by
  obtain ⟨b1, e1⟩ : ∃ b1, (rd 1 letterC l).isSome = b1 := ⟨_, rfl⟩
  obtain ⟨b2, e2⟩ : ∃ b2, (rd 2 mixC l).isSome = b2 := ⟨_, rfl⟩
  obtain ⟨b3, e3⟩ : ∃ b3, (rd 3 passlC l).isSome = b3 := ⟨_, rfl⟩
  have HK := Lib.hid (show knd l = b1.toNat + b2.toNat + b3.toNat by unfold knd; rw [e1, e2, e3])
  have E1 := Lib.hid e1
  have E2 := Lib.hid e2
  have E3 := Lib.hid e3
  clear e1 e2 e3
  go_enter Try.func18, Try.ntmps18
  go_wp2_with fail
  refine (readLetter_b l hl w).mono ?_
  rintro e w1 ⟨hs1, x0, x1, x2, x3, x4, x5, a1, n1, c1, a2, n2, c2, rfl⟩
  rw [E1.out]
  have HS1 := Lib.hid (hs1.trans ((Same.refl w1).alloc (.cells #[.int .u64 x0, .int .u64 x1, .int .u64 x2, .int .u64 x3, .int .u64 x4, .int .u64 x5, .slice a1 n1 c1, .slice a2 n2 c2] 39)))
  clear hs1
  go_wp2_with fail
  refine (readMixing_b l hl _).mono ?_
  rintro e w2 ⟨hs2, a0, n0, c0, a1, n1, c1, a2, n2, c2, a3, n3, c3, a4, n4, c4, a5, n5, c5, a6, n6, c6, rfl⟩
  rw [E2.out]
  have HS2 := Lib.hid ((HS1.out.trans hs2).trans ((Same.refl w2).alloc (.cells #[.slice a0 n0 c0, .slice a1 n1 c1, .slice a2 n2 c2, .slice a3 n3 c3, .slice a4 n4 c4, .slice a5 n5 c5, .slice a6 n6 c6] 30)))
  clear hs2 HS1
  go_wp2_with fail
  refine (readPassed_b l hl _).mono ?_
  rintro e w3 ⟨hs3, a, n, c, rfl⟩
  rw [E3.out]
  have HS3 := Lib.hid (HS2.out.trans hs3)
  clear hs3 HS2
  obtain ⟨bb, ebb⟩ : ∃ bb, w3.heap.size = bb := ⟨_, rfl⟩
  obtain ⟨w4, ew4⟩ : ∃ w4, w3.alloc (.cells #[.bool b1, .bool b2, .bool b3] 4) = w4 := ⟨_, rfl⟩
  have HB := Lib.hid (show w4.heap[bb]? = some (.cells #[.bool b1, .bool b2, .bool b3] 4 (0, 0)) by rw [← ew4, ← ebb]; exact heap_new _ _)
  have HS4 := Lib.hid (show Same w w4 by rw [← ew4]; exact HS3.out.trans ((Same.refl _).alloc _))
  have EW4 := Lib.hid ew4
  have EBB := Lib.hid ebb
  clear ew4 ebb HS3
  go_upto_region 6 with fail
  try rw [EW4.out, EBB.out]
  go_wp2_with fail
  go_loopw [9, 32] (fun s9 s32 wr => ∃ i : Nat, s32 = .int .i64 i ∧ i ≤ 3 ∧ s9 = .int .i64 (([b1, b2, b3].take i).count true : Nat) ∧ Hid (wr.heap[bb]? = some (.cells #[.bool b1, .bool b2, .bool b3] 4 (0, 0)) ∧ Same w wr)) (fun _ s32 _ => 3 - (intOf s32).toNat)
  case atStart => exact ⟨0, rfl, by omega, rfl, Lib.hid ⟨HB.out, HS4.out⟩⟩
  case round =>
    obtain ⟨i, rfl, hi', rfl, hH⟩ := hrel
    have hcase : i = 0 ∨ i = 1 ∨ i = 2 ∨ i = 3 := by omega
    clear hi'
    rcases hcase with rfl | rfl | rfl | rfl
    · rw [show ((0 : Nat) : Int) = 0 from rfl]
      have c0 : wr.cell? ⟨bb, 0, none⟩ = some (.bool b1) := by rw [cell_at hH.out.1]; rfl
      have HC := Lib.hid (show ([b1, b2, b3].take (0 + 1)).count true = ([b1, b2, b3].take 0).count true + b1.toNat by cases b1 <;> cases b2 <;> cases b3 <;> rfl)
      have hq : ([b1, b2, b3].take 0).count true ≤ 3 := by cases b1 <;> cases b2 <;> cases b3 <;> decide
      obtain ⟨q, eq⟩ : ∃ q, ([b1, b2, b3].take 0).count true = q := ⟨_, rfl⟩
      rw [eq] at HC hq ⊢
      clear eq
      have hq0 : (0 : Int) ≤ q := by omega
      have hq3 : (q : Int) ≤ 3 := by omega
      cases b1
      · go_wp2_with fail
        go_roundw
        case rel => exact ⟨0 + 1, by go_num, by omega, by rw [HC.out]; simp, hH⟩
        case measure => simp [intOf]
      · go_wp2_with fail
        go_roundw
        case rel => exact ⟨0 + 1, by go_num, by omega, by rw [HC.out]; simp, hH⟩
        case measure => simp [intOf]
    · rw [show ((1 : Nat) : Int) = 1 from rfl]
      have c0 : wr.cell? ⟨bb, 1, none⟩ = some (.bool b2) := by rw [cell_at hH.out.1]; rfl
      have HC := Lib.hid (show ([b1, b2, b3].take (1 + 1)).count true = ([b1, b2, b3].take 1).count true + b2.toNat by cases b1 <;> cases b2 <;> cases b3 <;> rfl)
      have hq : ([b1, b2, b3].take 1).count true ≤ 3 := by cases b1 <;> cases b2 <;> cases b3 <;> decide
      obtain ⟨q, eq⟩ : ∃ q, ([b1, b2, b3].take 1).count true = q := ⟨_, rfl⟩
      rw [eq] at HC hq ⊢
      clear eq
      have hq0 : (0 : Int) ≤ q := by omega
      have hq3 : (q : Int) ≤ 3 := by omega
      cases b2
      · go_wp2_with fail
        go_roundw
        case rel => exact ⟨1 + 1, by go_num, by omega, by rw [HC.out]; simp, hH⟩
        case measure => simp [intOf]
      · go_wp2_with fail
        go_roundw
        case rel => exact ⟨1 + 1, by go_num, by omega, by rw [HC.out]; simp, hH⟩
        case measure => simp [intOf]
    · rw [show ((2 : Nat) : Int) = 2 from rfl]
      have c0 : wr.cell? ⟨bb, 2, none⟩ = some (.bool b3) := by rw [cell_at hH.out.1]; rfl
      have HC := Lib.hid (show ([b1, b2, b3].take (2 + 1)).count true = ([b1, b2, b3].take 2).count true + b3.toNat by cases b1 <;> cases b2 <;> cases b3 <;> rfl)
      have hq : ([b1, b2, b3].take 2).count true ≤ 3 := by cases b1 <;> cases b2 <;> cases b3 <;> decide
      obtain ⟨q, eq⟩ : ∃ q, ([b1, b2, b3].take 2).count true = q := ⟨_, rfl⟩
      rw [eq] at HC hq ⊢
      clear eq
      have hq0 : (0 : Int) ≤ q := by omega
      have hq3 : (q : Int) ≤ 3 := by omega
      cases b3
      · go_wp2_with fail
        go_roundw
        case rel => exact ⟨2 + 1, by go_num, by omega, by rw [HC.out]; simp, hH⟩
        case measure => simp [intOf]
      · go_wp2_with fail
        go_roundw
        case rel => exact ⟨2 + 1, by go_num, by omega, by rw [HC.out]; simp, hH⟩
        case measure => simp [intOf]
    · rw [show ((3 : Nat) : Int) = 3 from rfl]
      have HC := Lib.hid (show ([b1, b2, b3].take 3).count true = knd l by rw [HK.out]; cases b1 <;> cases b2 <;> cases b3 <;> rfl)
      rw [HC.out]
      go_wp2_with fail
      go_ret
      exact ⟨rfl, hH.out.2⟩
theorem some_of {α : Type} {o : Option α} (h : o.isSome = true) : ∃ x, o = some x := Option.isSome_iff_exists.1 h
theorem knd_one (l : Bs) : knd l ≤ 1 := by
  unfold knd
  rcases h1 : rd 1 letterC l with _ | x
  · rcases h2 : rd 2 mixC l with _ | y
    · rcases h3 : rd 3 passlC l with _ | z <;> simp
    · rw [rd_kinds (k := 3) (B := passlC) (by decide) h2]; simp
  · rw [rd_kinds (k := 2) (B := mixC) (by decide) h1, rd_kinds (k := 3) (B := passlC) (by decide) h1]; simp
theorem knd_cut {l : Bs} {c : Nat} (h : knd l ≠ 0) (hc : c < l.length) : knd (l.take c) = 0 := by
  unfold knd at h ⊢
  have key : ∀ {α : Type} {j : UInt8} {A : Cod α} {x : α}, rd j A l = some x → (j = 1 → HEq A letterC ∧ α = LetterD) → (j = 2 → HEq A mixC ∧ α = MixD) → (j = 3 → HEq A passlC ∧ α = List PassD) → rd 1 letterC (l.take c) = none ∧ rd 2 mixC (l.take c) = none ∧ rd 3 passlC (l.take c) = none :=
    fun {α j A x} hx k1 k2 k3 => ⟨rd_cut k1 hx hc, rd_cut k2 hx hc, rd_cut k3 hx hc⟩
  have fin : rd 1 letterC (l.take c) = none ∧ rd 2 mixC (l.take c) = none ∧ rd 3 passlC (l.take c) = none := by
    rcases h1 : rd 1 letterC l with _ | x
    · rcases h2 : rd 2 mixC l with _ | y
      · rcases h3 : rd 3 passlC l with _ | z
        · rw [h1, h2, h3] at h; exact absurd rfl h
        · exact key h3 (fun e => absurd e (by decide)) (fun e => absurd e (by decide)) (fun _ => ⟨HEq.rfl, rfl⟩)
      · exact key h2 (fun e => absurd e (by decide)) (fun _ => ⟨HEq.rfl, rfl⟩) (fun e => absurd e (by decide))
    · exact key h1 (fun _ => ⟨HEq.rfl, rfl⟩) (fun e => absurd e (by decide)) (fun e => absurd e (by decide))
  rw [fin.1, fin.2.1, fin.2.2]; rfl
set_option maxHeartbeats 1600000 in
theorem lawKinds (s : ByteArray) (x : Int) (w : World) :
    Calls Try.prog 5 #[.string s, .int .i64 x] w fun e w' => e = .returned (.bool true) ∧ Same w w' := by
  obtain ⟨l, rfl⟩ : ∃ l, ofL l = s := ⟨s.toList, of_toList s⟩
  have hsz := size_ofL l
  obtain ⟨m, em⟩ : ∃ m, l.length = m := ⟨_, rfl⟩
  rw [em] at hsz
  have EM := Lib.hid em
  have HX := Lib.hid (show ∀ c : Nat, (ofL l).extract 0 c = ofL (l.take c) from fun c => take_ofL l c)
  have hen : ∀ (args : Array Value) (w : World), (callFunc 18 args).run Try.prog w = .ok (.enter 18 args) w := fun _ _ => by kernel_rfl
  have hm0 : (0 : Int) ≤ m := by omega
  clear em
  go_enter Try.func5, Try.ntmps5
  go_wp2_with fail
  refine (awake_any w).mono ?_
  rintro e w1 ⟨rfl, hs1⟩
  have HS1 := Lib.hid hs1
  clear hs1
  by_cases h1 : 20000 < m
  · have d0 : decide ((m : Int) > 20000) = true := decide_eq_true (by omega)
    go_wp2_with fail
    go_ret
    exact ⟨rfl, HS1.out⟩
  have d0 : decide ((m : Int) > 20000) = false := decide_eq_false (by omega)
  by_cases h2 : x < 0
  · have d1 : decide (x < 0) = true := decide_eq_true h2
    go_wp2_with fail
    go_ret
    exact ⟨rfl, HS1.out⟩
  have d1 : decide (x < 0) = false := decide_eq_false h2
  by_cases h3 : x ≥ m
  · have d2 : decide (x ≥ (m : Int)) = true := decide_eq_true h3
    go_wp2_with fail
    go_ret
    exact ⟨rfl, HS1.out⟩
  have d2 : decide (x ≥ (m : Int)) = false := decide_eq_false h3
  obtain ⟨c, rfl⟩ : ∃ c : Nat, x = c := ⟨x.toNat, by omega⟩
  have hl : l.length ≤ 1000000000 := by rw [EM.out]; omega
  go_wp2_with fail
  refine (kinds_any l hl w1).mono ?_
  rintro e w2 ⟨rfl, hs2⟩
  have HS2 := Lib.hid (HS1.out.trans hs2)
  have h1n := knd_one l
  obtain ⟨n, en⟩ : ∃ n, knd l = n := ⟨_, rfl⟩
  rw [en] at h1n ⊢
  have EN := Lib.hid en
  have hn1 : (n : Int) ≤ 1 := by omega
  have hn0 : (0 : Int) ≤ n := by omega
  have e1 : decide ((n : Int) ≤ 1) = true := decide_eq_true hn1
  have hc0 : (0 : Int) ≤ c := by omega
  have hcm : (c : Int) ≤ m := by omega
  have hcn : (c : Int).toNat = c := by omega
  clear hs2 en
  by_cases h0 : n = 0
  · subst h0
    go_wp2_with fail
    go_ret
    exact ⟨rfl, HS2.out⟩
  · obtain rfl : n = 1 := by omega
    have hk0 := knd_cut (l := l) (c := c) (by rw [EN.out]; omega) (by rw [EM.out]; omega)
    go_wp2_with fail
    try rw [HX.out]
    refine (kinds_any (l.take c) (by rw [List.length_take]; omega) w2).mono ?_
    rintro e w3 ⟨rfl, hs3⟩
    rw [hk0]
    have HS3 := Lib.hid (HS2.out.trans hs3)
    clear hs3
    go_wp2_with fail
    go_ret
    exact ⟨rfl, HS3.out⟩
end Go.Proofs.Ytdbhcdhenapfoaa
