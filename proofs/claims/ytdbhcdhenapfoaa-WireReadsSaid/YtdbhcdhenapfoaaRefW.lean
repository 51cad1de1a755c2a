/- Layer 10: the document's mixings as bytes. -/
import Derived.Test.YtdbhcdhenapfoaaRefV
import Derived.Deep.RegionHeld3
set_option linter.unusedVariables false
set_option linter.unusedSimpArgs false
namespace Go.Proofs.Ytdbhcdhenapfoaa
open Go.RowKit Go.Maps
theorem mix_cells {w : World} {b : Nat} {a0 : Option Addr} {n0 c0 : Nat} {a1 : Option Addr} {n1 c1 : Nat} {a2 : Option Addr} {n2 c2 : Nat} {a3 : Option Addr} {n3 c3 : Nat} {a4 : Option Addr} {n4 c4 : Nat} {a5 : Option Addr} {n5 c5 : Nat} {a6 : Option Addr} {n6 c6 : Nat} (h : w.heap[b]? = some (.cells #[.slice a0 n0 c0, .slice a1 n1 c1, .slice a2 n2 c2, .slice a3 n3 c3, .slice a4 n4 c4, .slice a5 n5 c5, .slice a6 n6 c6] 30 (0, 0))) : w.cell? ⟨b, 0, none⟩ = some (.slice a0 n0 c0) ∧ w.cell? ⟨b, 1, none⟩ = some (.slice a1 n1 c1) ∧ w.cell? ⟨b, 2, none⟩ = some (.slice a2 n2 c2) ∧ w.cell? ⟨b, 3, none⟩ = some (.slice a3 n3 c3) ∧ w.cell? ⟨b, 4, none⟩ = some (.slice a4 n4 c4) ∧ w.cell? ⟨b, 5, none⟩ = some (.slice a5 n5 c5) ∧ w.cell? ⟨b, 6, none⟩ = some (.slice a6 n6 c6) :=
  ⟨by rw [cell_at h]; rfl, by rw [cell_at h]; rfl, by rw [cell_at h]; rfl, by rw [cell_at h]; rfl, by rw [cell_at h]; rfl, by rw [cell_at h]; rfl, by rw [cell_at h]; rfl⟩
theorem shown_cells {w : World} {b : Nat} {a2 : Option Addr} {n2 c2 : Nat} {a3 : Option Addr} {n3 c3 : Nat} {a4 : Option Addr} {n4 c4 : Nat} {a5 : Option Addr} {n5 c5 : Nat} {a6 : Option Addr} {n6 c6 : Nat} (h : w.heap[b]? = some (.cells #[.slice a2 n2 c2, .slice a3 n3 c3, .slice a4 n4 c4, .slice a5 n5 c5, .slice a6 n6 c6] 28 (0, 0))) : w.cell? ⟨b, 0, none⟩ = some (.slice a2 n2 c2) ∧ w.cell? ⟨b, 1, none⟩ = some (.slice a3 n3 c3) ∧ w.cell? ⟨b, 2, none⟩ = some (.slice a4 n4 c4) ∧ w.cell? ⟨b, 3, none⟩ = some (.slice a5 n5 c5) ∧ w.cell? ⟨b, 4, none⟩ = some (.slice a6 n6 c6) :=
  ⟨by rw [cell_at h]; rfl, by rw [cell_at h]; rfl, by rw [cell_at h]; rfl, by rw [cell_at h]; rfl, by rw [cell_at h]; rfl⟩
/-- a letter's cells -/
abbrev LtAt (w : World) (bk o : Nat) (x0 x1 x2 x3 x4 x5 : Int) (ya : Option Addr) (yn yc : Nat) (za : Option Addr) (zn zc : Nat) : Prop := w.cell? ⟨bk, o, none⟩ = some (.int .u64 x0) ∧ w.cell? ⟨bk, o + 1, none⟩ = some (.int .u64 x1) ∧ w.cell? ⟨bk, o + 2, none⟩ = some (.int .u64 x2) ∧ w.cell? ⟨bk, o + 3, none⟩ = some (.int .u64 x3) ∧ w.cell? ⟨bk, o + 4, none⟩ = some (.int .u64 x4) ∧ w.cell? ⟨bk, o + 5, none⟩ = some (.int .u64 x5) ∧ w.cell? ⟨bk, o + 6, none⟩ = some (.slice ya yn yc) ∧ w.cell? ⟨bk, o + 7, none⟩ = some (.slice za zn zc)
theorem LtAt.same {w w' : World} {bk o : Nat} {x0 x1 x2 x3 x4 x5 : Int} {ya : Option Addr} {yn yc : Nat} {za : Option Addr} {zn zc : Nat} (h : LtAt w bk o x0 x1 x2 x3 x4 x5 ya yn yc za zn zc) (hs : Same w w') : LtAt w' bk o x0 x1 x2 x3 x4 x5 ya yn yc za zn zc :=
  ⟨same_cell hs h.1, same_cell hs h.2.1, same_cell hs h.2.2.1, same_cell hs h.2.2.2.1, same_cell hs h.2.2.2.2.1, same_cell hs h.2.2.2.2.2.1, same_cell hs h.2.2.2.2.2.2.1, same_cell hs h.2.2.2.2.2.2.2⟩
/-- what is mixed, as the document writes it -/
theorem listC_len {α : Type} {A : Cod α} {m K : Nat} {xs : List α} (h : (listC m A).ok xs) (hK : ∀ x, A.ok x → (A.enc x).length ≤ K) : ((listC m A).enc xs).length ≤ 2 + K * m := by
  show (encC xs.length ++ xs.flatMap A.enc).length ≤ _
  have h1 := flat_le (f := A.enc) (K := K) xs (fun x hx => hK x (h.2 x hx))
  have h2 : (encC xs.length).length = 2 := rfl
  have h3 : K * xs.length ≤ K * m := Nat.mul_le_mul_left _ h.1.1
  rw [List.length_append]; omega
set_option maxRecDepth 20000 in
set_option maxHeartbeats 6400000 in
theorem rMixing_any (a0 : Option Addr) (n0 c0 : Nat) (a1 : Option Addr) (n1 c1 : Nat) (a2 : Option Addr) (n2 c2 : Nat) (a3 : Option Addr) (n3 c3 : Nat) (a4 : Option Addr) (n4 c4 : Nat) (a5 : Option Addr) (n5 c5 : Nat) (a6 : Option Addr) (n6 c6 : Nat) (x : MixD) (w : World) (hx : MixIn w a0 n0 a1 n1 a2 n2 a3 n3 a4 n4 a5 n5 a6 n6 x) :
    Calls Try.prog 11 #[.agg #[.slice a0 n0 c0, .slice a1 n1 c1, .slice a2 n2 c2, .slice a3 n3 c3, .slice a4 n4 c4, .slice a5 n5 c5, .slice a6 n6 c6]] w fun z w' =>
      Same w w' ∧ ((mixC.ok x ∧ z = .returned (.tuple #[.string (ofL (2 :: mixC.enc x)), .bool true])) ∨ (¬ mixC.ok x ∧ z = .returned (.tuple #[.string { data := #[] }, .bool false]))) := by
  obtain ⟨ls, bs, xa, xo, xp, pr⟩ := x
  have HI := Lib.hid hx
  have HNL := Lib.hid (show ls.length = n0 from hx.o0.len)
  have HNB := Lib.hid (show bs.length = n1 from hx.o1.len)
  obtain ⟨lb, elb⟩ : ∃ lb, w.heap.size = lb := ⟨_, rfl⟩
  obtain ⟨w0, ew0⟩ : ∃ w0, w.alloc (.cells #[.slice a0 n0 c0, .slice a1 n1 c1, .slice a2 n2 c2, .slice a3 n3 c3, .slice a4 n4 c4, .slice a5 n5 c5, .slice a6 n6 c6] 30) = w0 := ⟨_, rfl⟩
  have hS0 : Same w w0 := by rw [← ew0]; exact (Same.refl w).alloc _
  have hB0 : w0.heap[lb]? = some (.cells #[.slice a0 n0 c0, .slice a1 n1 c1, .slice a2 n2 c2, .slice a3 n3 c3, .slice a4 n4 c4, .slice a5 n5 c5, .slice a6 n6 c6] 30 (0, 0)) := by rw [← ew0, ← elb]; exact heap_new _ _
  obtain ⟨sb, esb⟩ : ∃ sb, w0.heap.size = sb := ⟨_, rfl⟩
  obtain ⟨w1, ew1⟩ : ∃ w1, w0.alloc (.cells #[.slice a2 n2 c2, .slice a3 n3 c3, .slice a4 n4 c4, .slice a5 n5 c5, .slice a6 n6 c6] 28) = w1 := ⟨_, rfl⟩
  have hS1 : Same w0 w1 := by rw [← ew1]; exact (Same.refl w0).alloc _
  have HSH1 := Lib.hid (show w1.heap[sb]? = some (.cells #[.slice a2 n2 c2, .slice a3 n3 c3, .slice a4 n4 c4, .slice a5 n5 c5, .slice a6 n6 c6] 28 (0, 0)) by rw [← ew1, ← esb]; exact heap_new _ _)
  have HB1 := Lib.hid (hS1.keep hB0)
  have HS1 := Lib.hid (hS0.trans hS1)
  obtain ⟨g0, g1, g2, g3, g4, g5, g6⟩ := mix_cells hB0
  have EW0 := Lib.hid ew0
  have ELB := Lib.hid elb
  have EW1 := Lib.hid ew1
  have ESB := Lib.hid esb
  clear hx ew0 elb ew1 esb hS0 hS1 hB0
  go_enter Try.func11, Try.ntmps11
  go_upto_region 1 with fail
  rw [EW0.out, ELB.out]
  go_upto_region 2 with fail
  rw [EW1.out, ESB.out]
  clear g0 g1 g2 g3 g4 g5 g6
  obtain ⟨g0, g1, g2, g3, g4, g5, g6⟩ := mix_cells HB1.out
  obtain ⟨s0, s1, s2, s3, s4⟩ := shown_cells HSH1.out
  by_cases hb0 : n0 ≤ 8
  case neg =>
    have d0 : decide ((n0 : Int) > 8) = true := decide_eq_true (by omega)
    have HNO := Lib.hid (show ¬ mixC.ok (ls, bs, xa, xo, xp, pr) from fun h => hb0 (by have h1 := h.1.1.1; have h2 := HNL.out; simp only at h1 h2; omega))
    go_wp2_with fail
    go_ret2
    exact ⟨HS1.out, Or.inr ⟨HNO.out, rfl⟩⟩
  have d0 : decide ((n0 : Int) > 8) = false := decide_eq_false (by omega)
  by_cases hb1 : n1 ≤ 8
  case neg =>
    have d1 : decide ((n1 : Int) > 8) = true := decide_eq_true (by omega)
    have HNO := Lib.hid (show ¬ mixC.ok (ls, bs, xa, xo, xp, pr) from fun h => hb1 (by have h1 := h.2.1.1.1; have h2 := HNB.out; simp only at h1 h2; omega))
    go_wp2_with fail
    go_ret2
    exact ⟨HS1.out, Or.inr ⟨HNO.out, rfl⟩⟩
  have d1 : decide ((n1 : Int) > 8) = false := decide_eq_false (by omega)
  by_cases hb2 : n2 ≤ 64
  case neg =>
    have d2 : decide ((n2 : Int) > 64) = true := decide_eq_true (by omega)
    have HNO := Lib.hid (show ¬ mixC.ok (ls, bs, xa, xo, xp, pr) from fun h => hb2 (by have h1 := h.2.2.1.1.1; have h2 := HI.out.o2.len; simp only at h1 h2; omega))
    go_wp2_with fail
    go_ret2
    exact ⟨HS1.out, Or.inr ⟨HNO.out, rfl⟩⟩
  have d2 : decide ((n2 : Int) > 64) = false := decide_eq_false (by omega)
  by_cases hb3 : n3 ≤ 64
  case neg =>
    have d3 : decide ((n3 : Int) > 64) = true := decide_eq_true (by omega)
    have HNO := Lib.hid (show ¬ mixC.ok (ls, bs, xa, xo, xp, pr) from fun h => hb3 (by have h1 := h.2.2.2.1.1.1; have h2 := HI.out.o3.len; simp only at h1 h2; omega))
    go_wp2_with fail
    go_ret2
    exact ⟨HS1.out, Or.inr ⟨HNO.out, rfl⟩⟩
  have d3 : decide ((n3 : Int) > 64) = false := decide_eq_false (by omega)
  by_cases hb4 : n4 ≤ 64
  case neg =>
    have d4 : decide ((n4 : Int) > 64) = true := decide_eq_true (by omega)
    have HNO := Lib.hid (show ¬ mixC.ok (ls, bs, xa, xo, xp, pr) from fun h => hb4 (by have h1 := h.2.2.2.2.1.1.1; have h2 := HI.out.o4.len; simp only at h1 h2; omega))
    go_wp2_with fail
    go_ret2
    exact ⟨HS1.out, Or.inr ⟨HNO.out, rfl⟩⟩
  have d4 : decide ((n4 : Int) > 64) = false := decide_eq_false (by omega)
  go_wp2_with fail
  refine (rshort_any a5 n5 c5 a6 n6 c6 w1).mono ?_
  rintro e w2 ⟨rfl, hs2⟩
  have HS2 := Lib.hid (HS1.out.trans hs2)
  have HB2 := Lib.hid (hs2.keep HB1.out)
  have HSH2 := Lib.hid (hs2.keep HSH1.out)
  clear hs2 g0 g1 g2 g3 g4 g5 g6 s0 s1 s2 s3 s4 d0 d1 d2 d3 d4
  by_cases hfit : n5 ≤ 64 ∧ n6 ≤ 64
  case neg =>
    have HNO := Lib.hid (show ¬ mixC.ok (ls, bs, xa, xo, xp, pr) from fun h => hfit ⟨by have h1 := h.2.2.2.2.2.1.1.1; have h2 := HI.out.o5.len; simp only at h1 h2; omega, by have h1 := h.2.2.2.2.2.2.1.1; have h2 := HI.out.o6.len; simp only at h1 h2; omega⟩)
    have HE := Lib.hid (show (decide (n5 ≤ 64) && decide (n6 ≤ 64)) = false by simp; intro h; simp at hfit; exact hfit h)
    rw [HE.out]
    go_wp2_with fail
    go_ret2
    exact ⟨HS2.out, Or.inr ⟨HNO.out, rfl⟩⟩
  obtain ⟨hb5, hb6⟩ := hfit
  have HE := Lib.hid (show (decide (n5 ≤ 64) && decide (n6 ≤ 64)) = true by simp [hb5, hb6])
  rw [HE.out]
  obtain ⟨g0, g1, g2, g3, g4, g5, g6⟩ := mix_cells HB2.out
  go_wp2_with fail
  refine (rcount_s n0 (by omega) w2).mono ?_
  rintro e w3 ⟨rfl, hs3⟩
  have HS3 := Lib.hid (HS2.out.trans hs3)
  have HB3 := Lib.hid (hs3.keep HB2.out)
  have HSH3 := Lib.hid (hs3.keep HSH2.out)
  obtain ⟨C, eC⟩ : ∃ C, ofL (encC n0) = C := ⟨_, rfl⟩
  have hsc : C.size = 2 := by rw [← eC, size_ofL]; rfl
  have hcc : ¬ (1 + C.size > 9223372036854775807) := by omega
  have HA := Lib.hid (show ({ data := #[2] } : ByteArray) ++ C = ofL (2 :: encC n0) by rw [← eC, show ({ data := #[2] } : ByteArray) = ofL [2] from rfl, append_ofL]; rfl)
  rw [eC]
  have hn00 : (0 : Int) ≤ n0 := by omega
  clear hs3 g0 g1 g2 g3 g4 g5 g6 eC
  go_wp2_with fail
  go_loopw [5, 6] (fun s5 s6 wr => ∃ i : Nat, s6 = .int .i64 i ∧ i ≤ n0 ∧ s5 = .string (ofL (2 :: encC n0 ++ (ls.take i).flatMap letterC.enc)) ∧ Hid (Same w3 wr ∧ ∀ x ∈ ls.take i, letterC.ok x)) (fun _ s6 _ => n0 - (intOf s6).toNat)
  case atStart => exact ⟨0, rfl, by omega, by rw [HA.out]; simp, Lib.hid ⟨Same.refl _, by simp⟩⟩
  case round =>
    obtain ⟨i, rfl, hi', rfl, hH⟩ := hrel
    obtain ⟨wo, rfl⟩ : ∃ wz, wz = wr := ⟨_, rfl⟩
    clear hsc hcc
    have HSo := Lib.hid (HS3.out.trans hH.out.1)
    have HBo := Lib.hid (hH.out.1.keep HB3.out)
    obtain ⟨O, eO⟩ : ∃ O, ofL (2 :: encC n0 ++ (ls.take i).flatMap letterC.enc) = O := ⟨_, rfl⟩
    have HEO := Lib.hid eO
    rw [eO]
    have hso : O.size ≤ 10000 := by
      have h1 := flat_le (f := letterC.enc) (K := 1076) (ls.take i) (fun x hx => letter_len (hH.out.2 x hx))
      rw [List.length_take] at h1
      rw [← eO, size_ofL, List.length_append]
      have h2 : ((2 : UInt8) :: encC n0).length = 3 := rfl
      omega
    clear eO
    by_cases hlt : i < n0
    · have hi0 : (0 : Int) ≤ i := by omega
      have hi1 : (i : Int) < n0 := by omega
      obtain ⟨bk, off, x0, x1, x2, x3, x4, x5, ya, yn, yc, za, zn, zc, rfl, e2, hu, hc, q1, q2⟩ := (HI.out.o0.same HSo.out).it i hlt
      simp only at e2 q1 q2
      have HU := Lib.hid hu
      have HGE := Lib.hid (show ls.getD i ([], [], []) = ([x0, x1, x2, x3, x4, x5], (ls.getD i ([], [], [])).2) by rw [← e2])
      obtain ⟨p, ep⟩ : ∃ p, (ls.getD i ([], [], [])).2 = p := ⟨_, rfl⟩
      rw [ep] at q1 q2 HGE
      have HMEM := Lib.hid (getD_mem (d := (([], [], []) : LetterD)) (show i < ls.length by have := HNL.out; omega))
      have HTK := Lib.hid (take_flat letterC.enc ls i ([], [], []) (show i < ls.length by have := HNL.out; omega))
      have HOKN := Lib.hid (fun k => take_ok (ok := letterC.ok) (d := (([], [], []) : LetterD)) (show i < ls.length by have := HNL.out; omega) hH.out.2 k)
      rw [HGE.out] at HMEM HTK HOKN
      have Q1 := Lib.hid q1
      have Q2 := Lib.hid q2
      have HLT := Lib.hid (show LtAt wo bk (off + i * 8) x0 x1 x2 x3 x4 x5 ya yn yc za zn zc from ⟨hc 0 (by omega), hc 1 (by omega), hc 2 (by omega), hc 3 (by omega), hc 4 (by omega), hc 5 (by omega), hc 6 (by omega), hc 7 (by omega)⟩)
      obtain ⟨g0, g1, g2, g3, g4, g5, g6, g7⟩ := HLT.out
      obtain ⟨k0, k1, _, _, _, _, _⟩ := mix_cells HBo.out
      clear hu hc e2 ep q1 q2
      go_wp2_with fail
      refine (rshort_any ya yn yc za zn zc wo).mono ?_
      rintro e wa ⟨rfl, hsa⟩
      have HSa := Lib.hid (HSo.out.trans hsa)
      have HBa := Lib.hid (hsa.keep HBo.out)
      have HLa := Lib.hid (HLT.out.same hsa)
      have HOA := Lib.hid hsa
      have HDa := Lib.hid (hH.out.1.trans hsa)
      clear hsa g0 g1 g2 g3 g4 g5 g6 g7 k0 k1
      by_cases hfit : yn ≤ 64 ∧ zn ≤ 64
      case neg =>
        have HNO := Lib.hid (show ¬ mixC.ok (ls, bs, xa, xo, xp, pr) from fun h => hfit (by
          have h0 := (h.1.2 _ HMEM.out).2
          exact ⟨by have h1 := h0.1.1.1; have h2 := Q1.out.len; simp only at h1 h2; omega, by have h1 := h0.2.1.1; have h2 := Q2.out.len; simp only at h1 h2; omega⟩))
        have HE := Lib.hid (show (decide (yn ≤ 64) && decide (zn ≤ 64)) = false by simp; intro h; simp at hfit; exact hfit h)
        rw [HE.out]
        go_wp2_with fail
        go_ret2
        exact ⟨HSa.out, Or.inr ⟨HNO.out, rfl⟩⟩
      obtain ⟨h1, h2⟩ := hfit
      have HE := Lib.hid (show (decide (yn ≤ 64) && decide (zn ≤ 64)) = true by simp [h1, h2])
      rw [HE.out]
      have HOK := Lib.hid (show letterC.ok ([x0, x1, x2, x3, x4, x5], p) from ⟨⟨rfl, HU.out⟩, nums_fit Q1.out h1, nums_fit Q2.out h2⟩)
      obtain ⟨wd, ewd⟩ : ∃ wd, wa.drew = wd := ⟨_, rfl⟩
      have hsd : Same wa wd := by rw [← ewd]; exact drew_same _
      have HSO2 := Lib.hid (HOA.out.trans hsd)
      have HSD := Lib.hid (HDa.out.trans hsd)
      have HC := Lib.hid (And.intro (hsd.keep HBa.out) (And.intro (HLa.out.same hsd) (Same.refl wd)))
      have EWD := Lib.hid ewd
      obtain ⟨A, eA⟩ : ∃ A, ofL ([x0, x1, x2, x3, x4, x5].flatMap encN) = A := ⟨_, rfl⟩
      obtain ⟨B, eB⟩ : ∃ B, ofL (proofC.enc p) = B := ⟨_, rfl⟩
      have hsa : A.size = 48 := by rw [← eA, size_ofL, flat_len]; rfl
      have hsb : B.size ≤ 1028 := by rw [← eB, size_ofL]; exact proof_len HOK.out.2
      have hc1 : ¬ (O.size + A.size > 9223372036854775807) := by omega
      have hc2 : ¬ (O.size + A.size + B.size > 9223372036854775807) := by omega
      have HA2 := Lib.hid (show O ++ A ++ B = ofL (2 :: encC n0 ++ (ls.take (i + 1)).flatMap letterC.enc) by
        rw [← eA, ← eB, ← HEO.out, append_ofL, append_ofL, HTK.out, List.append_assoc, List.append_assoc]; rfl)
      have EA2 := Lib.hid eA
      have EB2 := Lib.hid eB
      clear ewd hsd eA eB hsa hsb
      go_upto_region 10 with fail
      refine wp_region_held_drew (S := fun w' => Hid (w'.heap[lb]? = some (.cells #[.slice (some ⟨bk, off, none⟩) n0 c0, .slice a1 n1 c1, .slice a2 n2 c2, .slice a3 n3 c3, .slice a4 n4 c4, .slice a5 n5 c5, .slice a6 n6 c6] 30 (0, 0)) ∧ LtAt w' bk (off + i * 8) x0 x1 x2 x3 x4 x5 ya yn yc za zn zc ∧ Same wd w')) (by kernel_rfl) (by rw [EWD.out]; exact HC) (fun hHeld => ?_)
      rw [EWD.out] at hHeld ⊢
      refine wpAnyH_take (i := 0) (v := ?_) rfl (by kernel_rfl) (by kernel_rfl) (by kernel_rfl) (fun _ _ _ h => h) (Or.inl ⟨by rfl, ?_⟩) (by assumption) ?_
      rotate_left
      · intro w hSw; obtain ⟨k0, k1, k2, k3, k4, k5, k6⟩ := mix_cells hSw.out.1; obtain ⟨q0, q1, q2, q3, q4, q5, q6, q7⟩ := hSw.out.2.1; go_simp; try with_reducible rfl
      try simp only [Act.put, List.getElem_toArray, List.getElem_cons_succ, List.getElem_cons_zero, List.setIfInBounds_toArray, List.set_cons_zero, List.set_cons_succ]
      refine wpAnyH_take (i := 1) (v := ?_) rfl (by kernel_rfl) (by kernel_rfl) (by kernel_rfl) (fun _ _ _ h => h) (Or.inl ⟨by rfl, ?_⟩) (by assumption) ?_
      rotate_left
      · intro w hSw; obtain ⟨k0, k1, k2, k3, k4, k5, k6⟩ := mix_cells hSw.out.1; obtain ⟨q0, q1, q2, q3, q4, q5, q6, q7⟩ := hSw.out.2.1; go_simp; try with_reducible rfl
      try simp only [Act.put, List.getElem_toArray, List.getElem_cons_succ, List.getElem_cons_zero, List.setIfInBounds_toArray, List.set_cons_zero, List.set_cons_succ]
      refine wpAnyH_take (i := 2) (v := ?_) rfl (by kernel_rfl) (by kernel_rfl) (by kernel_rfl) (fun _ _ _ h => h) (Or.inl ⟨by rfl, ?_⟩) (by assumption) ?_
      rotate_left
      · intro w hSw; obtain ⟨k0, k1, k2, k3, k4, k5, k6⟩ := mix_cells hSw.out.1; obtain ⟨q0, q1, q2, q3, q4, q5, q6, q7⟩ := hSw.out.2.1; go_simp; try with_reducible rfl
      try simp only [Act.put, List.getElem_toArray, List.getElem_cons_succ, List.getElem_cons_zero, List.setIfInBounds_toArray, List.set_cons_zero, List.set_cons_succ]
      refine wpAnyH_take (i := 3) (v := ?_) rfl (by kernel_rfl) (by kernel_rfl) (by kernel_rfl) (fun _ _ _ h => h) (Or.inl ⟨by rfl, ?_⟩) (by assumption) ?_
      rotate_left
      · intro w hSw; obtain ⟨k0, k1, k2, k3, k4, k5, k6⟩ := mix_cells hSw.out.1; obtain ⟨q0, q1, q2, q3, q4, q5, q6, q7⟩ := hSw.out.2.1; go_simp; try with_reducible rfl
      try simp only [Act.put, List.getElem_toArray, List.getElem_cons_succ, List.getElem_cons_zero, List.setIfInBounds_toArray, List.set_cons_zero, List.set_cons_succ]
      refine wpAnyH_take (i := 4) (v := ?_) rfl (by kernel_rfl) (by kernel_rfl) (by kernel_rfl) (fun _ _ _ h => h) (Or.inl ⟨by rfl, ?_⟩) (by assumption) ?_
      rotate_left
      · intro w hSw; obtain ⟨k0, k1, k2, k3, k4, k5, k6⟩ := mix_cells hSw.out.1; obtain ⟨q0, q1, q2, q3, q4, q5, q6, q7⟩ := hSw.out.2.1; go_simp; try with_reducible rfl
      try simp only [Act.put, List.getElem_toArray, List.getElem_cons_succ, List.getElem_cons_zero, List.setIfInBounds_toArray, List.set_cons_zero, List.set_cons_succ]
      refine wpAnyH_take (i := 5) (v := ?_) rfl (by kernel_rfl) (by kernel_rfl) (by kernel_rfl) (fun _ _ _ h => h) (Or.inl ⟨by rfl, ?_⟩) (by assumption) ?_
      rotate_left
      · intro w hSw; obtain ⟨k0, k1, k2, k3, k4, k5, k6⟩ := mix_cells hSw.out.1; obtain ⟨q0, q1, q2, q3, q4, q5, q6, q7⟩ := hSw.out.2.1; go_simp; try with_reducible rfl
      try simp only [Act.put, List.getElem_toArray, List.getElem_cons_succ, List.getElem_cons_zero, List.setIfInBounds_toArray, List.set_cons_zero, List.set_cons_succ]
      refine wpAnyH_take (i := 6) (v := ?_) rfl (by kernel_rfl) (by kernel_rfl) (by kernel_rfl) (fun _ _ _ h => h) (Or.inl ⟨by rfl, ?_⟩) (by assumption) ?_
      rotate_left
      · intro w hSw; obtain ⟨k0, k1, k2, k3, k4, k5, k6⟩ := mix_cells hSw.out.1; obtain ⟨q0, q1, q2, q3, q4, q5, q6, q7⟩ := hSw.out.2.1; go_simp; try with_reducible rfl
      try simp only [Act.put, List.getElem_toArray, List.getElem_cons_succ, List.getElem_cons_zero, List.setIfInBounds_toArray, List.set_cons_zero, List.set_cons_succ]
      refine wpAnyH_take (i := 9) (v := ?_) rfl (by kernel_rfl) (by kernel_rfl) (by kernel_rfl) (fun _ _ _ h => h) (Or.inl ⟨by rfl, ?_⟩) (by assumption) ?_
      rotate_left
      · intro w hSw; obtain ⟨k0, k1, k2, k3, k4, k5, k6⟩ := mix_cells hSw.out.1; obtain ⟨q0, q1, q2, q3, q4, q5, q6, q7⟩ := hSw.out.2.1; go_simp; try with_reducible rfl
      try simp only [Act.put, List.getElem_toArray, List.getElem_cons_succ, List.getElem_cons_zero, List.setIfInBounds_toArray, List.set_cons_zero, List.set_cons_succ]
      refine wpAnyH_take (i := 10) (v := ?_) rfl (by kernel_rfl) (by kernel_rfl) (by kernel_rfl) (fun _ _ _ h => h) (Or.inl ⟨by rfl, ?_⟩) (by assumption) ?_
      rotate_left
      · intro w hSw; obtain ⟨k0, k1, k2, k3, k4, k5, k6⟩ := mix_cells hSw.out.1; obtain ⟨q0, q1, q2, q3, q4, q5, q6, q7⟩ := hSw.out.2.1; go_simp; try with_reducible rfl
      try simp only [Act.put, List.getElem_toArray, List.getElem_cons_succ, List.getElem_cons_zero, List.setIfInBounds_toArray, List.set_cons_zero, List.set_cons_succ]
      refine wpAnyH_take (i := 11) (v := ?_) rfl (by kernel_rfl) (by kernel_rfl) (by kernel_rfl) (fun _ _ _ h => h) (Or.inl ⟨by rfl, ?_⟩) (by assumption) ?_
      rotate_left
      · intro w hSw; obtain ⟨k0, k1, k2, k3, k4, k5, k6⟩ := mix_cells hSw.out.1; obtain ⟨q0, q1, q2, q3, q4, q5, q6, q7⟩ := hSw.out.2.1; go_simp; try with_reducible rfl
      try simp only [Act.put, List.getElem_toArray, List.getElem_cons_succ, List.getElem_cons_zero, List.setIfInBounds_toArray, List.set_cons_zero, List.set_cons_succ]
      refine wpAnyH_take (i := 12) (v := ?_) rfl (by kernel_rfl) (by kernel_rfl) (by kernel_rfl) (fun _ _ _ h => h) (Or.inl ⟨by rfl, ?_⟩) (by assumption) ?_
      rotate_left
      · intro w hSw; obtain ⟨k0, k1, k2, k3, k4, k5, k6⟩ := mix_cells hSw.out.1; obtain ⟨q0, q1, q2, q3, q4, q5, q6, q7⟩ := hSw.out.2.1; go_simp; try with_reducible rfl
      try simp only [Act.put, List.getElem_toArray, List.getElem_cons_succ, List.getElem_cons_zero, List.setIfInBounds_toArray, List.set_cons_zero, List.set_cons_succ]
      refine wpAnyH_take (i := 13) (v := ?_) rfl (by kernel_rfl) (by kernel_rfl) (by kernel_rfl) (fun _ _ _ h => h) (Or.inl ⟨by rfl, ?_⟩) (by assumption) ?_
      rotate_left
      · intro w hSw; obtain ⟨k0, k1, k2, k3, k4, k5, k6⟩ := mix_cells hSw.out.1; obtain ⟨q0, q1, q2, q3, q4, q5, q6, q7⟩ := hSw.out.2.1; go_simp; try with_reducible rfl
      try simp only [Act.put, List.getElem_toArray, List.getElem_cons_succ, List.getElem_cons_zero, List.setIfInBounds_toArray, List.set_cons_zero, List.set_cons_succ]
      refine wpAnyH_take (i := 14) (v := ?_) rfl (by kernel_rfl) (by kernel_rfl) (by kernel_rfl) (fun _ _ _ h => h) (Or.inl ⟨by rfl, ?_⟩) (by assumption) ?_
      rotate_left
      · intro w hSw; obtain ⟨k0, k1, k2, k3, k4, k5, k6⟩ := mix_cells hSw.out.1; obtain ⟨q0, q1, q2, q3, q4, q5, q6, q7⟩ := hSw.out.2.1; go_simp; try with_reducible rfl
      try simp only [Act.put, List.getElem_toArray, List.getElem_cons_succ, List.getElem_cons_zero, List.setIfInBounds_toArray, List.set_cons_zero, List.set_cons_succ]
      refine wpAnyH_ready (rs := [7]) (by kernel_rfl) (by simp) ?_
      refine AllReadyH.cons rfl (fun K hK => ?_) AllReadyH.nil
      go_simp
      refine (rboxs_any x0 x1 x2 x3 x4 x5 HU.out wd).mono ?_
      rintro e wx ⟨rfl, hs⟩
      rw [EA2.out]
      have hH2 := Lib.hid (And.intro (hs.keep hHeld.out.1) (And.intro (hHeld.out.2.1.same hs) (hHeld.out.2.2.trans hs)))
      clear hs hHeld
      go_wp2_with fail
      refine hK.out _ _ ?_ (fun hHeld => ?_)
      · exact hH2
      clear hK K
      try simp only [Act.put, List.getElem_toArray, List.getElem_cons_succ, List.getElem_cons_zero, List.setIfInBounds_toArray, List.set_cons_zero, List.set_cons_succ]
      clear hH2
      refine wpAnyH_take (i := 8) (v := ?_) rfl (by kernel_rfl) (by kernel_rfl) (by kernel_rfl) (fun _ _ _ h => h) (Or.inl ⟨by rfl, ?_⟩) (by assumption) ?_
      rotate_left
      · intro w hSw; obtain ⟨k0, k1, k2, k3, k4, k5, k6⟩ := mix_cells hSw.out.1; obtain ⟨q0, q1, q2, q3, q4, q5, q6, q7⟩ := hSw.out.2.1; go_simp; try with_reducible rfl
      try simp only [Act.put, List.getElem_toArray, List.getElem_cons_succ, List.getElem_cons_zero, List.setIfInBounds_toArray, List.set_cons_zero, List.set_cons_succ]
      refine wpAnyH_ready (rs := [15]) (by kernel_rfl) (by simp) ?_
      refine AllReadyH.cons rfl (fun K hK => ?_) AllReadyH.nil
      go_simp
      refine (rproofs_any ya yn yc za zn zc p h1 h2 wx (Q1.out.same (HSO2.out.trans hHeld.out.2.2)) (Q2.out.same (HSO2.out.trans hHeld.out.2.2))).mono ?_
      rintro e wy ⟨rfl, hs⟩
      rw [EB2.out]
      have hH2 := Lib.hid (And.intro (hs.keep hHeld.out.1) (And.intro (hHeld.out.2.1.same hs) (hHeld.out.2.2.trans hs)))
      clear hs hHeld
      go_wp2_with fail
      refine hK.out _ _ ?_ (fun hHeld => ?_)
      · exact hH2
      clear hK K
      try simp only [Act.put, List.getElem_toArray, List.getElem_cons_succ, List.getElem_cons_zero, List.setIfInBounds_toArray, List.set_cons_zero, List.set_cons_succ]
      clear hH2
      refine wpAnyH_take (i := 16) (v := ?_) rfl (by kernel_rfl) (by kernel_rfl) (by kernel_rfl) (fun _ _ _ h => h) (Or.inl ⟨by rfl, ?_⟩) (by assumption) ?_
      rotate_left
      · intro w hSw; obtain ⟨k0, k1, k2, k3, k4, k5, k6⟩ := mix_cells hSw.out.1; obtain ⟨q0, q1, q2, q3, q4, q5, q6, q7⟩ := hSw.out.2.1; go_simp; try with_reducible rfl
      try simp only [Act.put, List.getElem_toArray, List.getElem_cons_succ, List.getElem_cons_zero, List.setIfInBounds_toArray, List.set_cons_zero, List.set_cons_succ]
      refine wpAnyH_take (i := 17) (v := ?_) rfl (by kernel_rfl) (by kernel_rfl) (by kernel_rfl) (fun _ _ _ h => h) (Or.inl ⟨by rfl, ?_⟩) (by assumption) ?_
      rotate_left
      · intro w hSw; obtain ⟨k0, k1, k2, k3, k4, k5, k6⟩ := mix_cells hSw.out.1; obtain ⟨q0, q1, q2, q3, q4, q5, q6, q7⟩ := hSw.out.2.1; go_simp; try with_reducible rfl
      try simp only [Act.put, List.getElem_toArray, List.getElem_cons_succ, List.getElem_cons_zero, List.setIfInBounds_toArray, List.set_cons_zero, List.set_cons_succ]
      refine wpAnyH_done (by kernel_rfl) ?_ _
      have HF := Lib.hid (show Same w3 _ ∧ ∀ x ∈ ls.take (i + 1), letterC.ok x from ⟨HSD.out.trans hHeld.out.2.2, HOKN.out HOK.out⟩)
      clear hHeld
      go_wp2_with fail
      go_roundw
      case rel => exact ⟨i + 1, by go_num, by omega, by rw [HA2.out], HF⟩
      case measure => simp [intOf]; omega
    · obtain rfl : n0 = i := by omega
      have hall : ∀ x ∈ ls, letterC.ok x := by have h := hH.out.2; rwa [List.take_of_length_le (by have := HNL.out; omega)] at h
      have HOKL := Lib.hid (show (listC 8 letterC).ok ls from ⟨⟨by have := HNL.out; omega, by have := HNL.out; omega⟩, hall⟩)
      have HEA := Lib.hid (show O = ofL (2 :: (listC 8 letterC).enc ls) by
        rw [← HEO.out, List.take_of_length_le (by have := HNL.out; omega)]
        show _ = ofL (2 :: (encC ls.length ++ ls.flatMap letterC.enc))
        rw [HNL.out]; rfl)
      have HDo := Lib.hid hH.out.1
      obtain ⟨k0, k1, _, _, _, _, _⟩ := mix_cells HBo.out
      clear hall hH hi'
      go_wp2_with fail
      refine (rcount_s n1 (by omega) wo).mono ?_
      rintro e w4 ⟨rfl, hs4⟩
      have HS4 := Lib.hid (HSo.out.trans hs4)
      have HB4 := Lib.hid (hs4.keep HBo.out)
      have HSH4 := Lib.hid (hs4.keep (HDo.out.keep HSH3.out))
      obtain ⟨C, eC⟩ : ∃ C, ofL (encC n1) = C := ⟨_, rfl⟩
      have hsc : C.size = 2 := by rw [← eC, size_ofL]; rfl
      have hcc : ¬ (O.size + C.size > 9223372036854775807) := by omega
      have HA := Lib.hid (show O ++ C = ofL (2 :: (listC 8 letterC).enc ls ++ encC n1) by rw [← eC, HEA.out, append_ofL])
      rw [eC]
      have hn10 : (0 : Int) ≤ n1 := by omega
      clear hs4 k0 k1 eC
      go_wp2_with fail
      clear hso hsc hcc
      go_loopw [5, 7] (fun s5 s7 wr => ∃ i : Nat, s7 = .int .i64 i ∧ i ≤ n1 ∧ s5 = .string (ofL (2 :: (listC 8 letterC).enc ls ++ encC n1 ++ (bs.take i).flatMap boxC.enc)) ∧ Hid (Same w4 wr ∧ ∀ x ∈ bs.take i, boxC.ok x)) (fun _ s7 _ => n1 - (intOf s7).toNat)
      case atStart => exact ⟨0, rfl, by omega, by rw [HA.out]; simp, Lib.hid ⟨Same.refl _, by simp⟩⟩
      case round =>
        obtain ⟨i, rfl, hi', rfl, hH⟩ := hrel
        obtain ⟨wu, rfl⟩ : ∃ wz, wz = wr := ⟨_, rfl⟩
        have HSu := Lib.hid (HS4.out.trans hH.out.1)
        have HBu := Lib.hid (hH.out.1.keep HB4.out)
        have hll := listC_len HOKL.out (fun x hx => letter_len hx)
        obtain ⟨O2, eO⟩ : ∃ O2, ofL (2 :: (listC 8 letterC).enc ls ++ encC n1 ++ (bs.take i).flatMap boxC.enc) = O2 := ⟨_, rfl⟩
        have HEO2 := Lib.hid eO
        rw [eO]
        have hso2 : O2.size ≤ 20000 := by
          have h1 := flat_le (f := boxC.enc) (K := 48) (bs.take i) (fun x hx => Nat.le_of_eq (box_len (hH.out.2 x hx).1))
          rw [List.length_take] at h1
          rw [← eO, size_ofL, List.length_append, List.length_append, List.length_cons]
          have h2 : (encC n1).length = 2 := rfl
          omega
        obtain ⟨k0, k1, _, _, _, _, _⟩ := mix_cells HBu.out
        clear eO hll
        by_cases hlt : i < n1
        · have hi0 : (0 : Int) ≤ i := by omega
          have hi1 : (i : Int) < n1 := by omega
          obtain ⟨bk, off, x0, x1, x2, x3, x4, x5, rfl, e2, hu, hc⟩ := (HI.out.o1.same HSu.out).it i hlt
          simp only at e2
          have HU := Lib.hid hu
          have HTK := Lib.hid (take_flat boxC.enc bs i [] (show i < bs.length by have := HNB.out; omega))
          have HOKN := Lib.hid (fun k => take_ok (ok := boxC.ok) (d := ([] : List Int)) (show i < bs.length by have := HNB.out; omega) hH.out.2 k)
          rw [e2] at HTK HOKN
          have g0 : wu.cell? ⟨bk, off + i * 6, none⟩ = some (.int .u64 x0) := hc 0 (by omega)
          have g1 : wu.cell? ⟨bk, off + i * 6 + 1, none⟩ = some (.int .u64 x1) := hc 1 (by omega)
          have g2 : wu.cell? ⟨bk, off + i * 6 + 2, none⟩ = some (.int .u64 x2) := hc 2 (by omega)
          have g3 : wu.cell? ⟨bk, off + i * 6 + 3, none⟩ = some (.int .u64 x3) := hc 3 (by omega)
          have g4 : wu.cell? ⟨bk, off + i * 6 + 4, none⟩ = some (.int .u64 x4) := hc 4 (by omega)
          have g5 : wu.cell? ⟨bk, off + i * 6 + 5, none⟩ = some (.int .u64 x5) := hc 5 (by omega)
          obtain ⟨A, eA⟩ : ∃ A, ofL ([x0, x1, x2, x3, x4, x5].flatMap encN) = A := ⟨_, rfl⟩
          have hsa : A.size = 48 := by rw [← eA, size_ofL, flat_len]; rfl
          have hc1 : ¬ (O2.size + A.size > 9223372036854775807) := by omega
          have HA2 := Lib.hid (show O2 ++ A = ofL (2 :: (listC 8 letterC).enc ls ++ encC n1 ++ (bs.take (i + 1)).flatMap boxC.enc) by
            rw [← eA, ← HEO2.out, append_ofL, HTK.out, List.append_assoc]; rfl)
          have EA2 := Lib.hid eA
          clear hu hc e2 eA
          go_wp2_with fail
          refine (rboxs_any x0 x1 x2 x3 x4 x5 HU.out wu).mono ?_
          rintro e w5 ⟨rfl, hs5⟩
          rw [EA2.out]
          have HF := Lib.hid (show Same w4 w5 ∧ ∀ x ∈ bs.take (i + 1), boxC.ok x from ⟨hH.out.1.trans hs5, HOKN.out ⟨rfl, HU.out⟩⟩)
          clear hs5 g0 g1 g2 g3 g4 g5 k0 k1
          go_wp2_with fail
          go_roundw
          case rel => exact ⟨i + 1, by go_num, by omega, by rw [HA2.out], HF⟩
          case measure => simp [intOf]; omega
        · obtain rfl : n1 = i := by omega
          have hall : ∀ x ∈ bs, boxC.ok x := by have h := hH.out.2; rwa [List.take_of_length_le (by have := HNB.out; omega)] at h
          have HOKB := Lib.hid (show (listC 8 boxC).ok bs from ⟨⟨by have := HNB.out; omega, by have := HNB.out; omega⟩, hall⟩)
          have HEB := Lib.hid (show O2 = ofL (2 :: (listC 8 letterC).enc ls ++ (listC 8 boxC).enc bs) by
            rw [← HEO2.out, List.take_of_length_le (by have := HNB.out; omega)]
            show _ = ofL (2 :: (listC 8 letterC).enc ls ++ (encC bs.length ++ bs.flatMap boxC.enc))
            rw [HNB.out, List.append_assoc])
          have HSHu := Lib.hid (hH.out.1.keep HSH4.out)
          have HOKA := Lib.hid (show numsC.ok xa from nums_fit HI.out.o2 hb2)
          have HOKO := Lib.hid (show numsC.ok xo from nums_fit HI.out.o3 hb3)
          have HOKP := Lib.hid (show numsC.ok xp from nums_fit HI.out.o4 hb4)
          have HOKR := Lib.hid (show proofC.ok pr from ⟨nums_fit HI.out.o5 hb5, nums_fit HI.out.o6 hb6⟩)
          obtain ⟨wd, ewd⟩ : ∃ wd, wu.drew = wd := ⟨_, rfl⟩
          have hsd : Same wu wd := by rw [← ewd]; exact drew_same _
          have HSD := Lib.hid (HSu.out.trans hsd)
          have HC := Lib.hid (And.intro (hsd.keep HSHu.out) (Same.refl wd))
          have EWD := Lib.hid ewd
          obtain ⟨A, eA⟩ : ∃ A, ofL (numsC.enc xa) = A := ⟨_, rfl⟩
          have hsA : A.size ≤ 1028 := by rw [← eA, size_ofL]; have := nums_len HOKA.out; omega
          have EEA := Lib.hid eA
          obtain ⟨B, eB⟩ : ∃ B, ofL (numsC.enc xo) = B := ⟨_, rfl⟩
          have hsB : B.size ≤ 1028 := by rw [← eB, size_ofL]; have := nums_len HOKO.out; omega
          have EEB := Lib.hid eB
          obtain ⟨D, eD⟩ : ∃ D, ofL (numsC.enc xp) = D := ⟨_, rfl⟩
          have hsD : D.size ≤ 1028 := by rw [← eD, size_ofL]; have := nums_len HOKP.out; omega
          have EED := Lib.hid eD
          obtain ⟨E, eE⟩ : ∃ E, ofL (proofC.enc pr) = E := ⟨_, rfl⟩
          have hsE : E.size ≤ 1028 := by rw [← eE, size_ofL]; exact proof_len HOKR.out
          have EEE := Lib.hid eE
          have hqA : ¬ (O2.size + A.size > 9223372036854775807) := by omega
          have hqB : ¬ (O2.size + A.size + B.size > 9223372036854775807) := by omega
          have hqD : ¬ (O2.size + A.size + B.size + D.size > 9223372036854775807) := by omega
          have hqE : ¬ (O2.size + A.size + B.size + D.size + E.size > 9223372036854775807) := by omega
          have HA2 := Lib.hid (show O2 ++ A ++ B ++ D ++ E = ofL (2 :: mixC.enc (ls, bs, xa, xo, xp, pr)) by
            rw [← eA, ← eB, ← eD, ← eE, HEB.out, append_ofL, append_ofL, append_ofL, append_ofL]
            show _ = ofL (2 :: ((listC 8 letterC).enc ls ++ ((listC 8 boxC).enc bs ++ (numsC.enc xa ++ (numsC.enc xo ++ (numsC.enc xp ++ proofC.enc pr))))))
            simp only [List.append_assoc, List.cons_append])
          clear ewd hsd eA eB eD eE hsA hsB hsD hsE hall
          go_upto_region 16 with fail
          refine wp_region_held_drew (S := fun w' => Hid (w'.heap[sb]? = some (.cells #[.slice a2 n2 c2, .slice a3 n3 c3, .slice a4 n4 c4, .slice a5 n5 c5, .slice a6 n6 c6] 28 (0, 0)) ∧ Same wd w')) (by kernel_rfl) (by rw [EWD.out]; exact HC) (fun hHeld => ?_)
          rw [EWD.out] at hHeld ⊢
          refine wpAnyH_take (i := 0) (v := ?_) rfl (by kernel_rfl) (by kernel_rfl) (by kernel_rfl) (fun _ _ _ h => h) (Or.inl ⟨by rfl, ?_⟩) (by assumption) ?_
          rotate_left
          · intro w hSw; obtain ⟨q0, q1, q2, q3, q4⟩ := shown_cells hSw.out.1; go_simp; try with_reducible rfl
          try simp only [Act.put, List.getElem_toArray, List.getElem_cons_succ, List.getElem_cons_zero, List.setIfInBounds_toArray, List.set_cons_zero, List.set_cons_succ]
          refine wpAnyH_take (i := 1) (v := ?_) rfl (by kernel_rfl) (by kernel_rfl) (by kernel_rfl) (fun _ _ _ h => h) (Or.inl ⟨by rfl, ?_⟩) (by assumption) ?_
          rotate_left
          · intro w hSw; obtain ⟨q0, q1, q2, q3, q4⟩ := shown_cells hSw.out.1; go_simp; try with_reducible rfl
          try simp only [Act.put, List.getElem_toArray, List.getElem_cons_succ, List.getElem_cons_zero, List.setIfInBounds_toArray, List.set_cons_zero, List.set_cons_succ]
          refine wpAnyH_take (i := 2) (v := ?_) rfl (by kernel_rfl) (by kernel_rfl) (by kernel_rfl) (fun _ _ _ h => h) (Or.inl ⟨by rfl, ?_⟩) (by assumption) ?_
          rotate_left
          · intro w hSw; obtain ⟨q0, q1, q2, q3, q4⟩ := shown_cells hSw.out.1; go_simp; try with_reducible rfl
          try simp only [Act.put, List.getElem_toArray, List.getElem_cons_succ, List.getElem_cons_zero, List.setIfInBounds_toArray, List.set_cons_zero, List.set_cons_succ]
          refine wpAnyH_take (i := 5) (v := ?_) rfl (by kernel_rfl) (by kernel_rfl) (by kernel_rfl) (fun _ _ _ h => h) (Or.inl ⟨by rfl, ?_⟩) (by assumption) ?_
          rotate_left
          · intro w hSw; obtain ⟨q0, q1, q2, q3, q4⟩ := shown_cells hSw.out.1; go_simp; try with_reducible rfl
          try simp only [Act.put, List.getElem_toArray, List.getElem_cons_succ, List.getElem_cons_zero, List.setIfInBounds_toArray, List.set_cons_zero, List.set_cons_succ]
          refine wpAnyH_take (i := 6) (v := ?_) rfl (by kernel_rfl) (by kernel_rfl) (by kernel_rfl) (fun _ _ _ h => h) (Or.inl ⟨by rfl, ?_⟩) (by assumption) ?_
          rotate_left
          · intro w hSw; obtain ⟨q0, q1, q2, q3, q4⟩ := shown_cells hSw.out.1; go_simp; try with_reducible rfl
          try simp only [Act.put, List.getElem_toArray, List.getElem_cons_succ, List.getElem_cons_zero, List.setIfInBounds_toArray, List.set_cons_zero, List.set_cons_succ]
          refine wpAnyH_take (i := 9) (v := ?_) rfl (by kernel_rfl) (by kernel_rfl) (by kernel_rfl) (fun _ _ _ h => h) (Or.inl ⟨by rfl, ?_⟩) (by assumption) ?_
          rotate_left
          · intro w hSw; obtain ⟨q0, q1, q2, q3, q4⟩ := shown_cells hSw.out.1; go_simp; try with_reducible rfl
          try simp only [Act.put, List.getElem_toArray, List.getElem_cons_succ, List.getElem_cons_zero, List.setIfInBounds_toArray, List.set_cons_zero, List.set_cons_succ]
          refine wpAnyH_take (i := 10) (v := ?_) rfl (by kernel_rfl) (by kernel_rfl) (by kernel_rfl) (fun _ _ _ h => h) (Or.inl ⟨by rfl, ?_⟩) (by assumption) ?_
          rotate_left
          · intro w hSw; obtain ⟨q0, q1, q2, q3, q4⟩ := shown_cells hSw.out.1; go_simp; try with_reducible rfl
          try simp only [Act.put, List.getElem_toArray, List.getElem_cons_succ, List.getElem_cons_zero, List.setIfInBounds_toArray, List.set_cons_zero, List.set_cons_succ]
          refine wpAnyH_take (i := 13) (v := ?_) rfl (by kernel_rfl) (by kernel_rfl) (by kernel_rfl) (fun _ _ _ h => h) (Or.inl ⟨by rfl, ?_⟩) (by assumption) ?_
          rotate_left
          · intro w hSw; obtain ⟨q0, q1, q2, q3, q4⟩ := shown_cells hSw.out.1; go_simp; try with_reducible rfl
          try simp only [Act.put, List.getElem_toArray, List.getElem_cons_succ, List.getElem_cons_zero, List.setIfInBounds_toArray, List.set_cons_zero, List.set_cons_succ]
          refine wpAnyH_take (i := 14) (v := ?_) rfl (by kernel_rfl) (by kernel_rfl) (by kernel_rfl) (fun _ _ _ h => h) (Or.inl ⟨by rfl, ?_⟩) (by assumption) ?_
          rotate_left
          · intro w hSw; obtain ⟨q0, q1, q2, q3, q4⟩ := shown_cells hSw.out.1; go_simp; try with_reducible rfl
          try simp only [Act.put, List.getElem_toArray, List.getElem_cons_succ, List.getElem_cons_zero, List.setIfInBounds_toArray, List.set_cons_zero, List.set_cons_succ]
          refine wpAnyH_ready (rs := [3]) (by kernel_rfl) (by simp) ?_
          refine AllReadyH.cons rfl (fun K hK => ?_) AllReadyH.nil
          go_simp
          refine (rnumbers_any a2 n2 c2 xa hb2 wd (HI.out.o2.same (HSD.out.trans hHeld.out.2))).mono ?_
          rintro e wx ⟨rfl, hs⟩
          rw [EEA.out]
          have hH2 := Lib.hid (And.intro (hs.keep hHeld.out.1) (hHeld.out.2.trans hs))
          clear hs hHeld
          go_wp2_with fail
          refine hK.out _ _ ?_ (fun hHeld => ?_)
          · exact hH2
          clear hK K
          try simp only [Act.put, List.getElem_toArray, List.getElem_cons_succ, List.getElem_cons_zero, List.setIfInBounds_toArray, List.set_cons_zero, List.set_cons_succ]
          clear hH2
          refine wpAnyH_take (i := 4) (v := ?_) rfl (by kernel_rfl) (by kernel_rfl) (by kernel_rfl) (fun _ _ _ h => h) (Or.inl ⟨by rfl, ?_⟩) (by assumption) ?_
          rotate_left
          · intro w hSw; obtain ⟨q0, q1, q2, q3, q4⟩ := shown_cells hSw.out.1; go_simp; try with_reducible rfl
          try simp only [Act.put, List.getElem_toArray, List.getElem_cons_succ, List.getElem_cons_zero, List.setIfInBounds_toArray, List.set_cons_zero, List.set_cons_succ]
          refine wpAnyH_ready (rs := [7]) (by kernel_rfl) (by simp) ?_
          refine AllReadyH.cons rfl (fun K hK => ?_) AllReadyH.nil
          go_simp
          refine (rnumbers_any a3 n3 c3 xo hb3 wx (HI.out.o3.same (HSD.out.trans hHeld.out.2))).mono ?_
          rintro e wy ⟨rfl, hs⟩
          rw [EEB.out]
          have hH2 := Lib.hid (And.intro (hs.keep hHeld.out.1) (hHeld.out.2.trans hs))
          clear hs hHeld
          go_wp2_with fail
          refine hK.out _ _ ?_ (fun hHeld => ?_)
          · exact hH2
          clear hK K
          try simp only [Act.put, List.getElem_toArray, List.getElem_cons_succ, List.getElem_cons_zero, List.setIfInBounds_toArray, List.set_cons_zero, List.set_cons_succ]
          clear hH2
          refine wpAnyH_take (i := 8) (v := ?_) rfl (by kernel_rfl) (by kernel_rfl) (by kernel_rfl) (fun _ _ _ h => h) (Or.inl ⟨by rfl, ?_⟩) (by assumption) ?_
          rotate_left
          · intro w hSw; obtain ⟨q0, q1, q2, q3, q4⟩ := shown_cells hSw.out.1; go_simp; try with_reducible rfl
          try simp only [Act.put, List.getElem_toArray, List.getElem_cons_succ, List.getElem_cons_zero, List.setIfInBounds_toArray, List.set_cons_zero, List.set_cons_succ]
          refine wpAnyH_ready (rs := [11]) (by kernel_rfl) (by simp) ?_
          refine AllReadyH.cons rfl (fun K hK => ?_) AllReadyH.nil
          go_simp
          refine (rnumbers_any a4 n4 c4 xp hb4 wy (HI.out.o4.same (HSD.out.trans hHeld.out.2))).mono ?_
          rintro e wz ⟨rfl, hs⟩
          rw [EED.out]
          have hH2 := Lib.hid (And.intro (hs.keep hHeld.out.1) (hHeld.out.2.trans hs))
          clear hs hHeld
          go_wp2_with fail
          refine hK.out _ _ ?_ (fun hHeld => ?_)
          · exact hH2
          clear hK K
          try simp only [Act.put, List.getElem_toArray, List.getElem_cons_succ, List.getElem_cons_zero, List.setIfInBounds_toArray, List.set_cons_zero, List.set_cons_succ]
          clear hH2
          refine wpAnyH_take (i := 12) (v := ?_) rfl (by kernel_rfl) (by kernel_rfl) (by kernel_rfl) (fun _ _ _ h => h) (Or.inl ⟨by rfl, ?_⟩) (by assumption) ?_
          rotate_left
          · intro w hSw; obtain ⟨q0, q1, q2, q3, q4⟩ := shown_cells hSw.out.1; go_simp; try with_reducible rfl
          try simp only [Act.put, List.getElem_toArray, List.getElem_cons_succ, List.getElem_cons_zero, List.setIfInBounds_toArray, List.set_cons_zero, List.set_cons_succ]
          refine wpAnyH_ready (rs := [15]) (by kernel_rfl) (by simp) ?_
          refine AllReadyH.cons rfl (fun K hK => ?_) AllReadyH.nil
          go_simp
          refine (rproofs_any a5 n5 c5 a6 n6 c6 pr hb5 hb6 wz (HI.out.o5.same (HSD.out.trans hHeld.out.2)) (HI.out.o6.same (HSD.out.trans hHeld.out.2))).mono ?_
          rintro e wv ⟨rfl, hs⟩
          rw [EEE.out]
          have hH2 := Lib.hid (And.intro (hs.keep hHeld.out.1) (hHeld.out.2.trans hs))
          clear hs hHeld
          go_wp2_with fail
          refine hK.out _ _ ?_ (fun hHeld => ?_)
          · exact hH2
          clear hK K
          try simp only [Act.put, List.getElem_toArray, List.getElem_cons_succ, List.getElem_cons_zero, List.setIfInBounds_toArray, List.set_cons_zero, List.set_cons_succ]
          clear hH2
          refine wpAnyH_take (i := 16) (v := ?_) rfl (by kernel_rfl) (by kernel_rfl) (by kernel_rfl) (fun _ _ _ h => h) (Or.inl ⟨by rfl, ?_⟩) (by assumption) ?_
          rotate_left
          · intro w hSw; obtain ⟨q0, q1, q2, q3, q4⟩ := shown_cells hSw.out.1; go_simp; try with_reducible rfl
          try simp only [Act.put, List.getElem_toArray, List.getElem_cons_succ, List.getElem_cons_zero, List.setIfInBounds_toArray, List.set_cons_zero, List.set_cons_succ]
          refine wpAnyH_take (i := 17) (v := ?_) rfl (by kernel_rfl) (by kernel_rfl) (by kernel_rfl) (fun _ _ _ h => h) (Or.inl ⟨by rfl, ?_⟩) (by assumption) ?_
          rotate_left
          · intro w hSw; obtain ⟨q0, q1, q2, q3, q4⟩ := shown_cells hSw.out.1; go_simp; try with_reducible rfl
          try simp only [Act.put, List.getElem_toArray, List.getElem_cons_succ, List.getElem_cons_zero, List.setIfInBounds_toArray, List.set_cons_zero, List.set_cons_succ]
          refine wpAnyH_take (i := 18) (v := ?_) rfl (by kernel_rfl) (by kernel_rfl) (by kernel_rfl) (fun _ _ _ h => h) (Or.inl ⟨by rfl, ?_⟩) (by assumption) ?_
          rotate_left
          · intro w hSw; obtain ⟨q0, q1, q2, q3, q4⟩ := shown_cells hSw.out.1; go_simp; try with_reducible rfl
          try simp only [Act.put, List.getElem_toArray, List.getElem_cons_succ, List.getElem_cons_zero, List.setIfInBounds_toArray, List.set_cons_zero, List.set_cons_succ]
          refine wpAnyH_done (by kernel_rfl) ?_ _
          have HF := Lib.hid (HSD.out.trans hHeld.out.2)
          clear hHeld
          rw [HA2.out]
          go_wp2_with fail
          go_ret2
          exact ⟨HF.out, Or.inl ⟨⟨HOKL.out, HOKB.out, HOKA.out, HOKO.out, HOKP.out, HOKR.out⟩, rfl⟩⟩
end Go.Proofs.Ytdbhcdhenapfoaa
