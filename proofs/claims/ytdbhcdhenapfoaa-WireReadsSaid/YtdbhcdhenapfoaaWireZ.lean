/- Layer 10: a letter is written. -/
import Derived.Test.YtdbhcdhenapfoaaWireY
set_option linter.unusedVariables false
set_option linter.unusedSimpArgs false
namespace Go.Proofs.Ytdbhcdhenapfoaa
open Go.RowKit Go.Maps
theorem WrAt.size {w : World} {wb lo : Nat} {l : Bs} (h : WrAt w wb lo l) : lo ≤ w.heap.size := by
  obtain ⟨_, _, _, hb, _⟩ := h.ex
  have := (Array.getElem?_eq_some_iff.1 hb).1
  have := h.le
  omega
theorem box_len {xs : List Int} (h : xs.length = 6) : (boxC.enc xs).length = 48 := by show (xs.flatMap encN).length = 48; rw [flat_len, h]
theorem letter_len {x : LetterD} (h : letterC.ok x) : (letterC.enc x).length ≤ 1076 := by
  show (boxC.enc x.1 ++ proofC.enc x.2).length ≤ 1076
  have := proof_len h.2
  rw [List.length_append, box_len h.1.1]; omega
set_option maxHeartbeats 800000 in
theorem putLetter (xb lo : Nat) (x0 x1 x2 x3 x4 x5 : Int) (a1 : Option Addr) (n1 c1 : Nat) (a2 : Option Addr) (n2 c2 : Nat) (p : ProofD) (W : World) (hu : ∀ x ∈ [x0, x1, x2, x3, x4, x5], U64 x) (h1 : IntsAt W a1 n1 p.1) (h2 : IntsAt W a2 n2 p.2) (hlo : W.heap.size = lo) :
    Puts 46 xb lo (letterC.ok ([x0, x1, x2, x3, x4, x5], p)) (letterC.enc ([x0, x1, x2, x3, x4, x5], p)) (fun u => Below lo W u ∧ u.heap[xb]? = some (.cells #[.int .u64 x0, .int .u64 x1, .int .u64 x2, .int .u64 x3, .int .u64 x4, .int .u64 x5, .slice a1 n1 c1, .slice a2 n2 c2] 39 (0, 0))) where
  enter := fun args w => by kernel_rfl
  stay := fun w w' h k => ⟨h.1.trans (Below.mono k (by have := h.1.size; omega)), k.keep h.2⟩
  run := fun wb l w hl hne hW hR => by
    subst hlo
    have HB := Lib.hid hR.1
    have HX := Lib.hid hR.2
    have HW := Lib.hid hW
    have HU := Lib.hid hu
    have H1 := Lib.hid h1
    have H2 := Lib.hid h2
    have HN := Lib.hid hne
    have g0 : w.cell? ⟨xb, 0, none⟩ = some (.int .u64 x0) := by rw [cell_at HX.out]; rfl
    have g1 : w.cell? ⟨xb, 1, none⟩ = some (.int .u64 x1) := by rw [cell_at HX.out]; rfl
    have g2 : w.cell? ⟨xb, 2, none⟩ = some (.int .u64 x2) := by rw [cell_at HX.out]; rfl
    have g3 : w.cell? ⟨xb, 3, none⟩ = some (.int .u64 x3) := by rw [cell_at HX.out]; rfl
    have g4 : w.cell? ⟨xb, 4, none⟩ = some (.int .u64 x4) := by rw [cell_at HX.out]; rfl
    have g5 : w.cell? ⟨xb, 5, none⟩ = some (.int .u64 x5) := by rw [cell_at HX.out]; rfl
    clear hR hW hu h1 h2 hne
    go_enter Try.func46, Try.ntmps46
    go_wp2_with fail
    refine (wbox_any W.heap.size wb l x0 x1 x2 x3 x4 x5 (by omega) HU.out w HW.out).mono ?_
    rintro e w2 ⟨rfl, hO, hV⟩
    have hX2 := hO.keep HX.out (fun e => HN.out e.symm) (by decide)
    have g6 : w2.cell? ⟨xb, 6, none⟩ = some (.slice a1 n1 c1) := by rw [cell_at hX2]; rfl
    have g7 : w2.cell? ⟨xb, 7, none⟩ = some (.slice a2 n2 c2) := by rw [cell_at hX2]; rfl
    have HO := Lib.hid hO
    have HV := Lib.hid hV
    have HB2 := Lib.hid (HB.out.trans (hO.below HW.out.size))
    have hl2 : (l ++ [x0, x1, x2, x3, x4, x5].flatMap encN).length ≤ 800000 := by rw [List.length_append, flat_len]; simp; omega
    clear hO hV hX2 g0 g1 g2 g3 g4 g5
    go_wp2_with fail
    refine (wproof_any W.heap.size wb (l ++ [x0, x1, x2, x3, x4, x5].flatMap encN) a1 n1 c1 a2 n2 c2 p hl2 w2 HV.out (fun w' hw => H1.out.same (HB2.out.trans (hw.below HV.out.size))) (fun w' hw => H2.out.same (HB2.out.trans (hw.below HV.out.size)))).mono ?_
    rintro e w3 ⟨hO3, (⟨hok, rfl, hV3⟩ | ⟨hok, rfl⟩)⟩
    · have HFIN := Lib.hid (show Wrote W.heap.size wb w w3 ∧ WrAt w3 wb W.heap.size (l ++ letterC.enc ([x0, x1, x2, x3, x4, x5], p)) from ⟨HO.out.trans hO3, by rw [List.append_assoc] at hV3; exact hV3⟩)
      clear hO3 hV3
      go_wp2_with fail
      exact ⟨rfl, _, results_none rfl _ _ _, HFIN.out.1, Or.inl ⟨⟨⟨rfl, HU.out⟩, hok⟩, rfl, HFIN.out.2⟩⟩
    · have HFN := Lib.hid (show Wrote W.heap.size wb w w3 from HO.out.trans hO3)
      go_wp2_with fail
      exact ⟨rfl, HFN.out, Or.inr ⟨fun h => hok h.2, rfl⟩⟩
theorem write_k (g xb lo : Nat) (ok : Prop) (enc : Bs) (R : World → Prop) (h : Puts g xb lo ok enc R) (k : UInt8) (kk : Int) (hk : (k.toNat : Int) = kk) (w : World) (hlo : lo ≤ w.heap.size) (hxb : xb < w.heap.size) (hR : R w) :
    Calls Try.prog 26 #[.int .u8 kk, .func (.func g) #[] #[.pointer (some ⟨xb, 0, none⟩)]] w fun z w' =>
      Below lo w w' ∧ ((ok ∧ z = .returned (.tuple #[.string (ofL (k :: enc)), .bool true])) ∨ (¬ ok ∧ z = .returned (.tuple #[.string { data := #[] }, .bool false]))) := by
  subst hk
  exact write_any g xb lo ok enc R h k w hlo hxb hR
theorem wLetter_any (x0 x1 x2 x3 x4 x5 : Int) (a1 : Option Addr) (n1 c1 : Nat) (a2 : Option Addr) (n2 c2 : Nat) (p : ProofD) (w : World) (hu : ∀ x ∈ [x0, x1, x2, x3, x4, x5], U64 x) (h1 : IntsAt w a1 n1 p.1) (h2 : IntsAt w a2 n2 p.2) :
    Calls Try.prog 14 #[.agg #[.int .u64 x0, .int .u64 x1, .int .u64 x2, .int .u64 x3, .int .u64 x4, .int .u64 x5, .slice a1 n1 c1, .slice a2 n2 c2]] w fun z w' =>
      Same w w' ∧ ((letterC.ok ([x0, x1, x2, x3, x4, x5], p) ∧ z = .returned (.tuple #[.string (ofL (1 :: letterC.enc ([x0, x1, x2, x3, x4, x5], p))), .bool true])) ∨ (¬ letterC.ok ([x0, x1, x2, x3, x4, x5], p) ∧ z = .returned (.tuple #[.string { data := #[] }, .bool false]))) := by
  obtain ⟨xb, exb⟩ : ∃ xb, w.heap.size = xb := ⟨_, rfl⟩
  obtain ⟨w0, ew0⟩ : ∃ w0, w.alloc (.cells #[.int .u64 x0, .int .u64 x1, .int .u64 x2, .int .u64 x3, .int .u64 x4, .int .u64 x5, .slice a1 n1 c1, .slice a2 n2 c2] 39) = w0 := ⟨_, rfl⟩
  have hS : Same w w0 := by rw [← ew0]; exact (Same.refl w).alloc _
  have HB := Lib.hid (show w0.heap[xb]? = some (.cells #[.int .u64 x0, .int .u64 x1, .int .u64 x2, .int .u64 x3, .int .u64 x4, .int .u64 x5, .slice a1 n1 c1, .slice a2 n2 c2] 39 (0, 0)) by rw [← ew0, ← exb]; exact heap_new _ _)
  have HS := Lib.hid (show Below xb w w0 by rw [← exb]; exact hS)
  have HP := Lib.hid (putLetter xb xb x0 x1 x2 x3 x4 x5 a1 n1 c1 a2 n2 c2 p w hu h1 h2 exb)
  have HXL := Lib.hid (Array.getElem?_eq_some_iff.1 HB.out).1
  have EW0 := Lib.hid ew0
  have EXB := Lib.hid exb
  have hmf : ∀ (fn : Fn) (first cap : Array Value) (w : World), (Instr.makeFunc fn first cap).run Try.prog w = .ok (.func fn first cap) w := fun _ _ _ _ => rfl
  obtain ⟨OK, eok⟩ : ∃ OK, letterC.ok ([x0, x1, x2, x3, x4, x5], p) = OK := ⟨_, rfl⟩
  obtain ⟨E, ee⟩ : ∃ E, letterC.enc ([x0, x1, x2, x3, x4, x5], p) = E := ⟨_, rfl⟩
  rw [eok, ee] at HP ⊢
  clear hS ew0 exb eok ee hu h1 h2
  go_enter Try.func14, Try.ntmps14
  go_upto_region 1 with fail
  rw [EW0.out, EXB.out]
  go_wp2_with fail
  refine (write_k _ xb xb OK E _ HP.out 1 1 rfl w0 (by have := HXL.out; omega) HXL.out ⟨HS.out, HB.out⟩).mono ?_
  rintro e w2 ⟨hb, (⟨hok, rfl⟩ | ⟨hok, rfl⟩)⟩
  · have HSM := Lib.hid (show Same w w2 by have h := HS.out.trans hb; rwa [← EXB.out] at h)
    clear hb
    go_wp2_with fail
    go_ret2
    exact ⟨HSM.out, Or.inl ⟨hok, rfl⟩⟩
  · have HSM := Lib.hid (show Same w w2 by have h := HS.out.trans hb; rwa [← EXB.out] at h)
    clear hb
    go_wp2_with fail
    go_ret2
    exact ⟨HSM.out, Or.inr ⟨hok, rfl⟩⟩
end Go.Proofs.Ytdbhcdhenapfoaa
