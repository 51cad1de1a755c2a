/- Layer 10: what is given up with is told as false. -/
import Derived.Test.YtdbhcdhenapfoaaWireB
import Derived.Defers
import Derived.Recover
import Derived.Laws.Pointers
set_option linter.unusedVariables false
set_option linter.unusedSimpArgs false
namespace Go.Proofs.Ytdbhcdhenapfoaa
open Go.RowKit Go.Maps
abbrev badR : PanicEntry := { v := .iface 103 (.agg #[]), recovered := true }
theorem saved_idle (p : Addr) (w : World) :
    CallsD Try.prog 61 #[.pointer (some p)] .returning w fun e u' w' => e = .returned (.tuple #[]) ∧ u' = .returning ∧ w' = w := by
  refine callsD_of_wpS Try.func61 rfl fun c₀ cs hu => ?_
  apply wpS_seq
  apply wpS_region
  simp [wpOpsS, go_sem, recoverD, hu, Try.ntmps61, Exit.thenS]
  apply wpS_seq
  apply wpS_region
  simp [wpOpsS, go_sem, Exit.thenS]
  refine wpS_cond (t := false) (by simp [Act.eval, Array.replicate]) ?_
  simp only [Bool.false_eq_true, if_false]
  refine wpS_of_wp (wp_skip ?_)
  cases c₀
  simp_all [bodyPostS, results, Try.results61]
theorem assert_bad (w : World) : (Instr.typeAssert (.iface 103 (.agg #[])) 20 103 true).run Try.prog w = .ok (.tuple #[.agg #[], .bool true]) w := by kernel_rfl
set_option maxHeartbeats 400000 in
theorem saved_bad (b : Nat) (x : Bool) (w : World) (h : w.heap[b]? = some (.cells #[.bool x] 4 (0, 0))) :
    CallsD Try.prog 61 #[.pointer (some ⟨b, 0, none⟩)] (.panicking [badP]) w fun e u' w' => e = .returned (.tuple #[]) ∧ u' = .panicking [badR] ∧ w' = (w.alloc (.cells #[] 103)).setCell ⟨b, 0, none⟩ (.bool false) := by
  refine callsD_of_wpS Try.func61 rfl fun c₀ cs hu => ?_
  apply wpS_seq
  apply wpS_region
  simp [wpOpsS, go_sem, recoverD, hu, Try.ntmps61, Exit.thenS]
  apply wpS_seq
  apply wpS_region
  simp [wpOpsS, go_sem, Exit.thenS]
  refine wpS_cond (t := true) (by simp [Act.eval, Array.replicate]) ?_
  simp only [if_true]
  have h0 : w.cell? ⟨b, 0, none⟩ = some (.bool x) := by rw [cell_at h]; rfl
  have hf : w.frozen? ⟨b, 0, none⟩ = false := free_at h
  have hlt := (Array.getElem?_eq_some_iff.1 h).1
  clear h
  have hta := assert_bad
  refine wpS_of_wp (Code.wp_mono (Q := fun e a' w' => e = .normal ∧ a'.defers = [] ∧ w' = (w.alloc (.cells #[] 103)).setCell ⟨b, 0, none⟩ (.bool false)) ?_ ?_)
  · rintro e a' w' ⟨rfl, hd, rfl⟩
    refine ⟨hd, _, rfl, ?_⟩
    simp [results, Try.results61]
  change Code.wp Try.prog _ _ { tmps := #[.pointer (some ⟨b, 0, none⟩), undef, .iface 103 (.agg #[]), undef, undef, .iface 103 (.agg #[]), .iface 103 (.agg #[]), .bool true, undef, undef, undef, undef, undef, undef, undef, undef, undef, undef], defers := [] } w
  go_wp2_with fail
theorem bad_world {w1 : World} {kb : Nat} {x : Bool} (h : w1.heap[kb]? = some (.cells #[.bool x] 4 (0, 0))) : ∃ wz, (w1.alloc (.cells #[] 103)).setCell ⟨kb, 0, none⟩ (.bool false) = wz ∧ wz.cell? ⟨kb, 0, none⟩ = some (.bool false) ∧ Off (· = kb) w1 wz := by
  have h1 := ((Same.refl w1).alloc (.cells #[] 103)).keep h
  refine ⟨_, rfl, by rw [cell_at (heap_set h1 _)]; rfl, (Off.of_same ((Same.refl w1).alloc _)).trans (Off.set (S := (· = kb)) _ rfl _ _)⟩
theorem Off.later {S T : Nat → Prop} {a b c : World} (h : Off S a b) (k : Off T b c) (ht : ∀ i, i < a.heap.size → T i → S i) : Off S a c :=
  ⟨k.os.trans h.os, k.tape.trans h.tape, k.output.trans h.output, Nat.le_trans h.size k.size, fun i hi hne => (k.block i (Nat.lt_of_lt_of_le hi h.size) (fun e => hne (ht i hi e))).trans (h.block i hi hne)⟩
theorem bytes_eq_nil (l : Bs) : ((ofL l).toList == ByteArray.toList { data := #[] }) = l.isEmpty := by
  rw [toList_ofL]
  have : ByteArray.toList { data := #[] } = [] := toList_ofL []
  rw [this]
  cases l <;> rfl
/-- what read asks of what it is handed: it reads as C says, into block xb -/
structure Does {α : Type} (g xb : Nat) (C : Cod α) (X : Nat → World → α → Prop) (R0 : World → Prop) : Prop where
  enter : ∀ (args : Array Value) (w : World), (callFunc g args).run Try.prog w = .ok (.enter g args) w
  run : ∀ (rb : Nat) (l : Bs) (w : World), l.length ≤ 1000000000 → rb ≠ xb → xb < w.heap.size → RdrAt w rb l → R0 w →
    Calls Try.prog g #[.pointer (some ⟨rb, 0, none⟩), .pointer (some ⟨xb, 0, none⟩)] w fun z w' =>
      Off (fun k => k = rb ∨ k = xb) w w' ∧ ((∃ x r, C.par l = some (x, r) ∧ z = .returned (.tuple #[]) ∧ RdrAt w' rb r ∧ X w.heap.size w' x) ∨ (C.par l = none ∧ z = .panicked [badP]))
  stay : ∀ (S : Nat → Prop) (lo : Nat) (w w' : World) (x : α), X lo w x → Off S w w' → ¬ S xb → (∀ b, lo ≤ b → ¬ S b) → X lo w' x
  stay0 : ∀ (S : Nat → Prop) (w w' : World), R0 w → Off S w w' → ¬ S xb → R0 w'
theorem read_any {α : Type} (g xb : Nat) (C : Cod α) (X : Nat → World → α → Prop) (R0 : World → Prop) (h : Does g xb C X R0) (l : Bs) (k : UInt8) (hl : l.length ≤ 1000000000) (w : World) (hxb : xb < w.heap.size) (hR0 : R0 w) :
    Calls Try.prog 37 #[.string (ofL l), .int .u8 k.toNat, .func (.func g) #[] #[.pointer (some ⟨xb, 0, none⟩)]] w fun z w' =>
      Off (· = xb) w w' ∧ ((∃ x lo, rd k C l = some x ∧ z = .returned (.bool true) ∧ w.heap.size ≤ lo ∧ X lo w' x) ∨ (rd k C l = none ∧ z = .returned (.bool false))) := by
  obtain ⟨kb, ekb⟩ : ∃ kb, w.heap.size = kb := ⟨_, rfl⟩
  obtain ⟨w0, ew0⟩ : ∃ w0, (w.alloc (.cells #[.bool false] 4)).alloc (.cells #[.string (ofL l)] 106) = w0 := ⟨_, rfl⟩
  have hsz : (w.alloc (.cells #[.bool false] 4)).heap.size = kb + 1 := by rw [← ekb]; simp
  have hS0 : Same w w0 := by rw [← ew0]; exact ((Same.refl w).alloc _).alloc _
  have HK0 := Lib.hid (show w0.heap[kb]? = some (.cells #[.bool false] 4 (0, 0)) by rw [← ew0, ← ekb]; exact ((Same.refl _).alloc _).keep (heap_new _ _))
  have HR := Lib.hid (show RdrAt w0 (kb + 1) l by rw [← ew0, ← hsz]; exact heap_new _ _)
  have HO0 := Lib.hid (show Off (· = xb) w w0 from Off.of_same hS0)
  have HX0 := Lib.hid (h.stay0 (fun _ => False) w w0 hR0 (Off.of_same hS0) (fun e => e))
  have EW0 := Lib.hid ew0
  have EKB := Lib.hid ekb
  have HH := Lib.hid h
  have HXB := Lib.hid hxb
  clear hsz hS0 ew0 ekb h hxb hR0
  go_enter_defers Try.func37, Try.ntmps37
  go_upto_region 3 with fail
  rw [EW0.out, EKB.out]
  go_wp2_with fail
  refine (take_any (kb + 1) l 1 hl (by omega) w0 HR.out).mono ?_
  rintro e w2 (⟨h8, rfl, rfl⟩ | ⟨h8, rfl, rfl⟩)
  · obtain ⟨b, r, rfl⟩ : ∃ b r, l = b :: r := by
      match l, h8 with
      | b :: r, _ => exact ⟨b, r, rfl⟩
    obtain ⟨w2, ew2⟩ : ∃ w2, w0.setCell ⟨kb + 1, 0, none⟩ (.string (ofL ((b :: r).drop 1))) = w2 := ⟨_, rfl⟩
    have HR2 := Lib.hid (show RdrAt w2 (kb + 1) r by rw [← ew2]; exact heap_set HR.out _)
    have hO2 : Off (· = kb + 1) w0 w2 := by rw [← ew2]; exact Off.set (S := (· = kb + 1)) w0 rfl _ _
    have HK2 := Lib.hid (hO2.keep (b := kb) (by omega) HK0.out)
    have HO2 := Lib.hid (HO0.out.later hO2 (fun i hi e => by have := EKB.out; omega))
    have HX2 := Lib.hid (HH.out.stay0 (· = kb + 1) w0 w2 HX0.out hO2 (by have := EKB.out; have := HXB.out; omega))
    have hxl : xb < w2.heap.size := by have h1 := HXB.out; have h2 := HO2.out.size; omega
    have EW2 := Lib.hid ew2
    have g0 : (ofL [b])[0]? = some b := rfl
    obtain ⟨t, et⟩ : ∃ t, ofL [b] = t := ⟨_, rfl⟩
    have ht : ofL ((b :: r).take 1) = t := et
    rw [ht, ew2]
    rw [et] at g0
    have ht0 : ∀ h : 0 < t.size, (t[0]'h).toNat = b.toNat := by subst et; intro _; rfl
    have hsz : t.size = 1 := by subst et; rfl
    clear ew2 hO2 et ht h8
    by_cases hbk : b = k
    · subst hbk
      have hne : ((b.toNat : Int) != (b.toNat : Int)) = false := by simp
      have hlr : r.length ≤ 1000000000 := by rw [List.length_cons] at hl; omega
      have hen := HH.out.enter
      go_wp2_with fail
      refine (HH.out.run (kb + 1) r w2 hlr (by have := EKB.out; have := HXB.out; omega) hxl HR2.out HX2.out).mono ?_
      rintro e w3 ⟨hO3, (⟨x, r', hp, rfl, hR3, hX3⟩ | ⟨hp, rfl⟩)⟩
      · have HO3 := Lib.hid (HO2.out.later hO3 (fun i hi e => by have := EKB.out; omega))
        have HK3 := Lib.hid (hO3.keep (b := kb) (by have := EKB.out; have := HXB.out; omega) HK2.out)
        have HX3 := Lib.hid hX3
        have HLO := Lib.hid (show w.heap.size ≤ w2.heap.size from HO2.out.size)
        have c0 : w3.cell? ⟨kb + 1, 0, none⟩ = some (.string (ofL r')) := by rw [cell_at hR3]; rfl
        have k0 : w3.cell? ⟨kb, 0, none⟩ = some (.bool false) := by rw [cell_at HK3.out]; rfl
        have kf : w3.frozen? ⟨kb, 0, none⟩ = false := free_at HK3.out
        obtain ⟨ok, eok⟩ : ∃ ok, r'.isEmpty = ok := ⟨_, rfl⟩
        obtain ⟨tr, etr⟩ : ∃ tr, ofL r' = tr := ⟨_, rfl⟩
        have HBE := Lib.hid (show tr.toList.isEmpty = ok by rw [← etr, toList_ofL, eok])
        rw [etr] at c0
        obtain ⟨w4, ew4⟩ : ∃ w4, w3.setCell ⟨kb, 0, none⟩ (.bool ok) = w4 := ⟨_, rfl⟩
        have hp0 : w4.cell? ⟨kb, 0, none⟩ = some (.bool ok) := by rw [← ew4, cell_at (heap_set HK3.out _)]; rfl
        have hO34 : Off (· = kb) w3 w4 := by rw [← ew4]; exact Off.set (S := (· = kb)) w3 rfl _ _
        have HO4 := Lib.hid (show Off (· = xb) w w4 from HO3.out.later hO34 (fun i hi e => by have := EKB.out; omega))
        have HX4 := Lib.hid (HH.out.stay (· = kb) _ w3 w4 x HX3.out hO34 (by have := EKB.out; have := HXB.out; omega) (fun i hi e => by have := HLO.out; have := (Array.getElem?_eq_some_iff.1 HK2.out).1; omega))
        have HRD := Lib.hid (show rd b C (b :: r) = if ok = true then some x else none by
          simp only [rd, if_true]
          rw [hp]
          cases r' with
          | nil => rw [← eok]; rfl
          | cons c r'' => rw [← eok]; rfl)
        have EW4 := Lib.hid ew4
        clear hR3 hX3 hO3 hp ew4 hO34 etr eok
        go_wp2_with fail
        rw [HBE.out, EW4.out]
        refine leaves_cons (f := 61) (args := #[.pointer (some ⟨kb, 0, none⟩)]) (by simp) (by simp [go_sem]) ?_
        refine (saved_idle ⟨kb, 0, none⟩ w4).mono ?_
        rintro e u' w'' ⟨rfl, rfl, rfl⟩
        show Leaves Try.prog Try.f37 _ _ [] .returning _
        refine ⟨_, by (simp [results, Try.results37, go_sem, hp0]; try rfl), HO4.out, ?_⟩
        cases ok
        · exact Or.inr ⟨HRD.out, rfl⟩
        · exact Or.inl ⟨x, _, HRD.out, rfl, HLO.out, HX4.out⟩
      · have HRD := Lib.hid (show rd b C (b :: r) = none by simp [rd, hp])
        have hk3 := hO3.keep (b := kb) (by have := EKB.out; have := HXB.out; omega) HK2.out
        obtain ⟨wz, ewz, hz, hoz⟩ := bad_world hk3
        have HK3 := Lib.hid hk3
        have HOZ := Lib.hid ((HO2.out.later hO3 (fun i hi e => by have := EKB.out; omega)).later hoz (fun i hi e => by have := EKB.out; omega))
        clear hoz hO3 hp hk3
        go_wp2_with fail
        refine leaves_cons (f := 61) (args := #[.pointer (some ⟨kb, 0, none⟩)]) (by simp) (by simp [go_sem]) ?_
        refine (saved_bad kb false _ HK3.out).mono ?_
        rintro e u' w'' ⟨rfl, rfl, rfl⟩
        rw [ewz]
        show Leaves Try.prog Try.f37 _ _ [] .returning wz
        exact ⟨_, by (simp [results, Try.results37, go_sem, hz]; try rfl), HOZ.out, Or.inr ⟨HRD.out, rfl⟩⟩
    · have hne : ((b.toNat : Int) != (k.toNat : Int)) = true := by simp; intro e; exact hbk (UInt8.toNat_inj.1 (by omega))
      have HRD := Lib.hid (show rd k C (b :: r) = none by simp [rd, hbk])
      have k0 : w2.cell? ⟨kb, 0, none⟩ = some (.bool false) := by rw [cell_at HK2.out]; rfl
      have kf : w2.frozen? ⟨kb, 0, none⟩ = false := free_at HK2.out
      obtain ⟨w3, ew3⟩ : ∃ w3, w2.setCell ⟨kb, 0, none⟩ (.bool false) = w3 := ⟨_, rfl⟩
      have hp0 : w3.cell? ⟨kb, 0, none⟩ = some (.bool false) := by rw [← ew3, cell_at (heap_set HK2.out _)]; rfl
      have HO3 := Lib.hid (show Off (· = xb) w w3 by rw [← ew3]; exact HO2.out.put (by have := EKB.out; omega) _ _)
      go_wp2_with fail
      try rw [ew3]
      refine leaves_cons (f := 61) (args := #[.pointer (some ⟨kb, 0, none⟩)]) (by simp) (by simp [go_sem]) ?_
      refine (saved_idle ⟨kb, 0, none⟩ w3).mono ?_
      rintro e u' w'' ⟨rfl, rfl, rfl⟩
      show Leaves Try.prog Try.f37 _ _ [] .returning _
      exact ⟨_, by (simp [results, Try.results37, go_sem, hp0]; try rfl), HO3.out, Or.inr ⟨HRD.out, rfl⟩⟩
  · obtain ⟨wz, ewz, hz, hoz⟩ := bad_world HK0.out
    have hnil : l = [] := List.eq_nil_of_length_eq_zero (by omega)
    subst hnil
    have HOZ := Lib.hid (HO0.out.later hoz (fun i hi e => by have := EKB.out; omega))
    clear hoz
    go_wp2_with fail
    refine leaves_cons (f := 61) (args := #[.pointer (some ⟨kb, 0, none⟩)]) (by simp) (by simp [go_sem]) ?_
    refine (saved_bad kb false _ HK0.out).mono ?_
    rintro e u' w'' ⟨rfl, rfl, rfl⟩
    rw [ewz]
    show Leaves Try.prog Try.f37 _ _ [] .returning wz
    exact ⟨_, by (simp [results, Try.results37, go_sem, hz]; try rfl), HOZ.out, Or.inr ⟨rfl, rfl⟩⟩
end Go.Proofs.Ytdbhcdhenapfoaa
