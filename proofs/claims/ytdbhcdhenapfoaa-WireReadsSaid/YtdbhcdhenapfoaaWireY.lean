/- Layer 10: something is written. -/
import Derived.Test.YtdbhcdhenapfoaaWireX
set_option linter.unusedVariables false
set_option linter.unusedSimpArgs false
namespace Go.Proofs.Ytdbhcdhenapfoaa
open Go.RowKit Go.Maps
theorem write1_any (sb kb : Nat) (v : Bool) (s : ByteArray) (w : World) (hk : w.heap[kb]? = some (.cells #[.bool v] 4 (0, 0))) (hs : w.heap[sb]? = some (.cells #[.string s] 9 (0, 0))) :
    CallsD Try.prog 60 #[.pointer (some ⟨kb, 0, none⟩), .pointer (some ⟨sb, 0, none⟩)] .returning w fun e u' w' => u' = .returning ∧ e = .returned (.tuple #[]) ∧ w' = if v = true then w else w.setCell ⟨sb, 0, none⟩ (.string { data := #[] }) := by
  have k0 : w.cell? ⟨kb, 0, none⟩ = some (.bool v) := by rw [cell_at hk]; rfl
  have s0 : w.cell? ⟨sb, 0, none⟩ = some (.string s) := by rw [cell_at hs]; rfl
  have sf : w.frozen? ⟨sb, 0, none⟩ = false := free_at hs
  clear hk hs
  cases v
  · go_enter_d Try.func60, Try.ntmps60
    go_wp2_with fail
    exact ⟨rfl, _, results_none rfl _ _ _, rfl, rfl⟩
  · go_enter_d Try.func60, Try.ntmps60
    go_wp2_with fail
    exact ⟨rfl, _, results_none rfl _ _ _, rfl, rfl⟩
/-- what write asks of what it is handed: it writes enc if ok, reading what R holds -/
structure Puts (g xb lo : Nat) (ok : Prop) (enc : Bs) (R : World → Prop) : Prop where
  enter : ∀ (args : Array Value) (w : World), (callFunc g args).run Try.prog w = .ok (.enter g args) w
  run : ∀ (wb : Nat) (l : Bs) (w : World), l.length ≤ 10 → wb ≠ xb → WrAt w wb lo l → R w →
    Calls Try.prog g #[.pointer (some ⟨wb, 0, none⟩), .pointer (some ⟨xb, 0, none⟩)] w fun z w' =>
      Wrote lo wb w w' ∧ ((ok ∧ z = .returned (.tuple #[]) ∧ WrAt w' wb lo (l ++ enc)) ∨ (¬ ok ∧ z = .panicked [badP]))
  stay : ∀ (w w' : World), R w → Same w w' → R w'
theorem own_new {w : World} {b lo : Nat} (k : UInt8) (h : w.heap[b]? = some (.cells #[.int .u8 k.toNat] 5 (0, 0))) (hlo : lo ≤ b) : OwnY w lo (.slice (some ⟨b, 0, none⟩) 1 1) [k] := by
  refine ⟨rfl, .inr ⟨b, 1, _, rfl, hlo, h, Nat.le_refl 1, by decide, rfl, ?_⟩⟩
  rfl
theorem row_string {w : World} {lo : Nat} {a : Option Addr} {n c : Nat} {l : Bs} (h : OwnY w lo (.slice a n c) l) (hne : l ≠ []) : (convert 99 9 (.slice a n c)).run Try.prog w = .ok (.string (ofL l)) w := by
  obtain ⟨hl, h1 | ⟨g, cap, cur, hv, hbs, hh, hn, hm, hsz, ht⟩⟩ := h
  · have := List.eq_nil_of_length_eq_zero h1.2
    exact absurd this hne
  · obtain ⟨e1, e2, e3⟩ := Value.slice.inj hv
    subst e1 e2 e3
    refine run_convert_bytes_back (P := Try.prog) w 99 9 5 ⟨g, 0, none⟩ c l Try.underlying99 Try.underlying5 Try.underlying9 (fun j hj => ?_)
    rw [Addr.add_lit, Nat.zero_add, cell_at hh]
    have h1 : (cur.toList.take (l.length * 1))[j]? = (byV l)[j]? := by rw [ht]
    rw [Nat.mul_one, List.getElem?_take, if_pos hj, List.getElem?_map, List.getElem?_eq_getElem hj] at h1
    rw [← Array.getElem?_toList, h1]
    rfl
set_option maxHeartbeats 1600000 in
theorem write_any (g xb lo : Nat) (ok : Prop) (enc : Bs) (R : World → Prop) (h : Puts g xb lo ok enc R) (k : UInt8) (w : World) (hlo : lo ≤ w.heap.size) (hxb : xb < w.heap.size) (hR : R w) :
    Calls Try.prog 26 #[.int .u8 k.toNat, .func (.func g) #[] #[.pointer (some ⟨xb, 0, none⟩)]] w fun z w' =>
      Below lo w w' ∧ ((ok ∧ z = .returned (.tuple #[.string (ofL (k :: enc)), .bool true])) ∨ (¬ ok ∧ z = .returned (.tuple #[.string { data := #[] }, .bool false]))) := by
  obtain ⟨sb, esb⟩ : ∃ sb, w.heap.size = sb := ⟨_, rfl⟩
  obtain ⟨wa, ewa⟩ : ∃ wa, (w.alloc (.cells #[.string { data := #[] }] 9)).alloc (.cells #[.bool false] 4) = wa := ⟨_, rfl⟩
  obtain ⟨wb0, ewb⟩ : ∃ wb0, (wa.alloc (.cells #[.int .u8 k.toNat] 5)).alloc (.cells #[.slice (some ⟨sb + 2, 0, none⟩) 1 1] 101) = wb0 := ⟨_, rfl⟩
  have hz1 : (w.alloc (.cells #[.string { data := #[] }] 9)).heap.size = sb + 1 := by rw [← esb]; simp
  have hz2 : wa.heap.size = sb + 2 := by rw [← ewa]; simp; omega
  have hz3 : (wa.alloc (.cells #[.int .u8 k.toNat] 5)).heap.size = sb + 3 := by simp [hz2]
  have hSa : Same w wa := by rw [← ewa]; exact ((Same.refl w).alloc _).alloc _
  have hSb : Same wa wb0 := by rw [← ewb]; exact ((Same.refl wa).alloc _).alloc _
  have hs0 : wa.heap[sb]? = some (.cells #[.string { data := #[] }] 9 (0, 0)) := by rw [← ewa, ← esb]; exact ((Same.refl _).alloc _).keep (heap_new _ _)
  have hk0 : wa.heap[sb + 1]? = some (.cells #[.bool false] 4 (0, 0)) := by rw [← ewa, ← hz1]; exact heap_new _ _
  have HSB := Lib.hid (hSb.keep hs0)
  have HKB := Lib.hid (hSb.keep hk0)
  have HWR := Lib.hid (show WrAt wb0 (sb + 3) lo [k] from ⟨by omega, _, _, _, by rw [← ewb, ← hz3]; exact heap_new _ _, own_new k (by rw [← ewb, ← hz2]; exact ((Same.refl _).alloc _).keep (heap_new _ _)) (by omega)⟩)
  have HRB := Lib.hid (h.stay _ _ (h.stay _ _ hR hSa) hSb)
  have HS := Lib.hid (hSa.trans hSb)
  have HZB := Lib.hid (show wb0.heap.size = sb + 4 by rw [← ewb]; simp [hz2])
  have HNE := Lib.hid (show xb < sb ∧ lo ≤ sb by omega)
  have HZ2 := Lib.hid hz2
  have HZ3 := Lib.hid hz3
  have EWA := Lib.hid ewa
  have EWB := Lib.hid ewb
  have ESB := Lib.hid esb
  have HH := Lib.hid h
  have hen := h.enter
  have hmf : ∀ (fn : Fn) (first cap : Array Value) (w : World), (Instr.makeFunc fn first cap).run Try.prog w = .ok (.func fn first cap) w := fun _ _ _ _ => rfl
  clear hSa hSb hs0 hk0 h hR ewa ewb esb hxb hlo hz1 hz2 hz3
  go_enter_defers Try.func26, Try.ntmps26
  go_upto_region 1 with fail
  rw [EWA.out, ESB.out]
  go_upto_region 4 with fail
  rw [HZ2.out, EWB.out]
  rw [show sb + 2 + 1 = sb + 3 from rfl]
  go_wp2_with fail
  refine (HH.out.run (sb + 3) [k] wb0 (by simp) (by have := HNE.out; omega) HWR.out HRB.out).mono ?_
  rintro e w3 ⟨hO3, (⟨hok, rfl, hV3⟩ | ⟨hok, rfl⟩)⟩
  · have HBL := Lib.hid (show Below lo w w3 from (Below.mono HS.out (by have := ESB.out; have := HNE.out; omega)).trans (hO3.below (by have := HZB.out; have := HNE.out; omega)))
    have hs3 := hO3.keep HSB.out (by omega) (by decide)
    have hk3 := hO3.keep HKB.out (by omega) (by decide)
    obtain ⟨va, vn, vc, hv, ho⟩ := hV3.ex
    have hst := row_string ho (by simp)
    have v0 : w3.cell? ⟨sb + 3, 0, none⟩ = some (.slice va vn vc) := by rw [cell_at hv]; rfl
    obtain ⟨st, est⟩ : ∃ st, ofL ([k] ++ enc) = st := ⟨_, rfl⟩
    rw [est] at hst
    have EST := Lib.hid (show ofL (k :: enc) = st from est)
    have s0 : w3.cell? ⟨sb, 0, none⟩ = some (.string { data := #[] }) := by rw [cell_at hs3]; rfl
    have sf : w3.frozen? ⟨sb, 0, none⟩ = false := free_at hs3
    have k0 : w3.cell? ⟨sb + 1, 0, none⟩ = some (.bool false) := by rw [cell_at hk3]; rfl
    have kf : w3.frozen? ⟨sb + 1, 0, none⟩ = false := free_at hk3
    obtain ⟨w4, ew4⟩ : ∃ w4, (w3.setCell ⟨sb, 0, none⟩ (.string st)).setCell ⟨sb + 1, 0, none⟩ (.bool true) = w4 := ⟨_, rfl⟩
    have hs4 : w4.heap[sb]? = some (.cells #[.string st] 9 (0, 0)) := by rw [← ew4, heap_far _ (by omega)]; exact heap_set hs3 _
    have hk4 : w4.heap[sb + 1]? = some (.cells #[.bool true] 4 (0, 0)) := by
      rw [← ew4]; exact heap_set (put_far hk3 (by omega)) _
    have p0 : w4.cell? ⟨sb, 0, none⟩ = some (.string st) := by rw [cell_at hs4]; rfl
    have p1 : w4.cell? ⟨sb + 1, 0, none⟩ = some (.bool true) := by rw [cell_at hk4]; rfl
    have HS4 := Lib.hid hs4
    have HK4 := Lib.hid hk4
    have HB4 := Lib.hid (show Below lo w w4 by rw [← ew4]; exact Below.setCell (Below.setCell HBL.out (p := ⟨sb, 0, none⟩) HNE.out.2 _) (p := ⟨sb + 1, 0, none⟩) (by have := HNE.out; show lo ≤ sb + 1; omega) _)
    have EW4 := Lib.hid ew4
    clear hO3 hV3 hs3 hk3 hv ho est ew4 hs4 hk4
    go_wp2_with fail
    rw [EW4.out]
    refine leaves_cons (f := 61) (args := #[.pointer (some ⟨sb + 1, 0, none⟩)]) (by simp) (by simp [go_sem]) ?_
    refine (saved_idle ⟨sb + 1, 0, none⟩ w4).mono ?_
    rintro e u' w'' ⟨rfl, rfl, rfl⟩
    refine leaves_cons (f := 60) (args := #[.pointer (some ⟨sb + 1, 0, none⟩), .pointer (some ⟨sb, 0, none⟩)]) (by simp [settle]) (by simp [go_sem]) ?_
    refine (write1_any sb (sb + 1) true st w'' HK4.out HS4.out).mono ?_
    rintro e u' wz ⟨rfl, rfl, rfl⟩
    show Leaves Try.prog Try.f26 _ _ [] .returning _
    refine ⟨_, by (simp [results, Try.results26, go_sem, p0, p1]; try rfl), HB4.out, Or.inl ⟨hok, by rw [EST.out]⟩⟩
  · have HBL := Lib.hid (show Below lo w w3 from (Below.mono HS.out (by have := ESB.out; have := HNE.out; omega)).trans (hO3.below (by have := HZB.out; have := HNE.out; omega)))
    have HS3 := Lib.hid (hO3.keep HSB.out (by omega) (by decide))
    have HK3 := Lib.hid (hO3.keep HKB.out (by omega) (by decide))
    obtain ⟨wz, ewz, hz, hoz⟩ := bad_world HK3.out
    have hkz : wz.heap[sb + 1]? = some (.cells #[.bool false] 4 (0, 0)) := by
      rw [← ewz]; exact heap_set (((Same.refl w3).alloc _).keep HK3.out) _
    have HSZ := Lib.hid (hoz.keep (b := sb) (by omega) HS3.out)
    have HKZ := Lib.hid hkz
    have HB4 := Lib.hid (show Below lo w wz from HBL.out.trans (hoz.below (fun k hk e => by have := HNE.out; omega) (by have h1 := HBL.out.size; have := HNE.out; have := ESB.out; omega)))
    clear hO3 hoz hkz
    go_wp2_with fail
    refine leaves_cons (f := 61) (args := #[.pointer (some ⟨sb + 1, 0, none⟩)]) (by simp) (by simp [go_sem]) ?_
    refine (saved_bad (sb + 1) false _ HK3.out).mono ?_
    rintro e u' w'' ⟨rfl, rfl, rfl⟩
    rw [ewz]
    refine leaves_cons (f := 60) (args := #[.pointer (some ⟨sb + 1, 0, none⟩), .pointer (some ⟨sb, 0, none⟩)]) (by simp [settle]) (by simp [go_sem]) ?_
    show CallsD Try.prog _ _ .returning _ _
    refine (write1_any sb (sb + 1) false _ wz HKZ.out HSZ.out).mono ?_
    rintro e u' wy ⟨rfl, rfl, ey⟩
    obtain ⟨wq, ewq⟩ : ∃ wq, wz.setCell ⟨sb, 0, none⟩ (.string { data := #[] }) = wq := ⟨_, rfl⟩
    have hyq : wy = wq := by rw [ey, if_neg (by simp)]; exact ewq
    subst hyq
    have p0 : wy.cell? ⟨sb, 0, none⟩ = some (.string { data := #[] }) := by rw [← ewq, cell_at (heap_set HSZ.out _)]; rfl
    have p1 : wy.cell? ⟨sb + 1, 0, none⟩ = some (.bool false) := by rw [← ewq, cell_at (put_far HKZ.out (by omega))]; rfl
    have HBY := Lib.hid (show Below lo w wy by rw [← ewq]; exact Below.setCell HB4.out (p := ⟨sb, 0, none⟩) HNE.out.2 _)
    clear ewq ey
    show Leaves Try.prog Try.f26 _ _ [] .returning _
    refine ⟨_, by (simp [results, Try.results26, go_sem, p0, p1]; try rfl), HBY.out, Or.inr ⟨hok, rfl⟩⟩
end Go.Proofs.Ytdbhcdhenapfoaa
