/- Layer 10: the reader's list, proof, box. -/
import Derived.Test.YtdbhcdhenapfoaaWireS
import Derived.Test.YtdbhcdhenapfoaaOwnI
set_option linter.unusedVariables false
set_option linter.unusedSimpArgs false
namespace Go.Proofs.Ytdbhcdhenapfoaa
open Go.RowKit Go.Maps
theorem Cod.rest {α : Type} (A : Cod α) {l r : Bs} {x : α} (h : A.par l = some (x, r)) : r.length ≤ l.length := by
  obtain ⟨_, e⟩ := A.only _ _ _ h
  rw [e, List.length_append]; omega
theorem many_rest {α : Type} (A : Cod α) {k : Nat} {l r : Bs} {xs : List α} (h : many A k l = some (xs, r)) : r.length ≤ l.length := by
  obtain ⟨_, e⟩ := many_only A k l xs r h
  rw [e, List.length_append]; omega
theorem many_next {α : Type} (A : Cod α) {k : Nat} {l r r' : Bs} {xs : List α} {x : α} (h : many A k l = some (xs, r)) (h2 : A.par r = some (x, r')) : many A (k + 1) l = some (xs ++ [x], r') := by
  rw [many_snoc, h]; simp only [Option.bind_some]; rw [h2]; rfl
theorem many_stop {α : Type} (A : Cod α) {k : Nat} {l r : Bs} {xs : List α} (h : many A k l = some (xs, r)) (h2 : A.par r = none) : ∀ m, k < m → many A m l = none := by
  intro m hm
  have h1 : many A (k + 1) l = none := by rw [many_snoc, h]; simp only [Option.bind_some]; rw [h2]; rfl
  induction m with
  | zero => omega
  | succ m ih =>
    by_cases e : k = m
    · subst e; exact h1
    · rw [many_snoc, ih (by omega)]; rfl
theorem many_u {k : Nat} {l r : Bs} {xs : List Int} (h : many numC k l = some (xs, r)) : ∀ x ∈ xs, U64 x := (many_only numC k l xs r h).1
theorem Off.grown {S : Nat → Prop} {a w w' : World} {row : Option Nat} (h : Off S a w) (hg : w.grownBy w' row) (hr : ∀ k, row = some k → a.heap.size ≤ k) : Off S a w' :=
  ⟨hg.os.trans h.os, hg.tape.trans h.tape, hg.output.trans h.output, Nat.le_trans h.size hg.size, fun k hk hne => (hg.block k (Nat.lt_of_lt_of_le hk h.size) (fun e => by have := hr k e.symm; omega)).trans (h.block k hk hne)⟩
theorem OwnI.off {S : Nat → Prop} {w w' : World} {base : Nat} {v : Value} {xs : List Int} (h : OwnI w base v xs) (k : Off S w w') (hS : ∀ b, base ≤ b → ¬ S b) : OwnI w' base v xs := by
  refine ⟨?_, h.u, h.small⟩
  obtain ⟨hl, h1 | ⟨g, cap, cur, hv, hbs, hh, hn, hm, hsz, ht⟩⟩ := h.own
  · exact ⟨hl, .inl h1⟩
  · exact ⟨hl, .inr ⟨g, cap, cur, hv, hbs, k.keep (hS g hbs) hh, hn, hm, hsz, ht⟩⟩
theorem OwnI.down {w : World} {base b' : Nat} {v : Value} {xs : List Int} (h : OwnI w base v xs) (hb : b' ≤ base) : OwnI w b' v xs := by
  refine ⟨?_, h.u, h.small⟩
  obtain ⟨hl, h1 | ⟨g, cap, cur, hv, hbs, r⟩⟩ := h.own
  · exact ⟨hl, .inl h1⟩
  · exact ⟨hl, .inr ⟨g, cap, cur, hv, by omega, r⟩⟩
theorem rlist_any (rb : Nat) (l : Bs) (hl : l.length ≤ 1000000000) (w : World) (h : RdrAt w rb l) :
    Calls Try.prog 42 #[.pointer (some ⟨rb, 0, none⟩)] w fun z w' =>
      Off (· = rb) w w' ∧ ((∃ xs r v, numsC.par l = some (xs, r) ∧ z = .returned v ∧ RdrAt w' rb r ∧ OwnI w' w.heap.size v xs) ∨ (numsC.par l = none ∧ z = .panicked [badP])) := by
  have HR := Lib.hid h
  have hrl := (Array.getElem?_eq_some_iff.1 h).1
  have HRL := Lib.hid hrl
  clear h hrl
  go_enter Try.func42, Try.ntmps42
  go_wp2_with fail
  refine (count_any rb 64 l hl (by omega) w HR.out).mono ?_
  rintro e w2 ⟨hO2, (⟨n, l1, hp, rfl, hR2, hn⟩ | ⟨hp, rfl⟩)⟩
  · have HO2 := Lib.hid hO2
    have HR2 := Lib.hid hR2
    have HP := Lib.hid (show numsC.par l = many numC n l1 by show (parC 64 l).bind _ = _; rw [hp]; rfl)
    have hl1 : l1.length ≤ 1000000000 := Nat.le_trans ((cntC 64).rest hp) hl
    have hn0 : (0 : Int) ≤ n := by omega
    obtain ⟨i0, hi, hz0, hz1, hz2⟩ := info_parts info_u64
    clear hO2 hR2 hp
    go_wp2_with fail
    go_loopw [3, 6] (fun s3 s6 wr => ∃ i : Nat, s6 = .int .i64 i ∧ i ≤ n ∧ Hid (∃ xs r, many numC i l1 = some (xs, r) ∧ OwnI wr w.heap.size s3 xs ∧ RdrAt wr rb r) ∧ Hid (Off (· = rb) w wr)) (fun _ s6 _ => n - (intOf s6).toNat)
    case atStart => exact ⟨0, rfl, by omega, Lib.hid ⟨[], l1, rfl, OwnI.nil _ _, HR2.out⟩, HO2⟩
    case round =>
      obtain ⟨i, rfl, hi', hI, hD⟩ := hrel
      obtain ⟨xs, r, hm, hown, hR⟩ := hI.out
      have HM := Lib.hid hm
      have HOW := Lib.hid hown
      have HRR := Lib.hid hR
      have hrl : r.length ≤ 1000000000 := Nat.le_trans (many_rest _ hm) hl1
      have HLX := Lib.hid (many_len _ _ _ _ _ hm)
      clear hI hm hown hR
      by_cases hlt : i < n
      · have hi0 : (0 : Int) ≤ i := by omega
        have hi1 : (i : Int) < n := by omega
        go_wp2_with fail
        refine (num_any rb r hrl _ HRR.out).mono ?_
        rintro e w3 ⟨hO3, (⟨x, r', hpx, rfl, hR3⟩ | ⟨hpx, rfl⟩)⟩
        · have HX := Lib.hid (numC.only r x r' hpx).1
          have HM3 := Lib.hid (many_next numC HM.out hpx)
          have HR3 := Lib.hid hR3
          have hD3 := Lib.hid (hD.out.trans hO3)
          have hown := (HOW.out.off hO3 (fun b hb => by have := HRL.out; simp; omega)).own
          obtain ⟨m, em⟩ : ∃ m, xs.length = m := ⟨_, rfl⟩
          have hm64 : m ≤ 64 := by rw [← em, HLX.out]; omega
          have HU := Lib.hid HOW.out.u
          rw [em] at hown
          have EM := Lib.hid em
          clear hpx hO3 hR3 em
          go_wp2_with (first
            | (at_builtin; refine wpList_append_own _ rfl _ _ 24 rfl w.heap.size 33 i0 (.int .u64 0) 1 8 Try.underlying24 hi hz0 hz1 hz2 rfl (by decide) _ _ _ rfl (hown.alloc _) ⟨w3.heap.size, 0, none⟩ 1 1 [.int .u64 x] rfl rfl (one_new _ _ _) (one_cell _) (by unfold maxLen; omega) (by omega) (by have := hD3.out.size; simp; omega) ?_; intro v' w7 hown' hgrow _; have hb2 := Lib.hid (hD3.out.alloc (.cells #[.int .u64 x] 33) |>.grown hgrow (fun k hk => (hown.lt k hk).1)); have hN7 := Lib.hid hown'; have hG7 := Lib.hid hgrow; clear hown' hgrow))
          have HFIN := Lib.hid (show ∃ xs r, many numC (i + 1) l1 = some (xs, r) ∧ OwnI w7 w.heap.size v' xs ∧ RdrAt w7 rb r from ⟨_, _, HM3.out, OwnI.push HU.out HX.out (by rw [EM.out]; omega) (by rw [EM.out]; exact hN7.out), by
            have h1 := ((Same.refl w3).alloc (.cells #[.int .u64 x] 33)).keep HR3.out
            have h2 := hG7.out.block rb (Array.getElem?_eq_some_iff.1 h1).1 (fun e => by have := (hown.lt rb e.symm).1; have := HRL.out; omega)
            exact h2.trans h1⟩)
          clear hown hN7 hG7
          go_roundw
          case rel => exact ⟨i + 1, by go_num, by omega, HFIN, hb2⟩
          case measure => simp [intOf]; omega
        · have hN := many_stop numC HM.out hpx n hlt
          go_wp2_with fail
          exact ⟨rfl, hD.out.trans hO3, Or.inr ⟨by rw [HP.out]; exact hN, rfl⟩⟩
      · obtain rfl : n = i := by omega
        go_wp2_with fail
        go_ret
        exact ⟨hD.out, Or.inl ⟨xs, r, _, by rw [HP.out]; exact HM.out, rfl, HRR.out, HOW.out⟩⟩
  · go_wp2_with fail
    exact ⟨rfl, hO2, Or.inr ⟨by show (parC 64 l).bind _ = _; rw [hp]; rfl, rfl⟩⟩
theorem OwnI.form {w : World} {base : Nat} {v : Value} {xs : List Int} (h : OwnI w base v xs) : ∃ a n c, v = .slice a n c := by
  obtain ⟨a, n, c, e, _⟩ := h.ints
  exact ⟨a, n, c, e⟩
theorem OwnI.put {w : World} {base b o : Nat} {v u : Value} {xs : List Int} {cur : Array Value} {t : TypeId} {f : Nat × Nat} (h : OwnI w base v xs) (hb : w.heap[b]? = some (.cells cur t f)) (ht : t ≠ 33) : OwnI (w.setCell ⟨b, o, none⟩ u) base v xs := by
  refine ⟨?_, h.u, h.small⟩
  obtain ⟨hl, h1 | ⟨g, cap, cur', hv, hbs, hh, r⟩⟩ := h.own
  · exact ⟨hl, .inl h1⟩
  · refine ⟨hl, .inr ⟨g, cap, cur', hv, hbs, ?_, r⟩⟩
    rw [heap_far w (fun e => by subst e; rw [hb] at hh; injection hh with e; injection e with _ e _; exact ht e)]
    exact hh
theorem put_far {w : World} {b g o : Nat} {v : Value} {ob : Obj} (h : w.heap[b]? = some ob) (hne : b ≠ g) : (w.setCell ⟨g, o, none⟩ v).heap[b]? = some ob := by rw [heap_far w hne]; exact h
theorem Off.put {S : Nat → Prop} {a w : World} (h : Off S a w) {b : Nat} (hb : a.heap.size ≤ b) (o : Nat) (v : Value) : Off S a (w.setCell ⟨b, o, none⟩ v) :=
  ⟨h.os, h.tape, h.output, by have := h.size; simpa [World.setCell] using this, fun k hk hne => (heap_far w (by omega) v).trans (h.block k hk hne)⟩
theorem rproof_any (rb : Nat) (l : Bs) (hl : l.length ≤ 1000000000) (w : World) (h : RdrAt w rb l) :
    Calls Try.prog 41 #[.pointer (some ⟨rb, 0, none⟩)] w fun z w' =>
      Off (· = rb) w w' ∧ ((∃ p r a1 n1 c1 a2 n2 c2, proofC.par l = some (p, r) ∧ z = .returned (.agg #[.slice a1 n1 c1, .slice a2 n2 c2]) ∧ RdrAt w' rb r ∧ OwnI w' w.heap.size (.slice a1 n1 c1) p.1 ∧ OwnI w' w.heap.size (.slice a2 n2 c2) p.2) ∨ (proofC.par l = none ∧ z = .panicked [badP])) := by
  have hrl := (Array.getElem?_eq_some_iff.1 h).1
  obtain ⟨w0, ew0⟩ : ∃ w0, w.alloc (.cells #[.slice none 0 0, .slice none 0 0] 26) = w0 := ⟨_, rfl⟩
  obtain ⟨b2, eb2⟩ : ∃ b2, w.heap.size = b2 := ⟨_, rfl⟩
  have HRL := Lib.hid (show rb < b2 by omega)
  have hS0 : Same w w0 := by rw [← ew0]; exact (Same.refl w).alloc _
  have HB2 := Lib.hid (show w0.heap[b2]? = some (.cells #[.slice none 0 0, .slice none 0 0] 26 (0, 0)) by rw [← ew0, ← eb2]; exact heap_new _ _)
  have HR0 := Lib.hid (hS0.keep h)
  have HO0 := Lib.hid (show Off (· = rb) w w0 from Off.of_same hS0)
  have EW0 := Lib.hid ew0
  have EB2 := Lib.hid eb2
  clear h hrl hS0 ew0 eb2
  go_enter Try.func41, Try.ntmps41
  go_upto_region 1 with fail
  rw [EW0.out, EB2.out]
  go_wp2_with fail
  refine (rlist_any rb l hl w0 HR0.out).mono ?_
  rintro e w1 ⟨hO1, (⟨c, r1, v1, hp1, rfl, hR1, hv1⟩ | ⟨hp1, rfl⟩)⟩
  case inr =>
    go_wp2_with fail
    exact ⟨rfl, HO0.out.trans hO1, Or.inr ⟨by show (numsC.par l).bind _ = _; rw [hp1]; rfl, rfl⟩⟩
  obtain ⟨a1, n1, c1, rfl⟩ := hv1.form
  obtain ⟨w2, ew2⟩ : ∃ w2, w1.alloc (.cells #[.slice a1 n1 c1, .slice none 0 0] 26) = w2 := ⟨_, rfl⟩
  obtain ⟨b3, eb3⟩ : ∃ b3, w1.heap.size = b3 := ⟨_, rfl⟩
  have hS2 : Same w1 w2 := by rw [← ew2]; exact (Same.refl w1).alloc _
  have hB2w1 := hO1.keep (by have := HRL.out; omega) HB2.out
  have HB22 := Lib.hid (hS2.keep hB2w1)
  have HB3 := Lib.hid (show w2.heap[b3]? = some (.cells #[.slice a1 n1 c1, .slice none 0 0] 26 (0, 0)) by rw [← ew2, ← eb3]; exact heap_new _ _)
  have HLT := Lib.hid (show b2 < b3 by have := (Array.getElem?_eq_some_iff.1 hB2w1).1; omega)
  have hw0 : w.heap.size ≤ w0.heap.size := HO0.out.size
  have HV1 := Lib.hid ((hv1.same hS2).down hw0)
  have HR2 := Lib.hid (hS2.keep hR1)
  have HO2 := Lib.hid ((HO0.out.trans hO1).trans (Off.of_same hS2))
  have HP1 := Lib.hid hp1
  have hl1 : r1.length ≤ 1000000000 := Nat.le_trans (Cod.rest _ hp1) hl
  have EW2 := Lib.hid ew2
  have EB3 := Lib.hid eb3
  clear hO1 hR1 hv1 hp1 ew2 eb3 hS2 hB2w1 hw0
  go_upto_region 2 with fail
  rw [EW2.out, EB3.out]
  go_wp2_with fail
  refine (rlist_any rb r1 hl1 w2 HR2.out).mono ?_
  rintro e w3 ⟨hO3, (⟨a, r2, v2, hp2, rfl, hR3, hv2⟩ | ⟨hp2, rfl⟩)⟩
  case inr =>
    go_wp2_with fail
    exact ⟨rfl, HO2.out.trans hO3, Or.inr ⟨by show (numsC.par l).bind _ = _; rw [HP1.out]; show (numsC.par r1).bind _ = _; rw [hp2]; rfl, rfl⟩⟩
  obtain ⟨a2, n2, c2, rfl⟩ := hv2.form
  have hb3 := hO3.keep (b := b3) (by have := HRL.out; have := HLT.out; omega) HB3.out
  have hb2 := hO3.keep (b := b2) (by have := HRL.out; omega) HB22.out
  have c30 : w3.cell? ⟨b3, 1, none⟩ = some (.slice none 0 0) := by rw [cell_at hb3]; rfl
  have f30 : w3.frozen? ⟨b3, 1, none⟩ = false := free_at hb3
  obtain ⟨w4, ew4⟩ : ∃ w4, w3.setCell ⟨b3, 1, none⟩ (.slice a2 n2 c2) = w4 := ⟨_, rfl⟩
  have hb34 : w4.heap[b3]? = some (.cells #[.slice a1 n1 c1, .slice a2 n2 c2] 26 (0, 0)) := by rw [← ew4]; exact heap_set hb3 _
  have hb24 : w4.heap[b2]? = some (.cells #[.slice none 0 0, .slice none 0 0] 26 (0, 0)) := by rw [← ew4]; exact put_far hb2 (by have := HLT.out; omega)
  have hw3 : w.heap.size ≤ w2.heap.size := HO2.out.size
  have hV1 : OwnI w4 w.heap.size (.slice a1 n1 c1) c := by rw [← ew4]; exact (HV1.out.off hO3 (fun b hb => by have := HRL.out; have := EB2.out; omega)).put hb3 (by decide)
  have hV2 : OwnI w4 w.heap.size (.slice a2 n2 c2) a := by rw [← ew4]; exact (hv2.put hb3 (by decide)).down hw3
  have hR4 : RdrAt w4 rb r2 := by rw [← ew4]; exact put_far hR3 (by have := HRL.out; have := HLT.out; omega)
  have hO4 : Off (· = rb) w w4 := by rw [← ew4]; exact (HO2.out.trans hO3).put (by have := HLT.out; have := EB2.out; omega) _ _
  obtain ⟨w5, ew5⟩ : ∃ w5, (w4.setCell ⟨b2, 0, none⟩ (.slice a1 n1 c1)).setCell ⟨b2, 1, none⟩ (.slice a2 n2 c2) = w5 := ⟨_, rfl⟩
  have hb25 := heap_set (o := 1) (heap_set (o := 0) hb24 (.slice a1 n1 c1)) (.slice a2 n2 c2)
  have HFIN := Lib.hid (show Off (· = rb) w w5 ∧ proofC.par l = some ((c, a), r2) ∧ RdrAt w5 rb r2 ∧ OwnI w5 w.heap.size (.slice a1 n1 c1) c ∧ OwnI w5 w.heap.size (.slice a2 n2 c2) a from by
    rw [← ew5]
    have e2 := EB2.out
    have e3 := HRL.out
    have h1 := heap_set (o := 0) hb24 (.slice a1 n1 c1)
    refine ⟨(hO4.put (by omega) _ _).put (by omega) _ _, ?_, put_far (put_far hR4 (by omega)) (by omega), (hV1.put hb24 (by decide)).put h1 (by decide), (hV2.put hb24 (by decide)).put h1 (by decide)⟩
    show (numsC.par l).bind _ = _
    rw [HP1.out]
    show (numsC.par r1).bind _ = _
    rw [hp2]
    rfl)
  rw [ew5] at hb25
  have p0 : w5.cell? ⟨b2, 0, none⟩ = some (.slice a1 n1 c1) := by rw [cell_at hb25]; rfl
  have p1 : w5.cell? ⟨b2, 1, none⟩ = some (.slice a2 n2 c2) := by rw [cell_at hb25]; rfl
  have g0 : w4.cell? ⟨b3, 0, none⟩ = some (.slice a1 n1 c1) := by rw [cell_at hb34]; rfl
  have g1 : w4.cell? ⟨b3, 1, none⟩ = some (.slice a2 n2 c2) := by rw [cell_at hb34]; rfl
  have q0 : w4.cell? ⟨b2, 0, none⟩ = some (.slice none 0 0) := by rw [cell_at hb24]; rfl
  have q1 : w4.cell? ⟨b2, 1, none⟩ = some (.slice none 0 0) := by rw [cell_at hb24]; rfl
  have f0 : w4.frozen? ⟨b2, 0, none⟩ = false := free_at hb24
  have f1 : w4.frozen? ⟨b2, 1, none⟩ = false := free_at hb24
  have EW4 := Lib.hid ew4
  have EW5 := Lib.hid ew5
  clear ew4 ew5 hb3 hb2 hb34 hb24 hV1 hV2 hR4 hO4 hb25 hw3 hO3 hR3 hv2 hp2
  go_upto_region 3 with fail
  rw [EW4.out]
  clear c30 f30
  go_wp2_with fail
  rw [EW5.out]
  refine bodyPost_ret (by simp [results, Try.results41, go_sem, p0, p1]; try rfl) rfl ?_
  obtain ⟨x1, x2, x3, x4, x5⟩ := HFIN.out
  exact ⟨x1, Or.inl ⟨(c, a), r2, _, _, _, _, _, _, x2, rfl, x3, x4, x5⟩⟩
end Go.Proofs.Ytdbhcdhenapfoaa
