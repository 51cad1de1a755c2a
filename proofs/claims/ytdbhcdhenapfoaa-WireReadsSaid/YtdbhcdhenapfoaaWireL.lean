/- Layer 10: a letter is read. -/
import Derived.Test.YtdbhcdhenapfoaaWireD
set_option linter.unusedVariables false
set_option linter.unusedSimpArgs false
namespace Go.Proofs.Ytdbhcdhenapfoaa
open Go.RowKit Go.Maps
def setsA : Array Value → Nat → List Value → Array Value
  | cur, _, [] => cur
  | cur, o, v :: r => setsA (cur.setIfInBounds o v) (o + 1) r
theorem heap_sets {b : Nat} {t : TypeId} {f : Nat × Nat} : ∀ (vs : List Value) (o : Nat) (w : World) (cur : Array Value), w.heap[b]? = some (.cells cur t f) → (w.setCells b o vs).heap[b]? = some (.cells (setsA cur o vs) t f)
  | [], _, _, _, h => h
  | v :: r, o, w, cur, h => heap_sets r (o + 1) _ _ (heap_set h v)
theorem sets_far {b k : Nat} (hk : k ≠ b) : ∀ (vs : List Value) (o : Nat) (w : World), (w.setCells b o vs).heap[k]? = w.heap[k]?
  | [], _, _ => rfl
  | v :: r, o, w => (sets_far hk r (o + 1) _).trans (heap_far w hk v)
theorem Off.sets {S : Nat → Prop} {b : Nat} (hb : S b) : ∀ (vs : List Value) (o : Nat) (w : World), Off S w (w.setCells b o vs)
  | [], _, w => Off.refl _ w
  | v :: r, o, w => (Off.set w hb o v).trans (Off.sets hb r (o + 1) _)
theorem OwnI.puts {base b : Nat} {v : Value} {xs : List Int} {t : TypeId} {f : Nat × Nat} (ht : t ≠ 33) : ∀ (vs : List Value) (o : Nat) (w : World) (cur : Array Value), OwnI w base v xs → w.heap[b]? = some (.cells cur t f) → OwnI (w.setCells b o vs) base v xs
  | [], _, _, _, h, _ => h
  | u :: r, o, w, cur, h, hb => OwnI.puts ht r (o + 1) _ _ (h.put hb ht) (heap_set hb u)
/-- a letter in block b -/
structure LetB (b lo : Nat) (w : World) (x : LetterD) : Prop where
  ex : ∃ x0 x1 x2 x3 x4 x5 a1 n1 c1 a2 n2 c2, x.1 = [x0, x1, x2, x3, x4, x5] ∧ w.heap[b]? = some (.cells #[.int .u64 x0, .int .u64 x1, .int .u64 x2, .int .u64 x3, .int .u64 x4, .int .u64 x5, .slice a1 n1 c1, .slice a2 n2 c2] 39 (0, 0)) ∧ OwnI w lo (.slice a1 n1 c1) x.2.1 ∧ OwnI w lo (.slice a2 n2 c2) x.2.2
theorem LetB.off {S : Nat → Prop} {b lo : Nat} {w w' : World} {x : LetterD} (h : LetB b lo w x) (k : Off S w w') (h1 : ¬ S b) (h2 : ∀ i, lo ≤ i → ¬ S i) : LetB b lo w' x := by
  obtain ⟨x0, x1, x2, x3, x4, x5, a1, n1, c1, a2, n2, c2, e, hh, o1, o2⟩ := h.ex
  exact ⟨⟨x0, x1, x2, x3, x4, x5, a1, n1, c1, a2, n2, c2, e, k.keep h1 hh, o1.off k h2, o2.off k h2⟩⟩
abbrev ZLet (b : Nat) (w : World) : Prop := w.heap[b]? = some (.cells #[.int .u64 0, .int .u64 0, .int .u64 0, .int .u64 0, .int .u64 0, .int .u64 0, .slice none 0 0, .slice none 0 0] 39 (0, 0))
set_option maxHeartbeats 1600000 in
theorem letter1 (xb : Nat) : Does 47 xb letterC (LetB xb) (ZLet xb) where
  enter := fun args w => by kernel_rfl
  stay := fun S lo w w' x h k h1 h2 => h.off k h1 h2
  stay0 := fun S w w' h k h1 => k.keep h1 h
  run := fun rb l w hl hne hxb hR hZ => by
    have HR := Lib.hid hR
    have HZ := Lib.hid hZ
    clear hR hZ
    go_enter Try.func47, Try.ntmps47
    go_wp2_with fail
    refine (rbox_any rb l hl w HR.out).mono ?_
    rintro e w1 ⟨hO1, (⟨xs, r, hp, rfl, hR1⟩ | ⟨hp, rfl⟩)⟩
    case inr =>
      go_wp2_with fail
      exact ⟨rfl, hO1.mono (fun k _ e => Or.inl e), Or.inr ⟨by show (boxC.par l).bind _ = _; rw [hp]; rfl, rfl⟩⟩
    have hrl : r.length ≤ 1000000000 := Nat.le_trans (Cod.rest _ hp) hl
    obtain ⟨x0, x1, x2, x3, x4, x5, rfl⟩ := six (boxC.only _ _ _ hp).1.1
    have hz1 := hO1.keep (b := xb) (fun e => hne e.symm) HZ.out
    have g0 : w1.cell? ⟨xb, 0, none⟩ = some (.int .u64 0) := by rw [cell_at hz1]; rfl
    have f0 : w1.frozen? ⟨xb, 0, none⟩ = false := free_at hz1
    have g1 : w1.cell? ⟨xb, 1, none⟩ = some (.int .u64 0) := by rw [cell_at hz1]; rfl
    have f1 : w1.frozen? ⟨xb, 1, none⟩ = false := free_at hz1
    have g2 : w1.cell? ⟨xb, 2, none⟩ = some (.int .u64 0) := by rw [cell_at hz1]; rfl
    have f2 : w1.frozen? ⟨xb, 2, none⟩ = false := free_at hz1
    have g3 : w1.cell? ⟨xb, 3, none⟩ = some (.int .u64 0) := by rw [cell_at hz1]; rfl
    have f3 : w1.frozen? ⟨xb, 3, none⟩ = false := free_at hz1
    have g4 : w1.cell? ⟨xb, 4, none⟩ = some (.int .u64 0) := by rw [cell_at hz1]; rfl
    have f4 : w1.frozen? ⟨xb, 4, none⟩ = false := free_at hz1
    have g5 : w1.cell? ⟨xb, 5, none⟩ = some (.int .u64 0) := by rw [cell_at hz1]; rfl
    have f5 : w1.frozen? ⟨xb, 5, none⟩ = false := free_at hz1
    obtain ⟨w2, ew2⟩ : ∃ w2, ((((((w1.setCell ⟨xb, 0, none⟩ (.int .u64 x0)).setCell ⟨xb, 1, none⟩ (.int .u64 x1)).setCell ⟨xb, 2, none⟩ (.int .u64 x2)).setCell ⟨xb, 3, none⟩ (.int .u64 x3)).setCell ⟨xb, 4, none⟩ (.int .u64 x4)).setCell ⟨xb, 5, none⟩ (.int .u64 x5)) = w2 := ⟨_, rfl⟩
    have HB2 := Lib.hid (show w2.heap[xb]? = some (.cells #[.int .u64 x0, .int .u64 x1, .int .u64 x2, .int .u64 x3, .int .u64 x4, .int .u64 x5, .slice none 0 0, .slice none 0 0] 39 (0, 0)) by rw [← ew2]; exact (heap_set (o := 5) (heap_set (o := 4) (heap_set (o := 3) (heap_set (o := 2) (heap_set (o := 1) (heap_set (o := 0) hz1 _) _) _) _) _) _))
    have hO2 : Off (fun k => k = rb ∨ k = xb) w w2 := by
      rw [← ew2]
      refine (hO1.mono (fun k _ e => Or.inl e)).trans ?_
      exact (((((((Off.refl _ _).trans (Off.set (S := fun k => k = rb ∨ k = xb) _ (Or.inr rfl) _ _)).trans (Off.set (S := fun k => k = rb ∨ k = xb) _ (Or.inr rfl) _ _)).trans (Off.set (S := fun k => k = rb ∨ k = xb) _ (Or.inr rfl) _ _)).trans (Off.set (S := fun k => k = rb ∨ k = xb) _ (Or.inr rfl) _ _)).trans (Off.set (S := fun k => k = rb ∨ k = xb) _ (Or.inr rfl) _ _)).trans (Off.set (S := fun k => k = rb ∨ k = xb) _ (Or.inr rfl) _ _))
    have HO2 := Lib.hid hO2
    have HR2 := Lib.hid (show RdrAt w2 rb r by rw [← ew2]; exact (put_far (put_far (put_far (put_far (put_far (put_far hR1 hne) hne) hne) hne) hne) hne))
    have HP := Lib.hid hp
    have EW2 := Lib.hid ew2
    rw [show boxV [x0, x1, x2, x3, x4, x5] = .agg #[.int .u64 x0, .int .u64 x1, .int .u64 x2, .int .u64 x3, .int .u64 x4, .int .u64 x5] from rfl]
    clear hz1 ew2 hO2 hO1 hR1 hp
    go_upto_region 1 with fail
    rw [EW2.out]
    clear g0 f0 g1 f1 g2 f2 g3 f3 g4 f4 g5 f5
    go_wp2_with fail
    refine (rproof_any rb r hrl w2 HR2.out).mono ?_
    rintro e w3 ⟨hO3, (⟨p, r2, a1, n1, c1, a2, n2, c2, hp2, rfl, hR3, ho1, ho2⟩ | ⟨hp2, rfl⟩)⟩
    case inr =>
      go_wp2_with fail
      exact ⟨rfl, HO2.out.trans (hO3.mono (fun k _ e => Or.inl e)), Or.inr ⟨by show (boxC.par l).bind _ = _; rw [HP.out]; show (proofC.par r).bind _ = _; rw [hp2]; rfl, rfl⟩⟩
    have hb3 := hO3.keep (b := xb) (fun e => hne e.symm) HB2.out
    have g6 : w3.cell? ⟨xb, 6, none⟩ = some (.slice none 0 0) := by rw [cell_at hb3]; rfl
    have g7 : w3.cell? ⟨xb, 7, none⟩ = some (.slice none 0 0) := by rw [cell_at hb3]; rfl
    have f6 : w3.frozen? ⟨xb, 6, none⟩ = false := free_at hb3
    have f7 : w3.frozen? ⟨xb, 7, none⟩ = false := free_at hb3
    obtain ⟨w4, ew4⟩ : ∃ w4, ((w3.setCell ⟨xb, 6, none⟩ (.slice a1 n1 c1)).setCell ⟨xb, 7, none⟩ (.slice a2 n2 c2)) = w4 := ⟨_, rfl⟩
    have hb36 := heap_set (o := 6) hb3 (.slice a1 n1 c1)
    have hw2 : w.heap.size ≤ w2.heap.size := HO2.out.size
    have HFIN := Lib.hid (show Off (fun k => k = rb ∨ k = xb) w w4 ∧ letterC.par l = some (([x0, x1, x2, x3, x4, x5], p), r2) ∧ RdrAt w4 rb r2 ∧ LetB xb w.heap.size w4 ([x0, x1, x2, x3, x4, x5], p) from by
      rw [← ew4]
      refine ⟨((HO2.out.trans (hO3.mono (fun k _ e => Or.inl e))).trans (Off.set (S := fun k => k = rb ∨ k = xb) _ (Or.inr rfl) _ _)).trans (Off.set (S := fun k => k = rb ∨ k = xb) _ (Or.inr rfl) _ _), ?_, put_far (put_far hR3 hne) hne, ⟨⟨x0, x1, x2, x3, x4, x5, a1, n1, c1, a2, n2, c2, rfl, heap_set hb36 _, ?_, ?_⟩⟩⟩
      · show (boxC.par l).bind _ = _; rw [HP.out]; show (proofC.par r).bind _ = _; rw [hp2]; rfl
      · exact ((ho1.put hb3 (by decide)).put hb36 (by decide)).down hw2
      · exact ((ho2.put hb3 (by decide)).put hb36 (by decide)).down hw2)
    have EW4 := Lib.hid ew4
    clear hb3 hb36 ew4 hO3 hR3 ho1 ho2 hp2 hw2
    go_wp2_with fail
    try rw [EW4.out]
    obtain ⟨y1, y2, y3, y4⟩ := HFIN.out
    exact ⟨rfl, _, results_none rfl _ _ _, y1, Or.inl ⟨_, r2, y2, rfl, y3, y4⟩⟩
theorem read_k {α : Type} (g xb : Nat) (C : Cod α) (X : Nat → World → α → Prop) (R0 : World → Prop) (h : Does g xb C X R0) (l : Bs) (k : UInt8) (kk : Int) (hk : (k.toNat : Int) = kk) (hl : l.length ≤ 1000000000) (w : World) (hxb : xb < w.heap.size) (hR0 : R0 w) :
    Calls Try.prog 37 #[.string (ofL l), .int .u8 kk, .func (.func g) #[] #[.pointer (some ⟨xb, 0, none⟩)]] w fun z w' =>
      Off (· = xb) w w' ∧ ((∃ x lo, rd k C l = some x ∧ z = .returned (.bool true) ∧ w.heap.size ≤ lo ∧ X lo w' x) ∨ (rd k C l = none ∧ z = .returned (.bool false))) := by
  subst hk
  exact read_any g xb C X R0 h l k hl w hxb hR0
theorem Same.of_off {S : Nat → Prop} {w w' : World} (h : Off S w w') (hs : ∀ k, k < w.heap.size → ¬ S k) : Same w w' := ⟨h.os, h.tape, h.output, h.size, fun k hk => h.block k hk (hs k hk)⟩
set_option maxHeartbeats 800000 in
theorem readLetter_any (l : Bs) (hl : l.length ≤ 1000000000) (w : World) :
    Calls Try.prog 16 #[.string (ofL l)] w fun z w' =>
      Same w w' ∧ ((∃ x x0 x1 x2 x3 x4 x5 a1 n1 c1 a2 n2 c2, rd 1 letterC l = some x ∧ x.1 = [x0, x1, x2, x3, x4, x5] ∧ z = .returned (.tuple #[.agg #[.int .u64 x0, .int .u64 x1, .int .u64 x2, .int .u64 x3, .int .u64 x4, .int .u64 x5, .slice a1 n1 c1, .slice a2 n2 c2], .bool true]) ∧ OwnI w' w.heap.size (.slice a1 n1 c1) x.2.1 ∧ OwnI w' w.heap.size (.slice a2 n2 c2) x.2.2) ∨
        (rd 1 letterC l = none ∧ z = .returned (.tuple #[.agg #[.int .u64 0, .int .u64 0, .int .u64 0, .int .u64 0, .int .u64 0, .int .u64 0, .slice none 0 0, .slice none 0 0], .bool false]))) := by
  obtain ⟨b2, eb2⟩ : ∃ b2, w.heap.size = b2 := ⟨_, rfl⟩
  obtain ⟨w0, ew0⟩ : ∃ w0, (w.alloc (.cells #[.int .u64 0, .int .u64 0, .int .u64 0, .int .u64 0, .int .u64 0, .int .u64 0, .slice none 0 0, .slice none 0 0] 39)).alloc (.cells #[.int .u64 0, .int .u64 0, .int .u64 0, .int .u64 0, .int .u64 0, .int .u64 0, .slice none 0 0, .slice none 0 0] 39) = w0 := ⟨_, rfl⟩
  have hsz : (w.alloc (.cells #[.int .u64 0, .int .u64 0, .int .u64 0, .int .u64 0, .int .u64 0, .int .u64 0, .slice none 0 0, .slice none 0 0] 39)).heap.size = b2 + 1 := by rw [← eb2]; simp
  have hS0 : Same w w0 := by rw [← ew0]; exact ((Same.refl w).alloc _).alloc _
  have HB2 := Lib.hid (show w0.heap[b2]? = some (.cells #[.int .u64 0, .int .u64 0, .int .u64 0, .int .u64 0, .int .u64 0, .int .u64 0, .slice none 0 0, .slice none 0 0] 39 (0, 0)) by rw [← ew0, ← eb2]; exact ((Same.refl _).alloc _).keep (heap_new _ _))
  have HX0 := Lib.hid (show ZLet (b2 + 1) w0 by rw [← ew0, ← hsz]; exact heap_new _ _)
  have HS0 := Lib.hid hS0
  have HSZ := Lib.hid (show w0.heap.size = b2 + 2 by rw [← ew0]; simp; omega)
  have EW0 := Lib.hid ew0
  have EB2 := Lib.hid eb2
  have hmf : ∀ (fn : Fn) (first cap : Array Value) (w : World), (Instr.makeFunc fn first cap).run Try.prog w = .ok (.func fn first cap) w := fun _ _ _ _ => rfl
  clear hsz hS0 ew0 eb2
  go_enter Try.func16, Try.ntmps16
  go_upto_region 2 with fail
  rw [EW0.out, EB2.out]
  go_wp2_with fail
  refine (read_k _ (b2 + 1) letterC _ _ (letter1 (b2 + 1)) l 1 1 rfl hl w0 (by rw [HSZ.out]; omega) HX0.out).mono ?_
  rintro e w1 ⟨hO1, (⟨x, lo, hr, rfl, hlo, hx⟩ | ⟨hr, rfl⟩)⟩
  · obtain ⟨x0, x1, x2, x3, x4, x5, a1, n1, c1, a2, n2, c2, e1, hh, o1, o2⟩ := hx.ex
    have hb2 := hO1.keep (b := b2) (by omega) HB2.out
    have g0 : w1.cell? ⟨(b2 + 1), 0, none⟩ = some (.int .u64 x0) := by rw [cell_at hh]; rfl
    have g1 : w1.cell? ⟨(b2 + 1), 1, none⟩ = some (.int .u64 x1) := by rw [cell_at hh]; rfl
    have g2 : w1.cell? ⟨(b2 + 1), 2, none⟩ = some (.int .u64 x2) := by rw [cell_at hh]; rfl
    have g3 : w1.cell? ⟨(b2 + 1), 3, none⟩ = some (.int .u64 x3) := by rw [cell_at hh]; rfl
    have g4 : w1.cell? ⟨(b2 + 1), 4, none⟩ = some (.int .u64 x4) := by rw [cell_at hh]; rfl
    have g5 : w1.cell? ⟨(b2 + 1), 5, none⟩ = some (.int .u64 x5) := by rw [cell_at hh]; rfl
    have g6 : w1.cell? ⟨(b2 + 1), 6, none⟩ = some (.slice a1 n1 c1) := by rw [cell_at hh]; rfl
    have g7 : w1.cell? ⟨(b2 + 1), 7, none⟩ = some (.slice a2 n2 c2) := by rw [cell_at hh]; rfl
    have q0 : w1.cell? ⟨b2, 0, none⟩ = some (.int .u64 0) := by rw [cell_at hb2]; rfl
    have f0 : w1.frozen? ⟨b2, 0, none⟩ = false := free_at hb2
    have q1 : w1.cell? ⟨b2, 1, none⟩ = some (.int .u64 0) := by rw [cell_at hb2]; rfl
    have f1 : w1.frozen? ⟨b2, 1, none⟩ = false := free_at hb2
    have q2 : w1.cell? ⟨b2, 2, none⟩ = some (.int .u64 0) := by rw [cell_at hb2]; rfl
    have f2 : w1.frozen? ⟨b2, 2, none⟩ = false := free_at hb2
    have q3 : w1.cell? ⟨b2, 3, none⟩ = some (.int .u64 0) := by rw [cell_at hb2]; rfl
    have f3 : w1.frozen? ⟨b2, 3, none⟩ = false := free_at hb2
    have q4 : w1.cell? ⟨b2, 4, none⟩ = some (.int .u64 0) := by rw [cell_at hb2]; rfl
    have f4 : w1.frozen? ⟨b2, 4, none⟩ = false := free_at hb2
    have q5 : w1.cell? ⟨b2, 5, none⟩ = some (.int .u64 0) := by rw [cell_at hb2]; rfl
    have f5 : w1.frozen? ⟨b2, 5, none⟩ = false := free_at hb2
    have q6 : w1.cell? ⟨b2, 6, none⟩ = some (.slice none 0 0) := by rw [cell_at hb2]; rfl
    have f6 : w1.frozen? ⟨b2, 6, none⟩ = false := free_at hb2
    have q7 : w1.cell? ⟨b2, 7, none⟩ = some (.slice none 0 0) := by rw [cell_at hb2]; rfl
    have f7 : w1.frozen? ⟨b2, 7, none⟩ = false := free_at hb2
    obtain ⟨w2, ew2⟩ : ∃ w2, w1.setCells b2 0 [.int .u64 x0, .int .u64 x1, .int .u64 x2, .int .u64 x3, .int .u64 x4, .int .u64 x5, .slice a1 n1 c1, .slice a2 n2 c2] = w2 := ⟨_, rfl⟩
    have hp2 : w2.heap[b2]? = some (.cells #[.int .u64 x0, .int .u64 x1, .int .u64 x2, .int .u64 x3, .int .u64 x4, .int .u64 x5, .slice a1 n1 c1, .slice a2 n2 c2] 39 (0, 0)) := by
      have hq := heap_sets [.int .u64 x0, .int .u64 x1, .int .u64 x2, .int .u64 x3, .int .u64 x4, .int .u64 x5, .slice a1 n1 c1, .slice a2 n2 c2] 0 w1 _ hb2
      rw [ew2] at hq
      exact hq
    have p0 : w2.cell? ⟨b2, 0, none⟩ = some (.int .u64 x0) := by rw [cell_at hp2]; rfl
    have p1 : w2.cell? ⟨b2, 1, none⟩ = some (.int .u64 x1) := by rw [cell_at hp2]; rfl
    have p2 : w2.cell? ⟨b2, 2, none⟩ = some (.int .u64 x2) := by rw [cell_at hp2]; rfl
    have p3 : w2.cell? ⟨b2, 3, none⟩ = some (.int .u64 x3) := by rw [cell_at hp2]; rfl
    have p4 : w2.cell? ⟨b2, 4, none⟩ = some (.int .u64 x4) := by rw [cell_at hp2]; rfl
    have p5 : w2.cell? ⟨b2, 5, none⟩ = some (.int .u64 x5) := by rw [cell_at hp2]; rfl
    have p6 : w2.cell? ⟨b2, 6, none⟩ = some (.slice a1 n1 c1) := by rw [cell_at hp2]; rfl
    have p7 : w2.cell? ⟨b2, 7, none⟩ = some (.slice a2 n2 c2) := by rw [cell_at hp2]; rfl
    have hS2 : Same w w2 := by
      rw [← ew2]
      refine Same.of_off (S := fun k => k = b2 ∨ k = b2 + 1) (((Off.of_same HS0.out).trans (hO1.mono (fun k _ e => Or.inr e))).trans (Off.sets (S := fun k => k = b2 ∨ k = b2 + 1) (Or.inl rfl) _ _ _)) (fun k hk e => by have := EB2.out; omega)
    have HO1 := Lib.hid (show OwnI w2 w.heap.size (.slice a1 n1 c1) x.2.1 by
      rw [← ew2]
      exact (o1.off (S := (· = b2)) (Off.sets (S := (· = b2)) rfl _ _ _) (fun b hb e => by have := HSZ.out; omega)).down (by have := HSZ.out; have := EB2.out; omega))
    have HO2 := Lib.hid (show OwnI w2 w.heap.size (.slice a2 n2 c2) x.2.2 by
      rw [← ew2]
      exact (o2.off (S := (· = b2)) (Off.sets (S := (· = b2)) rfl _ _ _) (fun b hb e => by have := HSZ.out; omega)).down (by have := HSZ.out; have := EB2.out; omega))
    have HS2 := Lib.hid hS2
    have HRD := Lib.hid (And.intro hr e1)
    have EW2 := Lib.hid (show ((((((((w1.setCell ⟨b2, 0, none⟩ (.int .u64 x0)).setCell ⟨b2, 1, none⟩ (.int .u64 x1)).setCell ⟨b2, 2, none⟩ (.int .u64 x2)).setCell ⟨b2, 3, none⟩ (.int .u64 x3)).setCell ⟨b2, 4, none⟩ (.int .u64 x4)).setCell ⟨b2, 5, none⟩ (.int .u64 x5)).setCell ⟨b2, 6, none⟩ (.slice a1 n1 c1)).setCell ⟨b2, 7, none⟩ (.slice a2 n2 c2)) = w2 from ew2)
    clear hb2 hh o1 o2 ew2 hp2 hS2 hO1 hx hr e1
    go_wp2_with fail
    try rw [EW2.out]
    refine bodyPost_ret (by simp [results, Try.results16, go_sem, p0, p1, p2, p3, p4, p5, p6, p7]; try rfl) rfl ?_
    exact ⟨HS2.out, Or.inl ⟨x, x0, x1, x2, x3, x4, x5, a1, n1, c1, a2, n2, c2, HRD.out.1, HRD.out.2, rfl, HO1.out, HO2.out⟩⟩
  · have hb2 := hO1.keep (b := b2) (by omega) HB2.out
    have q0 : w1.cell? ⟨b2, 0, none⟩ = some (.int .u64 0) := by rw [cell_at hb2]; rfl
    have f0 : w1.frozen? ⟨b2, 0, none⟩ = false := free_at hb2
    have q1 : w1.cell? ⟨b2, 1, none⟩ = some (.int .u64 0) := by rw [cell_at hb2]; rfl
    have f1 : w1.frozen? ⟨b2, 1, none⟩ = false := free_at hb2
    have q2 : w1.cell? ⟨b2, 2, none⟩ = some (.int .u64 0) := by rw [cell_at hb2]; rfl
    have f2 : w1.frozen? ⟨b2, 2, none⟩ = false := free_at hb2
    have q3 : w1.cell? ⟨b2, 3, none⟩ = some (.int .u64 0) := by rw [cell_at hb2]; rfl
    have f3 : w1.frozen? ⟨b2, 3, none⟩ = false := free_at hb2
    have q4 : w1.cell? ⟨b2, 4, none⟩ = some (.int .u64 0) := by rw [cell_at hb2]; rfl
    have f4 : w1.frozen? ⟨b2, 4, none⟩ = false := free_at hb2
    have q5 : w1.cell? ⟨b2, 5, none⟩ = some (.int .u64 0) := by rw [cell_at hb2]; rfl
    have f5 : w1.frozen? ⟨b2, 5, none⟩ = false := free_at hb2
    have q6 : w1.cell? ⟨b2, 6, none⟩ = some (.slice none 0 0) := by rw [cell_at hb2]; rfl
    have f6 : w1.frozen? ⟨b2, 6, none⟩ = false := free_at hb2
    have q7 : w1.cell? ⟨b2, 7, none⟩ = some (.slice none 0 0) := by rw [cell_at hb2]; rfl
    have f7 : w1.frozen? ⟨b2, 7, none⟩ = false := free_at hb2
    obtain ⟨w2, ew2⟩ : ∃ w2, w1.setCells b2 0 [.int .u64 0, .int .u64 0, .int .u64 0, .int .u64 0, .int .u64 0, .int .u64 0, .slice none 0 0, .slice none 0 0] = w2 := ⟨_, rfl⟩
    have hp2 : w2.heap[b2]? = some (.cells #[.int .u64 0, .int .u64 0, .int .u64 0, .int .u64 0, .int .u64 0, .int .u64 0, .slice none 0 0, .slice none 0 0] 39 (0, 0)) := by
      have hq := heap_sets [.int .u64 0, .int .u64 0, .int .u64 0, .int .u64 0, .int .u64 0, .int .u64 0, .slice none 0 0, .slice none 0 0] 0 w1 _ hb2
      rw [ew2] at hq
      exact hq
    have p0 : w2.cell? ⟨b2, 0, none⟩ = some (.int .u64 0) := by rw [cell_at hp2]; rfl
    have p1 : w2.cell? ⟨b2, 1, none⟩ = some (.int .u64 0) := by rw [cell_at hp2]; rfl
    have p2 : w2.cell? ⟨b2, 2, none⟩ = some (.int .u64 0) := by rw [cell_at hp2]; rfl
    have p3 : w2.cell? ⟨b2, 3, none⟩ = some (.int .u64 0) := by rw [cell_at hp2]; rfl
    have p4 : w2.cell? ⟨b2, 4, none⟩ = some (.int .u64 0) := by rw [cell_at hp2]; rfl
    have p5 : w2.cell? ⟨b2, 5, none⟩ = some (.int .u64 0) := by rw [cell_at hp2]; rfl
    have p6 : w2.cell? ⟨b2, 6, none⟩ = some (.slice none 0 0) := by rw [cell_at hp2]; rfl
    have p7 : w2.cell? ⟨b2, 7, none⟩ = some (.slice none 0 0) := by rw [cell_at hp2]; rfl
    have HS2 := Lib.hid (show Same w w2 by
      rw [← ew2]
      refine Same.of_off (S := fun k => k = b2 ∨ k = b2 + 1) (((Off.of_same HS0.out).trans (hO1.mono (fun k _ e => Or.inr e))).trans (Off.sets (S := fun k => k = b2 ∨ k = b2 + 1) (Or.inl rfl) _ _ _)) (fun k hk e => by have := EB2.out; omega))
    have EW2 := Lib.hid (show ((((((((w1.setCell ⟨b2, 0, none⟩ (.int .u64 0)).setCell ⟨b2, 1, none⟩ (.int .u64 0)).setCell ⟨b2, 2, none⟩ (.int .u64 0)).setCell ⟨b2, 3, none⟩ (.int .u64 0)).setCell ⟨b2, 4, none⟩ (.int .u64 0)).setCell ⟨b2, 5, none⟩ (.int .u64 0)).setCell ⟨b2, 6, none⟩ (.slice none 0 0)).setCell ⟨b2, 7, none⟩ (.slice none 0 0)) = w2 from ew2)
    clear hb2 ew2 hp2 hO1
    go_wp2_with fail
    try rw [EW2.out]
    refine bodyPost_ret (by simp [results, Try.results16, go_sem, p0, p1, p2, p3, p4, p5, p6, p7]; try rfl) rfl ?_
    exact ⟨HS2.out, Or.inr ⟨hr, rfl⟩⟩
end Go.Proofs.Ytdbhcdhenapfoaa
