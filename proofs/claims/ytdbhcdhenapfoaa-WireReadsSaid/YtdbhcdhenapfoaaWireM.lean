/- Layer 10: what is mixed is read. -/
import Derived.Test.YtdbhcdhenapfoaaWireV
import Derived.Deep.RegionHeld3
set_option linter.unusedVariables false
set_option linter.unusedSimpArgs false
namespace Go.Proofs.Ytdbhcdhenapfoaa
open Go.RowKit Go.Maps
theorem pairC_none1 {α β : Type} {A : Cod α} {B : Cod β} {l : Bs} (h : A.par l = none) : (pairC A B).par l = none := by show (A.par l).bind _ = none; rw [h]; rfl
theorem pairC_none2 {α β : Type} {A : Cod α} {B : Cod β} {l r : Bs} {x : α} (h : A.par l = some (x, r)) (k : B.par r = none) : (pairC A B).par l = none := by show (A.par l).bind _ = none; rw [h]; show (B.par r).bind _ = none; rw [k]; rfl
theorem pairC_some {α β : Type} {A : Cod α} {B : Cod β} {l r s : Bs} {x : α} {y : β} (h : A.par l = some (x, r)) (k : B.par r = some (y, s)) : (pairC A B).par l = some ((x, y), s) := by show (A.par l).bind _ = _; rw [h]; show (B.par r).bind _ = _; rw [k]; rfl
theorem listC_none0 {α : Type} {A : Cod α} {m : Nat} {l : Bs} (h : parC m l = none) : (listC m A).par l = none := by show (parC m l).bind _ = none; rw [h]; rfl
theorem listC_go {α : Type} {A : Cod α} {m n : Nat} {l r : Bs} (h : parC m l = some (n, r)) : (listC m A).par l = many A n r := by show (parC m l).bind _ = _; rw [h]; rfl
theorem grown_keep {w w' : World} {row : Option Nat} {b : Nat} {ob : Obj} (hg : w.grownBy w' row) (h : w.heap[b]? = some ob) (hr : ∀ k, row = some k → k ≠ b) : w'.heap[b]? = some ob := by
  rw [hg.block b (Array.getElem?_eq_some_iff.1 h).1 (fun e => hr b e.symm rfl)]; exact h
section
variable {P : Program} {o : Oper} {a : Act} {w : World} {K : Act → World → Prop} {Q : Exit → Act → World → Prop}
theorem wp_append_run (s x : Operand) (t : TypeId) (ho : o.op = .call { callee := .builtin .append, args := #[s, x], argTypes := #[t, t] }) (v : Value) (hs : a.eval s = v) (u : Value) (hx : a.eval x = u) {v' : Value} {w' : World}
    (hr : (Builtin.append_ #[t, t] o.type #[v, u]).run P w = .ok v' w') (h : K (a.put o.dst v') w') : o.wp P a w K Q := by
  unfold Oper.wp execOp
  simp only [ho, resolve, invoke, builtin, Sem.run_bind, Sem.run_pure, Result.andThen_ok, List.map_toArray, List.map_cons, List.map_nil, hs, hx, hr]
  exact h
end
theorem wpList_append_run {P : Program} {w : World} {ops : Array Oper} {rest : List Oper} {o : Oper} {a : Go.Act} {Q : Exit → Go.Act → World → Prop} (hgd : o.guard = none) (s x : Operand) (t : TypeId) (ho : o.op = .call { callee := .builtin .append, args := #[s, x], argTypes := #[t, t] }) (v : Value) (hs : a.eval s = v) (u : Value) (hx : a.eval x = u) {v' : Value} {w' : World}
    (hr : (Builtin.append_ #[t, t] o.type #[v, u]).run P w = .ok v' w') (h : wpList P ops Q rest (a.put o.dst v') w') : wpList P ops Q (o :: rest) a w :=
  wpList_plain hgd fun _ hK => wp_append_run s x t ho v hs u hx hr (hK _ _ h)
theorem ownsRow_off2 {S : Nat → Prop} {w w' : World} {base size n : Nat} {e : TypeId} {v : Value} {xs : List Value} (h : w.ownsRow base e size v n xs) (k : Off S w w') (hS : ∀ b, base ≤ b → b < w.heap.size → ¬ S b) : w'.ownsRow base e size v n xs := by
  obtain ⟨hl, h1 | ⟨g, cap, cur, hv, hbs, hh, r⟩⟩ := h
  · exact ⟨hl, .inl h1⟩
  · exact ⟨hl, .inr ⟨g, cap, cur, hv, hbs, k.keep (hS g hbs (Array.getElem?_eq_some_iff.1 hh).1) hh, r⟩⟩
theorem OwnI.off2 {S : Nat → Prop} {w w' : World} {base : Nat} {v : Value} {xs : List Int} (h : OwnI w base v xs) (k : Off S w w') (hS : ∀ b, base ≤ b → b < w.heap.size → ¬ S b) : OwnI w' base v xs := by
  refine ⟨?_, h.u, h.small⟩
  obtain ⟨hl, h1 | ⟨g, cap, cur, hv, hbs, hh, hn, hm, hsz, ht⟩⟩ := h.own
  · exact ⟨hl, .inl h1⟩
  · exact ⟨hl, .inr ⟨g, cap, cur, hv, hbs, k.keep (hS g hbs (Array.getElem?_eq_some_iff.1 hh).1) hh, hn, hm, hsz, ht⟩⟩
theorem OwnL.off2 {S : Nat → Prop} {w w' : World} {lo : Nat} {v : Value} {ls : List LetterD} (h : OwnL w lo v ls) (k : Off S w w') (hS : ∀ b, lo ≤ b → b < w.heap.size → ¬ S b) : OwnL w' lo v ls := by
  obtain ⟨vs, h1, h2⟩ := h.ex
  exact ⟨vs, ownsRow_off2 h1 k hS, h2.map (fun v xs o => o.off2 k hS)⟩
theorem OwnB.off2 {S : Nat → Prop} {w w' : World} {lo : Nat} {v : Value} {bs : List (List Int)} (h : OwnB w lo v bs) (k : Off S w w') (hS : ∀ b, lo ≤ b → b < w.heap.size → ¬ S b) : OwnB w' lo v bs := ⟨ownsRow_off2 h.row k hS, h.six⟩
theorem OwnL.form {w : World} {lo : Nat} {v : Value} {ls : List LetterD} (h : OwnL w lo v ls) : ∃ a n c, v = .slice a n c := by
  obtain ⟨vs, h1, _⟩ := h.ex
  obtain ⟨a, c, e⟩ := ownsRow_form h1
  exact ⟨a, _, c, e⟩
theorem OwnB.form {w : World} {lo : Nat} {v : Value} {ls : List (List Int)} (h : OwnB w lo v ls) : ∃ a n c, v = .slice a n c := by
  obtain ⟨a, c, e⟩ := ownsRow_form h.row
  exact ⟨a, _, c, e⟩
theorem OwnL.grow {w w' : World} {lo : Nat} {v : Value} {ls : List LetterD} {row : Option Nat} (h : OwnL w lo v ls) (hg : w.grownBy w' row) (hr : ∀ k, row = some k → ∃ cur t f, w.heap[k]? = some (.cells cur t f) ∧ t ≠ 33 ∧ t ≠ 39) : OwnL w' lo v ls := by
  obtain ⟨vs, h1, h2⟩ := h.ex
  refine ⟨vs, ?_, h2.map (fun v xs o => o.grow hg (fun k hk => by obtain ⟨cur, t, f, e, n1, _⟩ := hr k hk; exact ⟨cur, t, f, e, n1⟩))⟩
  obtain ⟨hl, h1 | ⟨g, cap, cur', hv, hbs, hh, r⟩⟩ := h1
  · exact ⟨hl, .inl h1⟩
  · refine ⟨hl, .inr ⟨g, cap, cur', hv, hbs, ?_, r⟩⟩
    rw [hg.block g (Array.getElem?_eq_some_iff.1 hh).1 (fun e => by
      obtain ⟨cur, t, f, h2, _, ht⟩ := hr g e.symm
      rw [hh] at h2; injection h2 with e; injection e with _ e _; exact ht e.symm)]
    exact hh
theorem OwnL.down {w : World} {lo lo' : Nat} {v : Value} {ls : List LetterD} (h : OwnL w lo v ls) (hb : lo' ≤ lo) : OwnL w lo' v ls := by
  obtain ⟨vs, ⟨hl, h1⟩, h2⟩ := h.ex
  refine ⟨vs, ⟨hl, ?_⟩, h2.map (fun v xs o => o.down hb)⟩
  rcases h1 with h1 | ⟨g, cap, cur, hv, hbs, r⟩
  · exact .inl h1
  · exact .inr ⟨g, cap, cur, hv, by omega, r⟩
theorem OwnB.down {w : World} {lo lo' : Nat} {v : Value} {bs : List (List Int)} (h : OwnB w lo v bs) (hb : lo' ≤ lo) : OwnB w lo' v bs := by
  obtain ⟨hl, h1⟩ := h.row
  refine ⟨⟨hl, ?_⟩, h.six⟩
  rcases h1 with h1 | ⟨g, cap, cur, hv, hbs, r⟩
  · exact .inl h1
  · exact .inr ⟨g, cap, cur, hv, by omega, r⟩
abbrev MxAt (w : World) (b : Nat) (v0 v1 v2 v3 v4 v5 v6 : Value) : Prop := w.heap[b]? = some (.cells #[v0, v1, v2, v3, v4, v5, v6] 30 (0, 0))
/-- what what is mixed owns -/
structure MixO (w : World) (lo : Nat) (v0 v1 v2 v3 v4 v5 v6 : Value) (ls : List LetterD) (bs : List (List Int)) (xa xo xp pc pa : List Int) : Prop where
  o0 : OwnL w lo v0 ls
  o1 : OwnB w lo v1 bs
  o2 : OwnI w lo v2 xa
  o3 : OwnI w lo v3 xo
  o4 : OwnI w lo v4 xp
  o5 : OwnI w lo v5 pc
  o6 : OwnI w lo v6 pa
section
variable {w w' : World} {lo : Nat} {v0 v1 v2 v3 v4 v5 v6 : Value} {ls : List LetterD} {bs : List (List Int)} {xa xo xp pc pa : List Int}
theorem MixO.nil (w : World) (lo : Nat) : MixO w lo (.slice none 0 0) (.slice none 0 0) (.slice none 0 0) (.slice none 0 0) (.slice none 0 0) (.slice none 0 0) (.slice none 0 0) [] [] [] [] [] [] [] := ⟨OwnL.nil _ _, OwnB.nil _ _, OwnI.nil _ _, OwnI.nil _ _, OwnI.nil _ _, OwnI.nil _ _, OwnI.nil _ _⟩
theorem MixO.off2 {S : Nat → Prop} (h : MixO w lo v0 v1 v2 v3 v4 v5 v6 ls bs xa xo xp pc pa) (k : Off S w w') (hS : ∀ b, lo ≤ b → b < w.heap.size → ¬ S b) : MixO w' lo v0 v1 v2 v3 v4 v5 v6 ls bs xa xo xp pc pa :=
  ⟨h.o0.off2 k hS, h.o1.off2 k hS, h.o2.off2 k hS, h.o3.off2 k hS, h.o4.off2 k hS, h.o5.off2 k hS, h.o6.off2 k hS⟩
theorem MixO.put {b o : Nat} {u : Value} {cur : Array Value} {f : Nat × Nat} (h : MixO w lo v0 v1 v2 v3 v4 v5 v6 ls bs xa xo xp pc pa) (hb : w.heap[b]? = some (.cells cur 30 f)) : MixO (w.setCell ⟨b, o, none⟩ u) lo v0 v1 v2 v3 v4 v5 v6 ls bs xa xo xp pc pa :=
  ⟨h.o0.put hb (by decide) (by decide), h.o1.put hb (by decide), h.o2.put hb (by decide), h.o3.put hb (by decide), h.o4.put hb (by decide), h.o5.put hb (by decide), h.o6.put hb (by decide)⟩
theorem MixO.down {lo' : Nat} (h : MixO w lo v0 v1 v2 v3 v4 v5 v6 ls bs xa xo xp pc pa) (hb : lo' ≤ lo) : MixO w lo' v0 v1 v2 v3 v4 v5 v6 ls bs xa xo xp pc pa :=
  ⟨h.o0.down hb, h.o1.down hb, h.o2.down hb, h.o3.down hb, h.o4.down hb, h.o5.down hb, h.o6.down hb⟩
end
/-- what is mixed, in block b -/
structure MixB (b lo : Nat) (w : World) (x : MixD) : Prop where
  ex : ∃ a0 n0 c0 a1 n1 c1 a2 n2 c2 a3 n3 c3 a4 n4 c4 a5 n5 c5 a6 n6 c6, MxAt w b (.slice a0 n0 c0) (.slice a1 n1 c1) (.slice a2 n2 c2) (.slice a3 n3 c3) (.slice a4 n4 c4) (.slice a5 n5 c5) (.slice a6 n6 c6) ∧ MixO w lo (.slice a0 n0 c0) (.slice a1 n1 c1) (.slice a2 n2 c2) (.slice a3 n3 c3) (.slice a4 n4 c4) (.slice a5 n5 c5) (.slice a6 n6 c6) x.1 x.2.1 x.2.2.1 x.2.2.2.1 x.2.2.2.2.1 x.2.2.2.2.2.1 x.2.2.2.2.2.2
theorem MixB.off {S : Nat → Prop} {b lo : Nat} {w w' : World} {x : MixD} (h : MixB b lo w x) (k : Off S w w') (h1 : ¬ S b) (h2 : ∀ i, lo ≤ i → ¬ S i) : MixB b lo w' x := by
  obtain ⟨a0, n0, c0, a1, n1, c1, a2, n2, c2, a3, n3, c3, a4, n4, c4, a5, n5, c5, a6, n6, c6, hh, ho⟩ := h.ex
  exact ⟨⟨a0, n0, c0, a1, n1, c1, a2, n2, c2, a3, n3, c3, a4, n4, c4, a5, n5, c5, a6, n6, c6, k.keep h1 hh, ho.off2 k (fun i hi _ => h2 i hi)⟩⟩
abbrev ZMix (b : Nat) (w : World) : Prop := MxAt w b (.slice none 0 0) (.slice none 0 0) (.slice none 0 0) (.slice none 0 0) (.slice none 0 0) (.slice none 0 0) (.slice none 0 0)
set_option maxHeartbeats 3200000 in
theorem mixing1 (xb : Nat) : Does 38 xb mixC (MixB xb) (ZMix xb) where
  enter := fun args w => by kernel_rfl
  stay := fun S lo w w' x h k h1 h2 => h.off k h1 h2
  stay0 := fun S w w' h k h1 => k.keep h1 h
  run := fun rb l w hl hne hxb hR hZ => by
    have hrl := (Array.getElem?_eq_some_iff.1 hR).1
    have HRB := Lib.hid (And.intro hrl (And.intro hxb hne))
    have HR := Lib.hid hR
    have HZ := Lib.hid hZ
    clear hR hZ hrl hxb hne
    go_enter Try.func38, Try.ntmps38
    go_wp2_with fail
    refine (count_any rb 8 l hl (by omega) w HR.out).mono ?_
    rintro e w1 ⟨hO1, (⟨n, l1, hp, rfl, hR1, hn⟩ | ⟨hp, rfl⟩)⟩
    case inr =>
      go_wp2_with fail
      exact ⟨rfl, hO1.mono (fun k _ e => Or.inl e), Or.inr ⟨pairC_none1 (listC_none0 hp), rfl⟩⟩
    have HP := Lib.hid hp
    have hl1 : l1.length ≤ 1000000000 := Nat.le_trans ((cntC 8).rest hp) hl
    have HO1 := Lib.hid (hO1.mono (T := (fun k => k = rb ∨ k = xb)) (fun k _ e => Or.inl e))
    have HR1 := Lib.hid hR1
    have HZ1 := Lib.hid (hO1.keep (b := xb) (fun e => HRB.out.2.2 e.symm) HZ.out)
    have hn0 : (0 : Int) ≤ n := by omega
    clear hp hO1 hR1
    go_wp2_with fail
    go_loopw [6] (fun s6 wr => ∃ i : Nat, s6 = .int .i64 i ∧ i ≤ n ∧ Hid (∃ ls r v, many letterC i l1 = some (ls, r) ∧ MixO wr w.heap.size v (.slice none 0 0) (.slice none 0 0) (.slice none 0 0) (.slice none 0 0) (.slice none 0 0) (.slice none 0 0) ls [] [] [] [] [] [] ∧ RdrAt wr rb r ∧ MxAt wr xb v (.slice none 0 0) (.slice none 0 0) (.slice none 0 0) (.slice none 0 0) (.slice none 0 0) (.slice none 0 0)) ∧ Hid (Off (fun k => k = rb ∨ k = xb) w wr)) (fun s6 _ => n - (intOf s6).toNat)
    case atStart => exact ⟨0, rfl, by omega, Lib.hid ⟨[], l1, _, rfl, MixO.nil _ _, HR1.out, HZ1.out⟩, HO1⟩
    case round =>
      obtain ⟨i, rfl, hi', hI, hD⟩ := hrel
      obtain ⟨ls, r, v, hm, hown, hR, hM⟩ := hI.out
      obtain ⟨va, vn, vc, rfl⟩ := hown.o0.form
      have HM := Lib.hid hm
      have HOW := Lib.hid hown
      have HRR := Lib.hid hR
      have HMX := Lib.hid hM
      have hrl : r.length ≤ 1000000000 := Nat.le_trans (many_rest _ hm) hl1
      have HLX := Lib.hid (many_len _ _ _ _ _ hm)
      clear hI hm hown hR hM
      by_cases hlt : i < n
      · have hi0 : (0 : Int) ≤ i := by omega
        have hi1 : (i : Int) < n := by omega
        go_wp2_with fail
        refine (rbox_any rb r hrl _ HRR.out).mono ?_
        rintro e w3 ⟨hO3, (⟨xs, r2, hpx, rfl, hR3⟩ | ⟨hpx, rfl⟩)⟩
        case inr =>
          have hN := many_stop letterC HM.out (pairC_none1 hpx) n hlt
          go_wp2_with fail
          exact ⟨rfl, hD.out.trans (hO3.mono (fun k _ e => Or.inl e)), Or.inr ⟨pairC_none1 ((listC_go HP.out).trans hN), rfl⟩⟩
        have hrl2 : r2.length ≤ 1000000000 := Nat.le_trans (Cod.rest _ hpx) hrl
        obtain ⟨x0, x1, x2, x3, x4, x5, rfl⟩ := six (boxC.only _ _ _ hpx).1.1
        obtain ⟨w4, ew4⟩ : ∃ w4, w3.alloc (.cells #[.int .u64 x0, .int .u64 x1, .int .u64 x2, .int .u64 x3, .int .u64 x4, .int .u64 x5, .slice none 0 0, .slice none 0 0] 39) = w4 := ⟨_, rfl⟩
        obtain ⟨b3, eb3⟩ : ∃ b3, w3.heap.size = b3 := ⟨_, rfl⟩
        have hS4 : Same w3 w4 := by rw [← ew4]; exact (Same.refl w3).alloc _
        have hD3 := hD.out.trans (hO3.mono (T := (fun k => k = rb ∨ k = xb)) (fun k _ e => Or.inl e))
        have HLT := Lib.hid (show w.heap.size ≤ b3 by rw [← eb3]; exact hD3.size)
        have HB4 := Lib.hid (show w4.heap[b3]? = some (.cells #[.int .u64 x0, .int .u64 x1, .int .u64 x2, .int .u64 x3, .int .u64 x4, .int .u64 x5, .slice none 0 0, .slice none 0 0] 39 (0, 0)) by rw [← ew4, ← eb3]; exact heap_new _ _)
        have HR4 := Lib.hid (hS4.keep hR3)
        have HM4 := Lib.hid (hS4.keep (hO3.keep (b := xb) (fun e => HRB.out.2.2 e.symm) HMX.out))
        have HOW3 := Lib.hid (HOW.out.off2 hO3 (fun b hb _ e => by have := HRB.out.1; omega))
        have HS4 := Lib.hid hS4
        have HD3 := Lib.hid hD3
        have HPX := Lib.hid hpx
        have EW4 := Lib.hid ew4
        have EB3 := Lib.hid eb3
        rw [show boxV [x0, x1, x2, x3, x4, x5] = .agg #[.int .u64 x0, .int .u64 x1, .int .u64 x2, .int .u64 x3, .int .u64 x4, .int .u64 x5] from rfl]
        clear hS4 hD3 hpx ew4 eb3 hO3 hR3
        go_upto_region 3 with fail
        rw [EW4.out, EB3.out]
        go_wp2_with fail
        refine (rproof_any rb r2 hrl2 w4 HR4.out).mono ?_
        rintro e w5 ⟨hO5, (⟨p, r3, a1, n1, c1, a2, n2, c2, hp2, rfl, hR5, ho1, ho2⟩ | ⟨hp2, rfl⟩)⟩
        case inr =>
          have hN := many_stop letterC HM.out (pairC_none2 HPX.out hp2) n hlt
          go_wp2_with fail
          exact ⟨rfl, (HD3.out.trans (Off.of_same HS4.out)).trans (hO5.mono (fun k _ e => Or.inl e)), Or.inr ⟨pairC_none1 ((listC_go HP.out).trans hN), rfl⟩⟩
        have hb5 := hO5.keep (b := b3) (by have := HRB.out.1; have := HLT.out; omega) HB4.out
        have g6 : w5.cell? ⟨b3, 6, none⟩ = some (.slice none 0 0) := by rw [cell_at hb5]; rfl
        have f6 : w5.frozen? ⟨b3, 6, none⟩ = false := free_at hb5
        have g7 : w5.cell? ⟨b3, 7, none⟩ = some (.slice none 0 0) := by rw [cell_at hb5]; rfl
        have f7 : w5.frozen? ⟨b3, 7, none⟩ = false := free_at hb5
        obtain ⟨w6, ew6⟩ : ∃ w6, ((w5.setCell ⟨b3, 6, none⟩ (.slice a1 n1 c1)).setCell ⟨b3, 7, none⟩ (.slice a2 n2 c2)) = w6 := ⟨_, rfl⟩
        have hb56 := heap_set (o := 6) hb5 (.slice a1 n1 c1)
        have hO36 : Off (fun k => k = rb ∨ k = b3) w3 w6 := by
          rw [← ew6]
          exact (((Off.of_same HS4.out).trans (hO5.mono (fun k _ e => Or.inl e))).trans (Off.set (S := fun k => k = rb ∨ k = b3) _ (Or.inr rfl) _ _)).trans (Off.set (S := fun k => k = rb ∨ k = b3) _ (Or.inr rfl) _ _)
        have hlo4 : w.heap.size ≤ w4.heap.size := Nat.le_trans HD3.out.size HS4.out.size
        have HB6 := Lib.hid (show w6.heap[b3]? = some (.cells #[.int .u64 x0, .int .u64 x1, .int .u64 x2, .int .u64 x3, .int .u64 x4, .int .u64 x5, .slice a1 n1 c1, .slice a2 n2 c2] 39 (0, 0)) by rw [← ew6]; exact heap_set hb56 _)
        have HR6 := Lib.hid (show RdrAt w6 rb r3 by rw [← ew6]; exact put_far (put_far hR5 (by have := HRB.out.1; have := HLT.out; omega)) (by have := HRB.out.1; have := HLT.out; omega))
        have HM6 := Lib.hid (show MxAt w6 xb (.slice va vn vc) (.slice none 0 0) (.slice none 0 0) (.slice none 0 0) (.slice none 0 0) (.slice none 0 0) (.slice none 0 0) by rw [← ew6]; exact put_far (put_far (hO5.keep (fun e => HRB.out.2.2 e.symm) HM4.out) (by have := HRB.out.2.1; have := HLT.out; omega)) (by have := HRB.out.2.1; have := HLT.out; omega))
        have HD6 := Lib.hid (HD3.out.later hO36 (fun i hi e => e.elim Or.inl (fun e => by have := HLT.out; omega)))
        have HOW6 := Lib.hid (HOW3.out.off2 hO36 (fun b hb hb2 e => by have := HRB.out.1; have := EB3.out; rcases e with e | e <;> omega))
        have HP1 := Lib.hid (show OwnI w6 w.heap.size (.slice a1 n1 c1) p.1 by rw [← ew6]; exact ((ho1.put hb5 (by decide)).put hb56 (by decide)).down hlo4)
        have HP2 := Lib.hid (show OwnI w6 w.heap.size (.slice a2 n2 c2) p.2 by rw [← ew6]; exact ((ho2.put hb5 (by decide)).put hb56 (by decide)).down hlo4)
        have HPM := Lib.hid (many_next letterC HM.out (pairC_some HPX.out hp2))
        have EW6 := Lib.hid ew6
        clear hb5 hb56 ew6 hO36 hO5 hR5 ho1 ho2 hp2 hlo4
        go_upto_region 4 with fail
        rw [EW6.out]
        clear g6 f6 g7 f7
        have hS7 : Same w6 (w6.alloc (.cells #[.int .u64 x0, .int .u64 x1, .int .u64 x2, .int .u64 x3, .int .u64 x4, .int .u64 x5, .slice a1 n1 c1, .slice a2 n2 c2] 39)) := (Same.refl w6).alloc _
        obtain ⟨v', w8, hr8, ho8, hg8, hrow8⟩ := OwnL.push (HOW6.out.o0.off2 (Off.of_same (S := fun _ => False) hS7) (fun _ _ _ e => e)) (by rw [HLX.out]; omega) (Nat.le_trans HD6.out.size hS7.size) (x := ([x0, x1, x2, x3, x4, x5], p)) rfl (HP1.out.off2 (Off.of_same (S := fun _ => False) hS7) (fun _ _ _ e => e)) (HP2.out.off2 (Off.of_same (S := fun _ => False) hS7) (fun _ _ _ e => e)) 22 (ad := ⟨w6.heap.size, 0, none⟩) (cells_new w6 [.int .u64 x0, .int .u64 x1, .int .u64 x2, .int .u64 x3, .int .u64 x4, .int .u64 x5, .slice a1 n1 c1, .slice a2 n2 c2] 39)
        obtain ⟨va8, vn8, vc8, rfl⟩ := ho8.form
        have hM8 := grown_keep hg8 (hS7.keep HM6.out) (fun k hk => by have := (hrow8 k hk).1; have := HRB.out.2.1; omega)
        have hR8 := grown_keep hg8 (hS7.keep HR6.out) (fun k hk => by have := (hrow8 k hk).1; have := HRB.out.1; omega)
        have hD8 := (HD6.out.trans (Off.of_same hS7)).grown hg8 (fun k hk => (hrow8 k hk).1)
        have HFIN := Lib.hid (show ∃ ls r v, many letterC (i + 1) l1 = some (ls, r) ∧ MixO (w8.setCell ⟨xb, 0, none⟩ (.slice va8 vn8 vc8)) w.heap.size v (.slice none 0 0) (.slice none 0 0) (.slice none 0 0) (.slice none 0 0) (.slice none 0 0) (.slice none 0 0) ls [] [] [] [] [] [] ∧ RdrAt (w8.setCell ⟨xb, 0, none⟩ (.slice va8 vn8 vc8)) rb r ∧ MxAt (w8.setCell ⟨xb, 0, none⟩ (.slice va8 vn8 vc8)) xb v (.slice none 0 0) (.slice none 0 0) (.slice none 0 0) (.slice none 0 0) (.slice none 0 0) (.slice none 0 0) from
          ⟨_, _, _, HPM.out, MixO.put ⟨ho8, OwnB.nil _ _, OwnI.nil _ _, OwnI.nil _ _, OwnI.nil _ _, OwnI.nil _ _, OwnI.nil _ _⟩ hM8, put_far hR8 HRB.out.2.2, heap_set hM8 _⟩)
        have HD9 := Lib.hid (hD8.trans (Off.set (S := (fun k => k = rb ∨ k = xb)) _ (Or.inr rfl) 0 (.slice va8 vn8 vc8)))
        have c8 : w8.cell? ⟨xb, 0, none⟩ = some (.slice va vn vc) := by rw [cell_at hM8]; rfl
        have f8 : w8.frozen? ⟨xb, 0, none⟩ = false := free_at hM8
        have c6 : w6.cell? ⟨xb, 0, none⟩ = some (.slice va vn vc) := by rw [cell_at HM6.out]; rfl
        have g0 : w6.cell? ⟨b3, 0, none⟩ = some (.int .u64 x0) := by rw [cell_at HB6.out]; rfl
        have g1 : w6.cell? ⟨b3, 1, none⟩ = some (.int .u64 x1) := by rw [cell_at HB6.out]; rfl
        have g2 : w6.cell? ⟨b3, 2, none⟩ = some (.int .u64 x2) := by rw [cell_at HB6.out]; rfl
        have g3 : w6.cell? ⟨b3, 3, none⟩ = some (.int .u64 x3) := by rw [cell_at HB6.out]; rfl
        have g4 : w6.cell? ⟨b3, 4, none⟩ = some (.int .u64 x4) := by rw [cell_at HB6.out]; rfl
        have g5 : w6.cell? ⟨b3, 5, none⟩ = some (.int .u64 x5) := by rw [cell_at HB6.out]; rfl
        have g6 : w6.cell? ⟨b3, 6, none⟩ = some (.slice a1 n1 c1) := by rw [cell_at HB6.out]; rfl
        have g7 : w6.cell? ⟨b3, 7, none⟩ = some (.slice a2 n2 c2) := by rw [cell_at HB6.out]; rfl
        clear hM8 hR8 hD8 ho8 hg8 hrow8 hS7
        go_wp2_with (first
          | (at_builtin; refine wpList_append_run rfl _ _ _ rfl _ rfl _ rfl hr8 ?_))
        go_roundw
        case rel => exact ⟨i + 1, by go_num, by omega, HFIN, HD9⟩
        case measure => simp [intOf]; omega
      · obtain rfl : n = i := by omega
        have HL := Lib.hid (show (listC 8 letterC).par l = some (ls, r) from (listC_go HP.out).trans HM.out)
        obtain ⟨wa, rfl⟩ : ∃ wz, wz = wr := ⟨_, rfl⟩
        obtain ⟨rL, rfl⟩ : ∃ rz, rz = r := ⟨_, rfl⟩
        go_wp2_with fail
        refine (count_any rb 8 rL hrl (by omega) wa HRR.out).mono ?_
        rintro e w2 ⟨hO2, (⟨nb, l2, hp2, rfl, hR2, hn2⟩ | ⟨hp2, rfl⟩)⟩
        case inr =>
          go_wp2_with fail
          exact ⟨rfl, hD.out.trans (hO2.mono (fun k _ e => Or.inl e)), Or.inr ⟨pairC_none2 HL.out (pairC_none1 (listC_none0 hp2)), rfl⟩⟩
        have HP2 := Lib.hid hp2
        have hl2 : l2.length ≤ 1000000000 := Nat.le_trans ((cntC 8).rest hp2) hrl
        have HD2 := Lib.hid (hD.out.trans (hO2.mono (T := (fun k => k = rb ∨ k = xb)) (fun k _ e => Or.inl e)))
        have HR2 := Lib.hid hR2
        have HM2 := Lib.hid (hO2.keep (b := xb) (fun e => HRB.out.2.2 e.symm) HMX.out)
        have HO2 := Lib.hid (HOW.out.off2 hO2 (fun b hb _ e => by have := HRB.out.1; omega))
        have hm0 : (0 : Int) ≤ nb := by omega
        clear hp2 hO2 hR2 HM HRR HMX HOW HLX hD hrl
        go_wp2_with fail
        go_loopw [23] (fun s23 wr => ∃ i : Nat, s23 = .int .i64 i ∧ i ≤ nb ∧ Hid (∃ bs r v, many boxC i l2 = some (bs, r) ∧ MixO wr w.heap.size (.slice va vn vc) v (.slice none 0 0) (.slice none 0 0) (.slice none 0 0) (.slice none 0 0) (.slice none 0 0) ls bs [] [] [] [] [] ∧ RdrAt wr rb r ∧ MxAt wr xb (.slice va vn vc) v (.slice none 0 0) (.slice none 0 0) (.slice none 0 0) (.slice none 0 0) (.slice none 0 0)) ∧ Hid (Off (fun k => k = rb ∨ k = xb) w wr)) (fun s23 _ => nb - (intOf s23).toNat)
        case atStart => exact ⟨0, rfl, by omega, Lib.hid ⟨[], l2, _, rfl, HO2.out, HR2.out, HM2.out⟩, HD2⟩
        case round =>
          obtain ⟨i, rfl, hi', hI, hD⟩ := hrel
          obtain ⟨bs, r, v, hm, hown, hR, hM⟩ := hI.out
          obtain ⟨vb, vm, vd, rfl⟩ := hown.o1.form
          have HM := Lib.hid hm
          have HOW := Lib.hid hown
          have HRR := Lib.hid hR
          have HMX := Lib.hid hM
          have hrl : r.length ≤ 1000000000 := Nat.le_trans (many_rest _ hm) hl2
          have HLX := Lib.hid (many_len _ _ _ _ _ hm)
          clear hI hm hown hR hM
          by_cases hlt : i < nb
          · have hi0 : (0 : Int) ≤ i := by omega
            have hi1 : (i : Int) < nb := by omega
            obtain ⟨wd, ewd⟩ : ∃ wd, wr.drew = wd := ⟨_, rfl⟩
            have hSd : Same wr wd := by rw [← ewd]; exact drew_same _
            have HMD := Lib.hid (hSd.keep HMX.out)
            have HRD := Lib.hid (hSd.keep HRR.out)
            have HDD := Lib.hid (hD.out.trans (Off.of_same hSd))
            have HOWD := Lib.hid (HOW.out.off2 (Off.of_same (S := fun _ => False) hSd) (fun _ _ _ e => e))
            have EWD := Lib.hid ewd
            clear ewd hSd
            go_upto_region 8 with fail
            refine wp_region_held_drew (S := fun _ => True) (by kernel_rfl) trivial (fun hHeld => ?_)
            rw [EWD.out]
            refine wpAnyH_take (i := 0) (v := ?_) rfl (by kernel_rfl) (by kernel_rfl) (by kernel_rfl) (fun _ _ _ h => h) (Or.inl ⟨by rfl, ?_⟩) trivial ?_
            rotate_left
            · intro w hSw; (try dsimp only at hSw); go_simp; try with_reducible rfl
            try simp only [Act.put, List.getElem_toArray, List.getElem_cons_succ, List.getElem_cons_zero, List.setIfInBounds_toArray, List.set_cons_zero, List.set_cons_succ]
            refine wpAnyH_take (i := 2) (v := ?_) rfl (by kernel_rfl) (by kernel_rfl) (by kernel_rfl) (fun _ _ _ h => h) (Or.inl ⟨by rfl, ?_⟩) trivial ?_
            rotate_left
            · intro w hSw; (try dsimp only at hSw); go_simp; try with_reducible rfl
            try simp only [Act.put, List.getElem_toArray, List.getElem_cons_succ, List.getElem_cons_zero, List.setIfInBounds_toArray, List.set_cons_zero, List.set_cons_succ]
            refine wpAnyH_ready (rs := [1, 3]) (by kernel_rfl) (by simp) ?_
            refine AllReadyH.cons rfl (fun K hK => ?_) (AllReadyH.cons rfl (fun K hK => ?_) AllReadyH.nil)
            · have cl : wd.cell? ⟨xb, 1, none⟩ = some (.slice vb vm vd) := by rw [cell_at HMD.out]; rfl
              go_simp
              clear cl
              refine hK.out _ _ ?_ (fun hHeld => ?_)
              · exact trivial
              clear hK K
              try simp only [Act.put, List.getElem_toArray, List.getElem_cons_succ, List.getElem_cons_zero, List.setIfInBounds_toArray, List.set_cons_zero, List.set_cons_succ]
              refine wpAnyH_ready (rs := [3]) (by kernel_rfl) (by simp) ?_
              refine AllReadyH.cons rfl (fun K hK => ?_) AllReadyH.nil
              go_simp
              refine (rbox_any rb r hrl wd HRD.out).mono ?_
              rintro e w3 ⟨hO3, (⟨xs, r2, hpx, rfl, hR3⟩ | ⟨hpx, rfl⟩)⟩
              case inr =>
                have hN := many_stop boxC HM.out hpx nb hlt
                have HFN := Lib.hid (show Off (fun k => k = rb ∨ k = xb) w w3 ∧ mixC.par l = none from ⟨HDD.out.trans (hO3.mono (fun k _ e => Or.inl e)), pairC_none2 HL.out (pairC_none1 ((listC_go HP2.out).trans hN))⟩)
                clear hN hO3 hpx
                go_wp2_with fail
                exact ⟨rfl, HFN.out.1, Or.inr ⟨HFN.out.2, rfl⟩⟩
              have HB6 := Lib.hid (boxC.only _ _ _ hpx).1.1
              have HPM := Lib.hid (many_next boxC HM.out hpx)
              have HR3 := Lib.hid hR3
              have HM3 := Lib.hid (hO3.keep (b := xb) (fun e => HRB.out.2.2 e.symm) HMD.out)
              have HD3 := Lib.hid (HDD.out.trans (hO3.mono (T := (fun k => k = rb ∨ k = xb)) (fun k _ e => Or.inl e)))
              have HOW3 := Lib.hid (HOWD.out.off2 hO3 (fun b hb _ e => by have := HRB.out.1; omega))
              obtain ⟨x0, x1, x2, x3, x4, x5, rfl⟩ := six HB6.out
              rw [show boxV [x0, x1, x2, x3, x4, x5] = .agg #[.int .u64 x0, .int .u64 x1, .int .u64 x2, .int .u64 x3, .int .u64 x4, .int .u64 x5] from rfl]
              clear hpx hR3 hO3
              go_wp2_with fail
              refine hK.out _ _ ?_ (fun hHeld => ?_)
              · exact trivial
              clear hK K
              try simp only [Act.put, List.getElem_toArray, List.getElem_cons_succ, List.getElem_cons_zero, List.setIfInBounds_toArray, List.set_cons_zero, List.set_cons_succ]
              refine wpAnyH_ready (rs := [4]) (by kernel_rfl) (by simp) ?_
              refine AllReadyH.cons rfl (fun K hK => ?_) AllReadyH.nil
              go_simp
              refine hK.out _ _ ?_ (fun hHeld => ?_)
              · exact trivial
              clear hK K
              try simp only [Act.put, List.getElem_toArray, List.getElem_cons_succ, List.getElem_cons_zero, List.setIfInBounds_toArray, List.set_cons_zero, List.set_cons_succ]
              refine wpAnyH_ready (rs := [5]) (by kernel_rfl) (by simp) ?_
              refine AllReadyH.cons rfl (fun K hK => ?_) AllReadyH.nil
              have hS7 : Same w3 (w3.alloc (.cells #[.int .u64 x0, .int .u64 x1, .int .u64 x2, .int .u64 x3, .int .u64 x4, .int .u64 x5] 37)) := (Same.refl w3).alloc _
              have HO7 := Lib.hid (HOW3.out.off2 (Off.of_same (S := fun _ => False) hS7) (fun _ _ _ e => e))
              obtain ⟨v', w8, hr8, ho8, hg8, hrow8⟩ := OwnB.push HO7.out.o1 (by rw [HLX.out]; omega) (Nat.le_trans HD3.out.size hS7.size) (b := [x0, x1, x2, x3, x4, x5]) rfl 23 (ad := ⟨w3.heap.size, 0, none⟩) (cells_new w3 [.int .u64 x0, .int .u64 x1, .int .u64 x2, .int .u64 x3, .int .u64 x4, .int .u64 x5] 37)
              obtain ⟨va8, vn8, vc8, rfl⟩ := ho8.form
              have hM8 := grown_keep hg8 (hS7.keep HM3.out) (fun k hk => by have := (hrow8 k hk).1; have := HRB.out.2.1; omega)
              have hR8 := grown_keep hg8 (hS7.keep HR3.out) (fun k hk => by have := (hrow8 k hk).1; have := HRB.out.1; omega)
              have hD8 := (HD3.out.trans (Off.of_same hS7)).grown hg8 (fun k hk => (hrow8 k hk).1)
              have hL8 := HO7.out.o0.grow hg8 (fun k hk => by obtain ⟨cur, e⟩ := (hrow8 k hk).2; exact ⟨cur, _, _, e, by decide, by decide⟩)
              have HFIN := Lib.hid (show ∃ bs r v, many boxC (i + 1) l2 = some (bs, r) ∧ MixO (w8.setCell ⟨xb, 1, none⟩ (.slice va8 vn8 vc8)) w.heap.size (.slice va vn vc) v (.slice none 0 0) (.slice none 0 0) (.slice none 0 0) (.slice none 0 0) (.slice none 0 0) ls bs [] [] [] [] [] ∧ RdrAt (w8.setCell ⟨xb, 1, none⟩ (.slice va8 vn8 vc8)) rb r ∧ MxAt (w8.setCell ⟨xb, 1, none⟩ (.slice va8 vn8 vc8)) xb (.slice va vn vc) v (.slice none 0 0) (.slice none 0 0) (.slice none 0 0) (.slice none 0 0) (.slice none 0 0) from
                ⟨_, _, _, HPM.out, MixO.put ⟨hL8, ho8, OwnI.nil _ _, OwnI.nil _ _, OwnI.nil _ _, OwnI.nil _ _, OwnI.nil _ _⟩ hM8, put_far hR8 HRB.out.2.2, heap_set hM8 _⟩)
              have HD9 := Lib.hid (hD8.trans (Off.set (S := (fun k => k = rb ∨ k = xb)) _ (Or.inr rfl) 1 (.slice va8 vn8 vc8)))
              have HM8 := Lib.hid hM8
              clear hM8 hR8 hD8 hL8 ho8 hg8 hrow8 hS7
              rw [if_pos (by rfl)]
              refine wp_append_run _ _ _ rfl _ rfl _ rfl hr8 ?_
              refine hK.out _ _ ?_ (fun hHeld => ?_)
              · exact trivial
              clear hK K
              try simp only [Act.put, List.getElem_toArray, List.getElem_cons_succ, List.getElem_cons_zero, List.setIfInBounds_toArray, List.set_cons_zero, List.set_cons_succ]
              clear hr8
              refine wpAnyH_take (i := 6) (v := ?_) rfl (by kernel_rfl) (by kernel_rfl) (by kernel_rfl) (fun _ _ _ h => h) (Or.inl ⟨by rfl, ?_⟩) trivial ?_
              rotate_left
              · intro w hSw; (try dsimp only at hSw); go_simp; try with_reducible rfl
              try simp only [Act.put, List.getElem_toArray, List.getElem_cons_succ, List.getElem_cons_zero, List.setIfInBounds_toArray, List.set_cons_zero, List.set_cons_succ]
              refine wpAnyH_ready (rs := [7]) (by kernel_rfl) (by simp) ?_
              refine AllReadyH.cons rfl (fun K hK => ?_) AllReadyH.nil
              have c8 : w8.cell? ⟨xb, 1, none⟩ = some (.slice vb vm vd) := by rw [cell_at HM8.out]; rfl
              have f8 : w8.frozen? ⟨xb, 1, none⟩ = false := free_at HM8.out
              go_simp
              clear c8 f8
              refine hK.out _ _ ?_ (fun hHeld => ?_)
              · exact trivial
              clear hK K
              try simp only [Act.put, List.getElem_toArray, List.getElem_cons_succ, List.getElem_cons_zero, List.setIfInBounds_toArray, List.set_cons_zero, List.set_cons_succ]
              refine wpAnyH_done (by kernel_rfl) ?_ _
              clear hHeld
              go_wp2_with fail
              go_roundw
              case rel => exact ⟨i + 1, by go_num, by omega, HFIN, HD9⟩
              case measure => simp [intOf]; omega
            · go_simp
              refine (rbox_any rb r hrl wd HRD.out).mono ?_
              rintro e w3 ⟨hO3, (⟨xs, r2, hpx, rfl, hR3⟩ | ⟨hpx, rfl⟩)⟩
              case inr =>
                have hN := many_stop boxC HM.out hpx nb hlt
                have HFN := Lib.hid (show Off (fun k => k = rb ∨ k = xb) w w3 ∧ mixC.par l = none from ⟨HDD.out.trans (hO3.mono (fun k _ e => Or.inl e)), pairC_none2 HL.out (pairC_none1 ((listC_go HP2.out).trans hN))⟩)
                clear hN hO3 hpx
                go_wp2_with fail
                exact ⟨rfl, HFN.out.1, Or.inr ⟨HFN.out.2, rfl⟩⟩
              have HB6 := Lib.hid (boxC.only _ _ _ hpx).1.1
              have HPM := Lib.hid (many_next boxC HM.out hpx)
              have HR3 := Lib.hid hR3
              have HM3 := Lib.hid (hO3.keep (b := xb) (fun e => HRB.out.2.2 e.symm) HMD.out)
              have HD3 := Lib.hid (HDD.out.trans (hO3.mono (T := (fun k => k = rb ∨ k = xb)) (fun k _ e => Or.inl e)))
              have HOW3 := Lib.hid (HOWD.out.off2 hO3 (fun b hb _ e => by have := HRB.out.1; omega))
              obtain ⟨x0, x1, x2, x3, x4, x5, rfl⟩ := six HB6.out
              rw [show boxV [x0, x1, x2, x3, x4, x5] = .agg #[.int .u64 x0, .int .u64 x1, .int .u64 x2, .int .u64 x3, .int .u64 x4, .int .u64 x5] from rfl]
              clear hpx hR3 hO3
              go_wp2_with fail
              refine hK.out _ _ ?_ (fun hHeld => ?_)
              · exact trivial
              clear hK K
              try simp only [Act.put, List.getElem_toArray, List.getElem_cons_succ, List.getElem_cons_zero, List.setIfInBounds_toArray, List.set_cons_zero, List.set_cons_succ]
              refine wpAnyH_ready (rs := [1, 4]) (by kernel_rfl) (by simp) ?_
              refine AllReadyH.cons rfl (fun K hK => ?_) (AllReadyH.cons rfl (fun K hK => ?_) AllReadyH.nil)
              · have cl : w3.cell? ⟨xb, 1, none⟩ = some (.slice vb vm vd) := by rw [cell_at HM3.out]; rfl
                go_simp
                clear cl
                refine hK.out _ _ ?_ (fun hHeld => ?_)
                · exact trivial
                clear hK K
                try simp only [Act.put, List.getElem_toArray, List.getElem_cons_succ, List.getElem_cons_zero, List.setIfInBounds_toArray, List.set_cons_zero, List.set_cons_succ]
                refine wpAnyH_ready (rs := [4]) (by kernel_rfl) (by simp) ?_
                refine AllReadyH.cons rfl (fun K hK => ?_) AllReadyH.nil
                go_simp
                refine hK.out _ _ ?_ (fun hHeld => ?_)
                · exact trivial
                clear hK K
                try simp only [Act.put, List.getElem_toArray, List.getElem_cons_succ, List.getElem_cons_zero, List.setIfInBounds_toArray, List.set_cons_zero, List.set_cons_succ]
                refine wpAnyH_ready (rs := [5]) (by kernel_rfl) (by simp) ?_
                refine AllReadyH.cons rfl (fun K hK => ?_) AllReadyH.nil
                have hS7 : Same w3 (w3.alloc (.cells #[.int .u64 x0, .int .u64 x1, .int .u64 x2, .int .u64 x3, .int .u64 x4, .int .u64 x5] 37)) := (Same.refl w3).alloc _
                have HO7 := Lib.hid (HOW3.out.off2 (Off.of_same (S := fun _ => False) hS7) (fun _ _ _ e => e))
                obtain ⟨v', w8, hr8, ho8, hg8, hrow8⟩ := OwnB.push HO7.out.o1 (by rw [HLX.out]; omega) (Nat.le_trans HD3.out.size hS7.size) (b := [x0, x1, x2, x3, x4, x5]) rfl 23 (ad := ⟨w3.heap.size, 0, none⟩) (cells_new w3 [.int .u64 x0, .int .u64 x1, .int .u64 x2, .int .u64 x3, .int .u64 x4, .int .u64 x5] 37)
                obtain ⟨va8, vn8, vc8, rfl⟩ := ho8.form
                have hM8 := grown_keep hg8 (hS7.keep HM3.out) (fun k hk => by have := (hrow8 k hk).1; have := HRB.out.2.1; omega)
                have hR8 := grown_keep hg8 (hS7.keep HR3.out) (fun k hk => by have := (hrow8 k hk).1; have := HRB.out.1; omega)
                have hD8 := (HD3.out.trans (Off.of_same hS7)).grown hg8 (fun k hk => (hrow8 k hk).1)
                have hL8 := HO7.out.o0.grow hg8 (fun k hk => by obtain ⟨cur, e⟩ := (hrow8 k hk).2; exact ⟨cur, _, _, e, by decide, by decide⟩)
                have HFIN := Lib.hid (show ∃ bs r v, many boxC (i + 1) l2 = some (bs, r) ∧ MixO (w8.setCell ⟨xb, 1, none⟩ (.slice va8 vn8 vc8)) w.heap.size (.slice va vn vc) v (.slice none 0 0) (.slice none 0 0) (.slice none 0 0) (.slice none 0 0) (.slice none 0 0) ls bs [] [] [] [] [] ∧ RdrAt (w8.setCell ⟨xb, 1, none⟩ (.slice va8 vn8 vc8)) rb r ∧ MxAt (w8.setCell ⟨xb, 1, none⟩ (.slice va8 vn8 vc8)) xb (.slice va vn vc) v (.slice none 0 0) (.slice none 0 0) (.slice none 0 0) (.slice none 0 0) (.slice none 0 0) from
                  ⟨_, _, _, HPM.out, MixO.put ⟨hL8, ho8, OwnI.nil _ _, OwnI.nil _ _, OwnI.nil _ _, OwnI.nil _ _, OwnI.nil _ _⟩ hM8, put_far hR8 HRB.out.2.2, heap_set hM8 _⟩)
                have HD9 := Lib.hid (hD8.trans (Off.set (S := (fun k => k = rb ∨ k = xb)) _ (Or.inr rfl) 1 (.slice va8 vn8 vc8)))
                have HM8 := Lib.hid hM8
                clear hM8 hR8 hD8 hL8 ho8 hg8 hrow8 hS7
                rw [if_pos (by rfl)]
                refine wp_append_run _ _ _ rfl _ rfl _ rfl hr8 ?_
                refine hK.out _ _ ?_ (fun hHeld => ?_)
                · exact trivial
                clear hK K
                try simp only [Act.put, List.getElem_toArray, List.getElem_cons_succ, List.getElem_cons_zero, List.setIfInBounds_toArray, List.set_cons_zero, List.set_cons_succ]
                clear hr8
                refine wpAnyH_take (i := 6) (v := ?_) rfl (by kernel_rfl) (by kernel_rfl) (by kernel_rfl) (fun _ _ _ h => h) (Or.inl ⟨by rfl, ?_⟩) trivial ?_
                rotate_left
                · intro w hSw; (try dsimp only at hSw); go_simp; try with_reducible rfl
                try simp only [Act.put, List.getElem_toArray, List.getElem_cons_succ, List.getElem_cons_zero, List.setIfInBounds_toArray, List.set_cons_zero, List.set_cons_succ]
                refine wpAnyH_ready (rs := [7]) (by kernel_rfl) (by simp) ?_
                refine AllReadyH.cons rfl (fun K hK => ?_) AllReadyH.nil
                have c8 : w8.cell? ⟨xb, 1, none⟩ = some (.slice vb vm vd) := by rw [cell_at HM8.out]; rfl
                have f8 : w8.frozen? ⟨xb, 1, none⟩ = false := free_at HM8.out
                go_simp
                clear c8 f8
                refine hK.out _ _ ?_ (fun hHeld => ?_)
                · exact trivial
                clear hK K
                try simp only [Act.put, List.getElem_toArray, List.getElem_cons_succ, List.getElem_cons_zero, List.setIfInBounds_toArray, List.set_cons_zero, List.set_cons_succ]
                refine wpAnyH_done (by kernel_rfl) ?_ _
                clear hHeld
                go_wp2_with fail
                go_roundw
                case rel => exact ⟨i + 1, by go_num, by omega, HFIN, HD9⟩
                case measure => simp [intOf]; omega
              · go_simp
                refine hK.out _ _ ?_ (fun hHeld => ?_)
                · exact trivial
                clear hK K
                try simp only [Act.put, List.getElem_toArray, List.getElem_cons_succ, List.getElem_cons_zero, List.setIfInBounds_toArray, List.set_cons_zero, List.set_cons_succ]
                refine wpAnyH_ready (rs := [1]) (by kernel_rfl) (by simp) ?_
                refine AllReadyH.cons rfl (fun K hK => ?_) AllReadyH.nil
                have cl : (w3.alloc (.cells #[.int .u64 x0, .int .u64 x1, .int .u64 x2, .int .u64 x3, .int .u64 x4, .int .u64 x5] 37)).cell? ⟨xb, 1, none⟩ = some (.slice vb vm vd) := by rw [cell_at (((Same.refl w3).alloc _).keep HM3.out)]; rfl
                go_simp
                clear cl
                refine hK.out _ _ ?_ (fun hHeld => ?_)
                · exact trivial
                clear hK K
                try simp only [Act.put, List.getElem_toArray, List.getElem_cons_succ, List.getElem_cons_zero, List.setIfInBounds_toArray, List.set_cons_zero, List.set_cons_succ]
                refine wpAnyH_ready (rs := [5]) (by kernel_rfl) (by simp) ?_
                refine AllReadyH.cons rfl (fun K hK => ?_) AllReadyH.nil
                have hS7 : Same w3 (w3.alloc (.cells #[.int .u64 x0, .int .u64 x1, .int .u64 x2, .int .u64 x3, .int .u64 x4, .int .u64 x5] 37)) := (Same.refl w3).alloc _
                have HO7 := Lib.hid (HOW3.out.off2 (Off.of_same (S := fun _ => False) hS7) (fun _ _ _ e => e))
                obtain ⟨v', w8, hr8, ho8, hg8, hrow8⟩ := OwnB.push HO7.out.o1 (by rw [HLX.out]; omega) (Nat.le_trans HD3.out.size hS7.size) (b := [x0, x1, x2, x3, x4, x5]) rfl 23 (ad := ⟨w3.heap.size, 0, none⟩) (cells_new w3 [.int .u64 x0, .int .u64 x1, .int .u64 x2, .int .u64 x3, .int .u64 x4, .int .u64 x5] 37)
                obtain ⟨va8, vn8, vc8, rfl⟩ := ho8.form
                have hM8 := grown_keep hg8 (hS7.keep HM3.out) (fun k hk => by have := (hrow8 k hk).1; have := HRB.out.2.1; omega)
                have hR8 := grown_keep hg8 (hS7.keep HR3.out) (fun k hk => by have := (hrow8 k hk).1; have := HRB.out.1; omega)
                have hD8 := (HD3.out.trans (Off.of_same hS7)).grown hg8 (fun k hk => (hrow8 k hk).1)
                have hL8 := HO7.out.o0.grow hg8 (fun k hk => by obtain ⟨cur, e⟩ := (hrow8 k hk).2; exact ⟨cur, _, _, e, by decide, by decide⟩)
                have HFIN := Lib.hid (show ∃ bs r v, many boxC (i + 1) l2 = some (bs, r) ∧ MixO (w8.setCell ⟨xb, 1, none⟩ (.slice va8 vn8 vc8)) w.heap.size (.slice va vn vc) v (.slice none 0 0) (.slice none 0 0) (.slice none 0 0) (.slice none 0 0) (.slice none 0 0) ls bs [] [] [] [] [] ∧ RdrAt (w8.setCell ⟨xb, 1, none⟩ (.slice va8 vn8 vc8)) rb r ∧ MxAt (w8.setCell ⟨xb, 1, none⟩ (.slice va8 vn8 vc8)) xb (.slice va vn vc) v (.slice none 0 0) (.slice none 0 0) (.slice none 0 0) (.slice none 0 0) (.slice none 0 0) from
                  ⟨_, _, _, HPM.out, MixO.put ⟨hL8, ho8, OwnI.nil _ _, OwnI.nil _ _, OwnI.nil _ _, OwnI.nil _ _, OwnI.nil _ _⟩ hM8, put_far hR8 HRB.out.2.2, heap_set hM8 _⟩)
                have HD9 := Lib.hid (hD8.trans (Off.set (S := (fun k => k = rb ∨ k = xb)) _ (Or.inr rfl) 1 (.slice va8 vn8 vc8)))
                have HM8 := Lib.hid hM8
                clear hM8 hR8 hD8 hL8 ho8 hg8 hrow8 hS7
                rw [if_pos (by rfl)]
                refine wp_append_run _ _ _ rfl _ rfl _ rfl hr8 ?_
                refine hK.out _ _ ?_ (fun hHeld => ?_)
                · exact trivial
                clear hK K
                try simp only [Act.put, List.getElem_toArray, List.getElem_cons_succ, List.getElem_cons_zero, List.setIfInBounds_toArray, List.set_cons_zero, List.set_cons_succ]
                clear hr8
                refine wpAnyH_take (i := 6) (v := ?_) rfl (by kernel_rfl) (by kernel_rfl) (by kernel_rfl) (fun _ _ _ h => h) (Or.inl ⟨by rfl, ?_⟩) trivial ?_
                rotate_left
                · intro w hSw; (try dsimp only at hSw); go_simp; try with_reducible rfl
                try simp only [Act.put, List.getElem_toArray, List.getElem_cons_succ, List.getElem_cons_zero, List.setIfInBounds_toArray, List.set_cons_zero, List.set_cons_succ]
                refine wpAnyH_ready (rs := [7]) (by kernel_rfl) (by simp) ?_
                refine AllReadyH.cons rfl (fun K hK => ?_) AllReadyH.nil
                have c8 : w8.cell? ⟨xb, 1, none⟩ = some (.slice vb vm vd) := by rw [cell_at HM8.out]; rfl
                have f8 : w8.frozen? ⟨xb, 1, none⟩ = false := free_at HM8.out
                go_simp
                clear c8 f8
                refine hK.out _ _ ?_ (fun hHeld => ?_)
                · exact trivial
                clear hK K
                try simp only [Act.put, List.getElem_toArray, List.getElem_cons_succ, List.getElem_cons_zero, List.setIfInBounds_toArray, List.set_cons_zero, List.set_cons_succ]
                refine wpAnyH_done (by kernel_rfl) ?_ _
                clear hHeld
                go_wp2_with fail
                go_roundw
                case rel => exact ⟨i + 1, by go_num, by omega, HFIN, HD9⟩
                case measure => simp [intOf]; omega
          · obtain rfl : nb = i := by omega
            have HB := Lib.hid (show (listC 8 boxC).par rL = some (bs, r) from (listC_go HP2.out).trans HM.out)
            obtain ⟨wb, rfl⟩ : ∃ wz, wz = wr := ⟨_, rfl⟩
            obtain ⟨rM, rfl⟩ : ∃ rz, rz = r := ⟨_, rfl⟩
            have HD3 := Lib.hid hD.out
            clear hD HM HLX
            go_wp2_with fail
            refine (rlist_any rb rM hrl wb HRR.out).mono ?_
            rintro e w2b ⟨hO, (⟨y2, r2, v, hp, rfl, hR, hv⟩ | ⟨hp, rfl⟩)⟩
            case inr =>
              have HFN := Lib.hid (show Off (fun k => k = rb ∨ k = xb) w w2b ∧ mixC.par l = none from ⟨HD3.out.trans (hO.mono (fun k _ e => Or.inl e)), pairC_none2 HL.out (pairC_none2 HB.out (pairC_none1 hp))⟩)
              go_wp2_with fail
              exact ⟨rfl, HFN.out.1, Or.inr ⟨HFN.out.2, rfl⟩⟩
            obtain ⟨a2, n2, c2, rfl⟩ := hv.form
            have hrl2 : r2.length ≤ 1000000000 := Nat.le_trans (Cod.rest _ hp) hrl
            have hm := hO.keep (b := xb) (fun e => HRB.out.2.2 e.symm) HMX.out
            have k2 : w2b.cell? ⟨xb, 2, none⟩ = some (.slice none 0 0) := by rw [cell_at hm]; rfl
            have f2 : w2b.frozen? ⟨xb, 2, none⟩ = false := free_at hm
            obtain ⟨w2c, ew⟩ : ∃ wz, w2b.setCell ⟨xb, 2, none⟩ (.slice a2 n2 c2) = wz := ⟨_, rfl⟩
            have hoo := (HOW.out.off2 hO (fun b hb _ e => by have := HRB.out.1; omega)).put (o := 2) (u := (.slice a2 n2 c2)) hm
            have hvv := (hv.put (o := 2) (u := (.slice a2 n2 c2)) hm (by decide)).down HD3.out.size
            rw [ew] at hoo hvv
            have HO2c := Lib.hid (show MixO w2c w.heap.size (.slice va vn vc) (.slice vb vm vd) (.slice a2 n2 c2) (.slice none 0 0) (.slice none 0 0) (.slice none 0 0) (.slice none 0 0) ls bs y2 [] [] [] [] from ⟨hoo.o0, hoo.o1, hvv, hoo.o3, hoo.o4, hoo.o5, hoo.o6⟩)
            have HM2c := Lib.hid (show MxAt w2c xb (.slice va vn vc) (.slice vb vm vd) (.slice a2 n2 c2) (.slice none 0 0) (.slice none 0 0) (.slice none 0 0) (.slice none 0 0) by rw [← ew]; exact heap_set hm _)
            have HR2c := Lib.hid (show RdrAt w2c rb r2 by rw [← ew]; exact put_far hR HRB.out.2.2)
            have HD2c := Lib.hid (show Off (fun k => k = rb ∨ k = xb) w w2c by rw [← ew]; exact (HD3.out.trans (hO.mono (fun k _ e => Or.inl e))).trans (Off.set (S := (fun k => k = rb ∨ k = xb)) _ (Or.inr rfl) _ _))
            have HP2c := Lib.hid hp
            have EW2c := Lib.hid ew
            clear hp hO hR hv hm hoo hvv ew
            go_upto_region 11 with fail
            rw [EW2c.out]
            clear k2 f2
            go_wp2_with fail
            refine (rlist_any rb r2 hrl2 w2c HR2c.out).mono ?_
            rintro e w3b ⟨hO, (⟨y3, r3, v, hp, rfl, hR, hv⟩ | ⟨hp, rfl⟩)⟩
            case inr =>
              have HFN := Lib.hid (show Off (fun k => k = rb ∨ k = xb) w w3b ∧ mixC.par l = none from ⟨HD2c.out.trans (hO.mono (fun k _ e => Or.inl e)), pairC_none2 HL.out (pairC_none2 HB.out (pairC_none2 HP2c.out (pairC_none1 hp)))⟩)
              go_wp2_with fail
              exact ⟨rfl, HFN.out.1, Or.inr ⟨HFN.out.2, rfl⟩⟩
            obtain ⟨a3, n3, c3, rfl⟩ := hv.form
            have hrl3 : r3.length ≤ 1000000000 := Nat.le_trans (Cod.rest _ hp) hrl2
            have hm := hO.keep (b := xb) (fun e => HRB.out.2.2 e.symm) HM2c.out
            have k3 : w3b.cell? ⟨xb, 3, none⟩ = some (.slice none 0 0) := by rw [cell_at hm]; rfl
            have f3 : w3b.frozen? ⟨xb, 3, none⟩ = false := free_at hm
            obtain ⟨w3c, ew⟩ : ∃ wz, w3b.setCell ⟨xb, 3, none⟩ (.slice a3 n3 c3) = wz := ⟨_, rfl⟩
            have hoo := (HO2c.out.off2 hO (fun b hb _ e => by have := HRB.out.1; omega)).put (o := 3) (u := (.slice a3 n3 c3)) hm
            have hvv := (hv.put (o := 3) (u := (.slice a3 n3 c3)) hm (by decide)).down HD2c.out.size
            rw [ew] at hoo hvv
            have HO3c := Lib.hid (show MixO w3c w.heap.size (.slice va vn vc) (.slice vb vm vd) (.slice a2 n2 c2) (.slice a3 n3 c3) (.slice none 0 0) (.slice none 0 0) (.slice none 0 0) ls bs y2 y3 [] [] [] from ⟨hoo.o0, hoo.o1, hoo.o2, hvv, hoo.o4, hoo.o5, hoo.o6⟩)
            have HM3c := Lib.hid (show MxAt w3c xb (.slice va vn vc) (.slice vb vm vd) (.slice a2 n2 c2) (.slice a3 n3 c3) (.slice none 0 0) (.slice none 0 0) (.slice none 0 0) by rw [← ew]; exact heap_set hm _)
            have HR3c := Lib.hid (show RdrAt w3c rb r3 by rw [← ew]; exact put_far hR HRB.out.2.2)
            have HD3c := Lib.hid (show Off (fun k => k = rb ∨ k = xb) w w3c by rw [← ew]; exact (HD2c.out.trans (hO.mono (fun k _ e => Or.inl e))).trans (Off.set (S := (fun k => k = rb ∨ k = xb)) _ (Or.inr rfl) _ _))
            have HP3c := Lib.hid hp
            have EW3c := Lib.hid ew
            clear hp hO hR hv hm hoo hvv ew
            go_upto_region 12 with fail
            rw [EW3c.out]
            clear k3 f3
            go_wp2_with fail
            refine (rlist_any rb r3 hrl3 w3c HR3c.out).mono ?_
            rintro e w4b ⟨hO, (⟨y4, r4, v, hp, rfl, hR, hv⟩ | ⟨hp, rfl⟩)⟩
            case inr =>
              have HFN := Lib.hid (show Off (fun k => k = rb ∨ k = xb) w w4b ∧ mixC.par l = none from ⟨HD3c.out.trans (hO.mono (fun k _ e => Or.inl e)), pairC_none2 HL.out (pairC_none2 HB.out (pairC_none2 HP2c.out (pairC_none2 HP3c.out (pairC_none1 hp))))⟩)
              go_wp2_with fail
              exact ⟨rfl, HFN.out.1, Or.inr ⟨HFN.out.2, rfl⟩⟩
            obtain ⟨a4, n4, c4, rfl⟩ := hv.form
            have hrl4 : r4.length ≤ 1000000000 := Nat.le_trans (Cod.rest _ hp) hrl3
            have hm := hO.keep (b := xb) (fun e => HRB.out.2.2 e.symm) HM3c.out
            have k4 : w4b.cell? ⟨xb, 4, none⟩ = some (.slice none 0 0) := by rw [cell_at hm]; rfl
            have f4 : w4b.frozen? ⟨xb, 4, none⟩ = false := free_at hm
            obtain ⟨w4c, ew⟩ : ∃ wz, w4b.setCell ⟨xb, 4, none⟩ (.slice a4 n4 c4) = wz := ⟨_, rfl⟩
            have hoo := (HO3c.out.off2 hO (fun b hb _ e => by have := HRB.out.1; omega)).put (o := 4) (u := (.slice a4 n4 c4)) hm
            have hvv := (hv.put (o := 4) (u := (.slice a4 n4 c4)) hm (by decide)).down HD3c.out.size
            rw [ew] at hoo hvv
            have HO4c := Lib.hid (show MixO w4c w.heap.size (.slice va vn vc) (.slice vb vm vd) (.slice a2 n2 c2) (.slice a3 n3 c3) (.slice a4 n4 c4) (.slice none 0 0) (.slice none 0 0) ls bs y2 y3 y4 [] [] from ⟨hoo.o0, hoo.o1, hoo.o2, hoo.o3, hvv, hoo.o5, hoo.o6⟩)
            have HM4c := Lib.hid (show MxAt w4c xb (.slice va vn vc) (.slice vb vm vd) (.slice a2 n2 c2) (.slice a3 n3 c3) (.slice a4 n4 c4) (.slice none 0 0) (.slice none 0 0) by rw [← ew]; exact heap_set hm _)
            have HR4c := Lib.hid (show RdrAt w4c rb r4 by rw [← ew]; exact put_far hR HRB.out.2.2)
            have HD4c := Lib.hid (show Off (fun k => k = rb ∨ k = xb) w w4c by rw [← ew]; exact (HD3c.out.trans (hO.mono (fun k _ e => Or.inl e))).trans (Off.set (S := (fun k => k = rb ∨ k = xb)) _ (Or.inr rfl) _ _))
            have HP4c := Lib.hid hp
            have EW4c := Lib.hid ew
            clear hp hO hR hv hm hoo hvv ew
            go_upto_region 13 with fail
            rw [EW4c.out]
            clear k4 f4
            go_wp2_with fail
            refine (rproof_any rb r4 hrl4 w4c HR4c.out).mono ?_
            rintro e w5b ⟨hO, (⟨p, r5, a5, n5, c5, a6, n6, c6, hp, rfl, hR, hv5, hv6⟩ | ⟨hp, rfl⟩)⟩
            case inr =>
              have HFN := Lib.hid (show Off (fun k => k = rb ∨ k = xb) w w5b ∧ mixC.par l = none from ⟨HD4c.out.trans (hO.mono (fun k _ e => Or.inl e)), pairC_none2 HL.out (pairC_none2 HB.out (pairC_none2 HP2c.out (pairC_none2 HP3c.out (pairC_none2 HP4c.out (hp)))))⟩)
              go_wp2_with fail
              exact ⟨rfl, HFN.out.1, Or.inr ⟨HFN.out.2, rfl⟩⟩
            have hm := hO.keep (b := xb) (fun e => HRB.out.2.2 e.symm) HM4c.out
            have k5 : w5b.cell? ⟨xb, 5, none⟩ = some (.slice none 0 0) := by rw [cell_at hm]; rfl
            have f5 : w5b.frozen? ⟨xb, 5, none⟩ = false := free_at hm
            have k6 : w5b.cell? ⟨xb, 6, none⟩ = some (.slice none 0 0) := by rw [cell_at hm]; rfl
            have f6 : w5b.frozen? ⟨xb, 6, none⟩ = false := free_at hm
            obtain ⟨w5c, ew⟩ : ∃ wz, (w5b.setCell ⟨xb, 5, none⟩ (.slice a5 n5 c5)).setCell ⟨xb, 6, none⟩ (.slice a6 n6 c6) = wz := ⟨_, rfl⟩
            have hm5 := heap_set (o := 5) hm (.slice a5 n5 c5)
            have hoo := ((HO4c.out.off2 hO (fun b hb _ e => by have := HRB.out.1; omega)).put (o := 5) (u := (.slice a5 n5 c5)) hm).put (o := 6) (u := (.slice a6 n6 c6)) hm5
            have hv5b := ((hv5.put (o := 5) (u := (.slice a5 n5 c5)) hm (by decide)).put (o := 6) (u := (.slice a6 n6 c6)) hm5 (by decide)).down HD4c.out.size
            have hv6b := ((hv6.put (o := 5) (u := (.slice a5 n5 c5)) hm (by decide)).put (o := 6) (u := (.slice a6 n6 c6)) hm5 (by decide)).down HD4c.out.size
            rw [ew] at hoo hv5b hv6b
            have HFIN := Lib.hid (show Off (fun k => k = rb ∨ k = xb) w w5c ∧ mixC.par l = some ((ls, bs, y2, y3, y4, p), r5) ∧ RdrAt w5c rb r5 ∧ MixB xb w.heap.size w5c (ls, bs, y2, y3, y4, p) from
              ⟨by rw [← ew]; exact ((HD4c.out.trans (hO.mono (fun k _ e => Or.inl e))).trans (Off.set (S := (fun k => k = rb ∨ k = xb)) _ (Or.inr rfl) _ _)).trans (Off.set (S := (fun k => k = rb ∨ k = xb)) _ (Or.inr rfl) _ _), pairC_some HL.out (pairC_some HB.out (pairC_some HP2c.out (pairC_some HP3c.out (pairC_some HP4c.out (hp))))), by rw [← ew]; exact put_far (put_far hR HRB.out.2.2) HRB.out.2.2,
                ⟨⟨va, vn, vc, vb, vm, vd, a2, n2, c2, a3, n3, c3, a4, n4, c4, a5, n5, c5, a6, n6, c6, by rw [← ew]; exact heap_set hm5 _, ⟨hoo.o0, hoo.o1, hoo.o2, hoo.o3, hoo.o4, hv5b, hv6b⟩⟩⟩⟩)
            have EW := Lib.hid ew
            clear hp hO hR hv5 hv6 hm hm5 hoo hv5b hv6b ew
            go_wp2_with fail
            try rw [EW.out]
            obtain ⟨y1, y2, y3, y4⟩ := HFIN.out
            exact ⟨rfl, _, results_none rfl _ _ _, y1, Or.inl ⟨_, r5, y2, rfl, y3, y4⟩⟩
end Go.Proofs.Ytdbhcdhenapfoaa
