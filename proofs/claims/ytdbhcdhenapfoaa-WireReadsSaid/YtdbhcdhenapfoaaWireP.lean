/- Layer 10: what is passed is read. -/
import Derived.Test.YtdbhcdhenapfoaaWireN
set_option linter.unusedVariables false
set_option linter.unusedSimpArgs false
namespace Go.Proofs.Ytdbhcdhenapfoaa
open Go.RowKit Go.Maps
def pasV (xs : List Int) (ss : List Value) : Array Value := (xs.map (Value.int .u64) ++ (List.replicate (9 - xs.length) (Value.int .u64 0) ++ (ss ++ List.replicate (6 - ss.length) (Value.slice none 0 0)))).toArray
theorem pasV_num {xs : List Int} (h : xs.length < 9) (x : Int) : (pasV xs []).setIfInBounds xs.length (.int .u64 x) = pasV (xs ++ [x]) [] := by
  obtain ⟨m, hm⟩ : ∃ m, 9 - xs.length = m + 1 := ⟨9 - xs.length - 1, by omega⟩
  have h2 : 9 - (xs ++ [x]).length = m := by rw [List.length_append]; simp; omega
  unfold pasV
  rw [hm, h2, List.replicate_succ, List.setIfInBounds_toArray, List.map_append]
  simp [List.set_append]
theorem pasV_at {xs : List Int} {i : Nat} (h : xs.length ≤ i) (hk : i < 9) : (pasV xs [])[i]? = some (.int .u64 0) := by
  unfold pasV
  rw [List.getElem?_toArray, List.getElem?_append_right (by simpa using h), List.length_map, List.getElem?_append_left (by rw [List.length_replicate]; omega), List.getElem?_replicate, if_pos (by omega)]
theorem pasV_nine {xs : List Int} (h9 : xs.length = 9) (ss : List Value) : pasV xs ss = (xs.map (Value.int .u64) ++ (ss ++ List.replicate (6 - ss.length) (Value.slice none 0 0))).toArray := by unfold pasV; rw [h9]; simp
theorem pasV_sl {xs : List Int} (h9 : xs.length = 9) {ss : List Value} (h : ss.length < 6) (u : Value) : (pasV xs ss).setIfInBounds (9 + ss.length) u = pasV xs (ss ++ [u]) := by
  obtain ⟨m, hm⟩ : ∃ m, 6 - ss.length = m + 1 := ⟨6 - ss.length - 1, by omega⟩
  have h2 : 6 - (ss ++ [u]).length = m := by rw [List.length_append]; simp; omega
  rw [pasV_nine h9, pasV_nine h9, hm, h2, List.replicate_succ, List.setIfInBounds_toArray, List.set_append_right _ _ (by simp [h9]), List.length_map, h9, Nat.add_sub_cancel_left]
  simp [List.set_append]
theorem pasV_sat {xs : List Int} (h9 : xs.length = 9) {ss : List Value} {i : Nat} (h : ss.length ≤ i) (hk : i < 6) : (pasV xs ss)[9 + i]? = some (.slice none 0 0) := by
  rw [pasV_nine h9, List.getElem?_toArray, List.getElem?_append_right (by simp [h9]), List.length_map, h9, Nat.add_sub_cancel_left, List.getElem?_append_right h, List.getElem?_replicate, if_pos (by omega)]
/-- the cells of proofs -/
inductive PrV (w : World) (lo : Nat) : List Value → List ProofD → Prop
  | nil : PrV w lo [] []
  | snoc {vs : List Value} {ls : List ProofD} {a1 a2 : Option Addr} {n1 c1 n2 c2 : Nat} {x : ProofD} (h : PrV w lo vs ls) (o1 : OwnI w lo (.slice a1 n1 c1) x.1) (o2 : OwnI w lo (.slice a2 n2 c2) x.2) : PrV w lo (vs ++ [.slice a1 n1 c1, .slice a2 n2 c2]) (ls ++ [x])
theorem PrV.len {w : World} {lo : Nat} {vs : List Value} {ls : List ProofD} (h : PrV w lo vs ls) : vs.length = ls.length * 2 := by
  induction h with
  | nil => rfl
  | snoc h o1 o2 ih => rw [List.length_append, List.length_append, ih]; simp; omega
theorem PrV.map {w w' : World} {lo lo' : Nat} {vs : List Value} {ls : List ProofD} (h : PrV w lo vs ls) (k : ∀ v xs, OwnI w lo v xs → OwnI w' lo' v xs) : PrV w' lo' vs ls := by
  induction h with
  | nil => exact .nil
  | snoc h o1 o2 ih => exact .snoc ih (k _ _ o1) (k _ _ o2)
theorem snoc_inv {α : Type} : ∀ (l : List α) (n : Nat), l.length = n + 1 → ∃ m x, l = m ++ [x] ∧ m.length = n := by
  intro l n h
  refine ⟨l.dropLast, l.getLast (by intro e; subst e; simp at h), (List.dropLast_concat_getLast _).symm, by rw [List.length_dropLast]; omega⟩
theorem PrV.inv {w : World} {lo : Nat} {vs : List Value} {ls : List ProofD} {x : ProofD} (h : PrV w lo vs (ls ++ [x])) : ∃ us a1 n1 c1 a2 n2 c2, vs = us ++ [.slice a1 n1 c1, .slice a2 n2 c2] ∧ PrV w lo us ls ∧ OwnI w lo (.slice a1 n1 c1) x.1 ∧ OwnI w lo (.slice a2 n2 c2) x.2 := by
  generalize hq : ls ++ [x] = q at h
  cases h with
  | nil => simp at hq
  | snoc h o1 o2 =>
    obtain ⟨rfl, e⟩ := List.append_inj' hq rfl
    injection e with e _
    subst e
    exact ⟨_, _, _, _, _, _, _, rfl, h, o1, o2⟩
/-- three proofs' cells -/
theorem PrV.three {w : World} {lo : Nat} {vs : List Value} {ls : List ProofD} (h : PrV w lo vs ls) (h3 : ls.length = 3) : ∃ p0 m0 d0 p1 m1 d1 p2 m2 d2 p3 m3 d3 p4 m4 d4 p5 m5 d5 q0 q1 q2, vs = [.slice p0 m0 d0, .slice p1 m1 d1, .slice p2 m2 d2, .slice p3 m3 d3, .slice p4 m4 d4, .slice p5 m5 d5] ∧ ls = [q0, q1, q2] ∧ OwnI w lo (.slice p0 m0 d0) q0.1 ∧ OwnI w lo (.slice p1 m1 d1) q0.2 ∧ OwnI w lo (.slice p2 m2 d2) q1.1 ∧ OwnI w lo (.slice p3 m3 d3) q1.2 ∧ OwnI w lo (.slice p4 m4 d4) q2.1 ∧ OwnI w lo (.slice p5 m5 d5) q2.2 := by
  obtain ⟨l2, y2, rfl, h2⟩ := snoc_inv ls 2 h3
  obtain ⟨l1, y1, rfl, h1⟩ := snoc_inv l2 1 h2
  obtain ⟨l0, y0, rfl, h0⟩ := snoc_inv l1 0 h1
  obtain rfl := List.eq_nil_of_length_eq_zero h0
  obtain ⟨u2, a1, n1, c1, a2, n2, c2, rfl, k2, s1, s2⟩ := h.inv
  obtain ⟨u1, a3, n3, c3, a4, n4, c4, rfl, k1, s3, s4⟩ := k2.inv
  obtain ⟨u0, a5, n5, c5, a6, n6, c6, rfl, k0, s5, s6⟩ := k1.inv
  obtain rfl := List.eq_nil_of_length_eq_zero (show u0.length = 0 from k0.len)
  exact ⟨_, _, _, _, _, _, _, _, _, _, _, _, _, _, _, _, _, _, _, _, _, rfl, rfl, s5, s6, s3, s4, s1, s2⟩
/-- the cells of what is passed -/
inductive PasV (w : World) (lo : Nat) : List Value → List PassD → Prop
  | nil : PasV w lo [] []
  | snoc {vs ss : List Value} {ls : List PassD} {x : PassD} (h : PasV w lo vs ls) (h9 : x.1.length = 9) (h3 : x.2.length = 3) (o : PrV w lo ss x.2) : PasV w lo (vs ++ (x.1.map (Value.int .u64) ++ ss)) (ls ++ [x])
theorem PasV.len {w : World} {lo : Nat} {vs : List Value} {ls : List PassD} (h : PasV w lo vs ls) : vs.length = ls.length * 15 := by
  induction h with
  | nil => rfl
  | snoc h h9 h3 o ih =>
    have := o.len
    rw [List.length_append, List.length_append, List.length_append, ih, List.length_map]; simp; omega
theorem PasV.map {w w' : World} {lo lo' : Nat} {vs : List Value} {ls : List PassD} (h : PasV w lo vs ls) (k : ∀ v xs, OwnI w lo v xs → OwnI w' lo' v xs) : PasV w' lo' vs ls := by
  induction h with
  | nil => exact .nil
  | snoc h h9 h3 o ih => exact .snoc ih h9 h3 (o.map k)
/-- a slice that owns what is passed -/
structure OwnP (w : World) (lo : Nat) (v : Value) (ls : List PassD) : Prop where
  ex : ∃ vs, w.ownsRow lo 62 15 v ls.length vs ∧ PasV w lo vs ls
theorem OwnP.nil (w : World) (lo : Nat) : OwnP w lo (.slice none 0 0) [] := ⟨[], World.ownsRow_nil _ _ _ _, .nil⟩
theorem OwnP.off2 {S : Nat → Prop} {w w' : World} {lo : Nat} {v : Value} {ls : List PassD} (h : OwnP w lo v ls) (k : Off S w w') (hS : ∀ b, lo ≤ b → b < w.heap.size → ¬ S b) : OwnP w' lo v ls := by
  obtain ⟨vs, h1, h2⟩ := h.ex
  exact ⟨vs, ownsRow_off2 h1 k hS, h2.map (fun v xs o => o.off2 k hS)⟩
theorem OwnP.put {w : World} {lo b o : Nat} {v u : Value} {ls : List PassD} {cur : Array Value} {t : TypeId} {f : Nat × Nat} (h : OwnP w lo v ls) (hb : w.heap[b]? = some (.cells cur t f)) (ht : t ≠ 62) (ht2 : t ≠ 33) : OwnP (w.setCell ⟨b, o, none⟩ u) lo v ls := by
  obtain ⟨vs, h1, h2⟩ := h.ex
  exact ⟨vs, ownsRow_put h1 hb ht, h2.map (fun v xs k => k.put hb ht2)⟩
theorem OwnP.down {w : World} {lo lo' : Nat} {v : Value} {ls : List PassD} (h : OwnP w lo v ls) (hb : lo' ≤ lo) : OwnP w lo' v ls := by
  obtain ⟨vs, ⟨hl, h1⟩, h2⟩ := h.ex
  refine ⟨vs, ⟨hl, ?_⟩, h2.map (fun v xs o => o.down hb)⟩
  rcases h1 with h1 | ⟨g, cap, cur, hv, hbs, r⟩
  · exact .inl h1
  · exact .inr ⟨g, cap, cur, hv, by omega, r⟩
theorem OwnP.form {w : World} {lo : Nat} {v : Value} {ls : List PassD} (h : OwnP w lo v ls) : ∃ a n c, v = .slice a n c := by
  obtain ⟨vs, h1, _⟩ := h.ex
  obtain ⟨a, c, e⟩ := ownsRow_form h1
  exact ⟨a, _, c, e⟩
theorem info_passed : (Try.prog.info? 62).map (fun i => (i.zero, i.size, i.bytes)) = some (some (.agg #[.int .u64 0, .int .u64 0, .int .u64 0, .int .u64 0, .int .u64 0, .int .u64 0, .int .u64 0, .int .u64 0, .int .u64 0, .slice none 0 0, .slice none 0 0, .slice none 0 0, .slice none 0 0, .slice none 0 0, .slice none 0 0]), 15, 216) := by kernel_rfl
/-- one more that is passed -/
theorem OwnP.push {w : World} {lo : Nat} {v : Value} {ls : List PassD} (h : OwnP w lo v ls) (hn : ls.length ≤ 1000) (hB : lo ≤ w.heap.size) {x : PassD} (h9 : x.1.length = 9) (h3 : x.2.length = 3) {ss : List Value} (o : PrV w lo ss x.2) (ty : TypeId) {ad : Addr}
    (hc : ∀ (j : Nat) (u : Value), (x.1.map (Value.int .u64) ++ ss)[j]? = some u → w.cell? (ad.add j) = some u) :
    ∃ v' w', (Builtin.append_ #[51, 51] ty #[v, .slice (some ad) 1 1]).run Try.prog w = .ok v' w' ∧ OwnP w' lo v' (ls ++ [x]) ∧ w.grownBy w' v.ownBlock ∧ (∀ k, v.ownBlock = some k → lo ≤ k ∧ ∃ cur, w.heap[k]? = some (.cells cur 62 (0, 0))) := by
  obtain ⟨i0, hi, hz0, hz1, hz2⟩ := info_parts info_passed
  obtain ⟨vs, h1, h2⟩ := h.ex
  obtain ⟨p0, m0, d0, p1, m1, d1, p2, m2, d2, p3, m3, d3, p4, m4, d4, p5, m5, d5, q0, q1, q2, e1, e2, _⟩ := o.three h3
  obtain ⟨v', w', hr, ho, hg, _, _⟩ := run_append_own_at (P := Try.prog) w lo 51 ty 62 i0 _ 15 216 Try.underlying51 hi hz0 hz1 hz2 rfl (by decide) v ls.length vs h1 ad 1 1 (x.1.map (Value.int .u64) ++ ss) (by rw [List.length_append, List.length_map, h9, e1]; rfl) hc
    (by
      intro u hu
      rcases List.mem_append.1 hu with hu | hu
      · rw [List.mem_map] at hu; obtain ⟨y, _, rfl⟩ := hu; rfl
      · rw [e1] at hu; simp at hu; rcases hu with rfl | rfl | rfl | rfl | rfl | rfl <;> rfl) (by unfold maxLen; omega) (by omega) hB
  have hty := ownsRow_typed h1
  have hgr : ∀ v2 xs, OwnI w lo v2 xs → OwnI w' lo v2 xs := fun v2 xs o => o.grow hg (fun k hk => by obtain ⟨cur, hc⟩ := hty k hk; exact ⟨cur, _, _, hc, by decide⟩)
  exact ⟨v', w', hr, ⟨_, by rw [List.length_append]; exact ho, .snoc (h2.map hgr) h9 h3 (o.map hgr)⟩, hg, fun k hk => ⟨(h1.lt k hk).1, hty k hk⟩⟩
theorem nine {xs : List Int} (h : xs.length = 9) : ∃ a b c d e f g i j, xs = [a, b, c, d, e, f, g, i, j] := by
  match xs, h with
  | [a, b, c, d, e, f, g, i, j], _ => exact ⟨a, b, c, d, e, f, g, i, j, rfl⟩
abbrev PxAt (w : World) (b : Nat) (v : Value) : Prop := w.heap[b]? = some (.cells #[v] 51 (0, 0))
structure PasB (b lo : Nat) (w : World) (x : List PassD) : Prop where
  ex : ∃ a n c, PxAt w b (.slice a n c) ∧ OwnP w lo (.slice a n c) x
theorem PasB.off {S : Nat → Prop} {b lo : Nat} {w w' : World} {x : List PassD} (h : PasB b lo w x) (k : Off S w w') (h1 : ¬ S b) (h2 : ∀ i, lo ≤ i → ¬ S i) : PasB b lo w' x := by
  obtain ⟨a, n, c, hh, ho⟩ := h.ex
  exact ⟨⟨a, n, c, k.keep h1 hh, ho.off2 k (fun i hi _ => h2 i hi)⟩⟩
set_option maxHeartbeats 3200000 in
theorem passed1 (xb : Nat) : Does 48 xb passlC (PasB xb) (fun w => PxAt w xb (.slice none 0 0)) where
  enter := fun args w => by kernel_rfl
  stay := fun S lo w w' x h k h1 h2 => h.off k h1 h2
  stay0 := fun S w w' h k h1 => k.keep h1 h
  run := fun rb l w hl hne hxb hR hZ => by
    have hrl := (Array.getElem?_eq_some_iff.1 hR).1
    have HRB := Lib.hid (And.intro hrl (And.intro hxb hne))
    have HR := Lib.hid hR
    have HZ := Lib.hid hZ
    clear hR hZ hrl hxb hne
    go_enter Try.func48, Try.ntmps48
    go_wp2_with fail
    refine (count_any rb 8 l hl (by omega) w HR.out).mono ?_
    rintro e w1 ⟨hO1, (⟨n, l1, hp, rfl, hR1, hn⟩ | ⟨hp, rfl⟩)⟩
    case inr =>
      go_wp2_with fail
      exact ⟨rfl, hO1.mono (fun k _ e => Or.inl e), Or.inr ⟨listC_none0 hp, rfl⟩⟩
    have HP := Lib.hid hp
    have hl1 : l1.length ≤ 1000000000 := Nat.le_trans ((cntC 8).rest hp) hl
    have HO1 := Lib.hid (hO1.mono (T := (fun k => k = rb ∨ k = xb)) (fun k _ e => Or.inl e))
    have HR1 := Lib.hid hR1
    have HZ1 := Lib.hid (hO1.keep (b := xb) (fun e => HRB.out.2.2 e.symm) HZ.out)
    have hn0 : (0 : Int) ≤ n := by omega
    clear hp hO1 hR1
    go_wp2_with fail
    go_loopw [9] (fun s9 wr => ∃ i : Nat, s9 = .int .i64 i ∧ i ≤ n ∧ Hid (∃ ls r v, many passC i l1 = some (ls, r) ∧ OwnP wr w.heap.size v ls ∧ RdrAt wr rb r ∧ PxAt wr xb v) ∧ Hid (Off (fun k => k = rb ∨ k = xb) w wr)) (fun s9 _ => n - (intOf s9).toNat)
    case atStart => exact ⟨0, rfl, by omega, Lib.hid ⟨[], l1, _, rfl, OwnP.nil _ _, HR1.out, HZ1.out⟩, HO1⟩
    case round =>
      obtain ⟨i, rfl, hi', hI, hD⟩ := hrel
      obtain ⟨ls, r, v, hm, hown, hR, hM⟩ := hI.out
      obtain ⟨va, vn, vc, rfl⟩ := hown.form
      have HM := Lib.hid hm
      have HOW := Lib.hid hown
      have HRR := Lib.hid hR
      have HMX := Lib.hid hM
      have hrl : r.length ≤ 1000000000 := Nat.le_trans (many_rest _ hm) hl1
      have HLX := Lib.hid (many_len _ _ _ _ _ hm)
      clear hI hm hown hR hM
      by_cases hlt : i < n
      · have hi0 : (0 : Int) ≤ i := by omega
        have hi1 : (i : Int) < n := by omega
        obtain ⟨wo, rfl⟩ : ∃ wz, wz = wr := ⟨_, rfl⟩
        obtain ⟨w4, ew4⟩ : ∃ w4, wo.alloc (.cells #[.int .u64 0, .int .u64 0, .int .u64 0, .int .u64 0, .int .u64 0, .int .u64 0, .int .u64 0, .int .u64 0, .int .u64 0, .slice none 0 0, .slice none 0 0, .slice none 0 0, .slice none 0 0, .slice none 0 0, .slice none 0 0] 62) = w4 := ⟨_, rfl⟩
        obtain ⟨tb, etb⟩ : ∃ tb, wo.heap.size = tb := ⟨_, rfl⟩
        have hS4 : Same wo w4 := by rw [← ew4]; exact (Same.refl wo).alloc _
        have HTB := Lib.hid (show w.heap.size ≤ tb ∧ rb < tb from by rw [← etb]; exact ⟨hD.out.size, Nat.lt_of_lt_of_le HRB.out.1 hD.out.size⟩)
        have HB4 := Lib.hid (show w4.heap[tb]? = some (.cells (pasV [] []) 62 (0, 0)) by rw [← ew4, ← etb]; exact heap_new _ _)
        have HR4 := Lib.hid (hS4.keep HRR.out)
        have HM4 := Lib.hid (hS4.keep HMX.out)
        have HD4 := Lib.hid (hD.out.trans (Off.of_same hS4))
        have HS4 := Lib.hid hS4
        have EW4 := Lib.hid ew4
        have ETB := Lib.hid etb
        clear hS4 ew4 etb
        go_upto_region 3 with fail
        rw [EW4.out, ETB.out]
        go_wp2_with fail
        go_loopw [11] (fun s11 wr => ∃ j : Nat, s11 = .int .i64 j ∧ j ≤ 3 ∧ Hid (∃ ys ra, many numC (j * 3) r = some (ys, ra) ∧ wr.heap[tb]? = some (.cells (pasV ys []) 62 (0, 0)) ∧ RdrAt wr rb ra) ∧ Hid (Off (fun k => k = rb ∨ k = tb) w4 wr)) (fun s11 _ => 3 - (intOf s11).toNat)
        case atStart => exact ⟨0, rfl, by omega, Lib.hid ⟨[], r, rfl, HB4.out, HR4.out⟩, Lib.hid (Off.refl _ _)⟩
        case round =>
          obtain ⟨j, rfl, hj', hI, hT⟩ := hrel
          obtain ⟨ysa, ra0, hn9, hb9, hr9⟩ := hI.out
          have HNa := Lib.hid hn9
          have HBa := Lib.hid hb9
          have HRa := Lib.hid hr9
          have hra0 : ra0.length ≤ 1000000000 := Nat.le_trans (many_rest _ hn9) hrl
          clear hI hn9 hb9 hr9
          have HTa := Lib.hid hT.out
          clear hT
          by_cases hjt : j < 3
          · have hj0 : (0 : Int) ≤ j := by omega
            have hj1 : (j : Int) < 3 := by omega
            go_wp2_with fail
            refine (num_any rb ra0 hra0 wr HRa.out).mono ?_
            rintro e wna ⟨hO, (⟨ya, ra, hpy, rfl, hR⟩ | ⟨hpy, rfl⟩)⟩
            case inr =>
              have hN := many_stop numC HNa.out hpy 9 (by omega)
              have HFN := Lib.hid (show Off (fun k => k = rb ∨ k = xb) w wna ∧ passlC.par l = none from ⟨HD4.out.later (HTa.out.trans (hO.mono (fun k _ e => Or.inl e))) (fun i hi e => e.elim Or.inl (fun e => by have := HTB.out.1; omega)), (listC_go HP.out).trans (many_stop passC HM.out (pairC_none1 hN) n hlt)⟩)
              clear hO hpy hN
              go_wp2_with fail
              exact ⟨rfl, HFN.out.1, Or.inr ⟨HFN.out.2, rfl⟩⟩
            have hb := hO.keep (b := tb) (by have := HTB.out.2; omega) HBa.out
            have hln : ysa.length = j * 3 := by rw [many_len _ _ _ _ _ HNa.out]
            have ka : wna.cell? ⟨tb, j * 3, none⟩ = some (.int .u64 0) := by rw [cell_at hb]; exact pasV_at (by omega) (by omega)
            have fa : wna.frozen? ⟨tb, j * 3, none⟩ = false := free_at hb
            obtain ⟨wnac, ew⟩ : ∃ wz, wna.setCell ⟨tb, j * 3, none⟩ (.int .u64 ya) = wz := ⟨_, rfl⟩
            have hpv := pasV_num (xs := ysa) (by omega) ya
            rw [hln] at hpv
            obtain ⟨ysNa, eys⟩ : ∃ z, ysa ++ [ya] = z := ⟨_, rfl⟩
            have hN2 := many_next numC HNa.out hpy
            rw [eys] at hN2 hpv
            have HBan := Lib.hid (show wnac.heap[tb]? = some (.cells (pasV ysNa []) 62 (0, 0)) by rw [← ew, heap_set hb, hpv])
            have HRan := Lib.hid (show RdrAt wnac rb ra by rw [← ew]; exact put_far hR (by have := HTB.out.2; omega))
            have HTan := Lib.hid (show Off (fun k => k = rb ∨ k = tb) w4 wnac by rw [← ew]; exact (HTa.out.trans (hO.mono (fun k _ e => Or.inl e))).trans (Off.set (S := (fun k => k = rb ∨ k = tb)) _ (Or.inr rfl) _ _))
            have HNan := Lib.hid hN2
            have hran : ra.length ≤ 1000000000 := Nat.le_trans (many_rest _ HNan.out) hrl
            have EWa := Lib.hid ew
            clear hO hpy hR hb hln ew hpv hN2 eys
            go_upto_region 8 with fail
            rw [EWa.out]
            clear ka fa
            go_wp2_with fail
            refine (num_any rb ra hran wnac HRan.out).mono ?_
            rintro e wnb ⟨hO, (⟨yb, rb2, hpy, rfl, hR⟩ | ⟨hpy, rfl⟩)⟩
            case inr =>
              have hN := many_stop numC HNan.out hpy 9 (by omega)
              have HFN := Lib.hid (show Off (fun k => k = rb ∨ k = xb) w wnb ∧ passlC.par l = none from ⟨HD4.out.later (HTan.out.trans (hO.mono (fun k _ e => Or.inl e))) (fun i hi e => e.elim Or.inl (fun e => by have := HTB.out.1; omega)), (listC_go HP.out).trans (many_stop passC HM.out (pairC_none1 hN) n hlt)⟩)
              clear hO hpy hN
              go_wp2_with fail
              exact ⟨rfl, HFN.out.1, Or.inr ⟨HFN.out.2, rfl⟩⟩
            have hb := hO.keep (b := tb) (by have := HTB.out.2; omega) HBan.out
            have hln : ysNa.length = j * 3 + 1 := by rw [many_len _ _ _ _ _ HNan.out]
            have kb : wnb.cell? ⟨tb, j * 3 + 1, none⟩ = some (.int .u64 0) := by rw [cell_at hb]; exact pasV_at (by omega) (by omega)
            have fb : wnb.frozen? ⟨tb, j * 3 + 1, none⟩ = false := free_at hb
            obtain ⟨wnbc, ew⟩ : ∃ wz, wnb.setCell ⟨tb, j * 3 + 1, none⟩ (.int .u64 yb) = wz := ⟨_, rfl⟩
            have hpv := pasV_num (xs := ysNa) (by omega) yb
            rw [hln] at hpv
            obtain ⟨ysNb, eys⟩ : ∃ z, ysNa ++ [yb] = z := ⟨_, rfl⟩
            have hN2 := many_next numC HNan.out hpy
            rw [eys] at hN2 hpv
            have HBbn := Lib.hid (show wnbc.heap[tb]? = some (.cells (pasV ysNb []) 62 (0, 0)) by rw [← ew, heap_set hb, hpv])
            have HRbn := Lib.hid (show RdrAt wnbc rb rb2 by rw [← ew]; exact put_far hR (by have := HTB.out.2; omega))
            have HTbn := Lib.hid (show Off (fun k => k = rb ∨ k = tb) w4 wnbc by rw [← ew]; exact (HTan.out.trans (hO.mono (fun k _ e => Or.inl e))).trans (Off.set (S := (fun k => k = rb ∨ k = tb)) _ (Or.inr rfl) _ _))
            have HNbn := Lib.hid hN2
            have hrbn : rb2.length ≤ 1000000000 := Nat.le_trans (many_rest _ HNbn.out) hrl
            have EWb := Lib.hid ew
            clear hO hpy hR hb hln ew hpv hN2 eys
            go_upto_region 9 with fail
            rw [EWb.out]
            clear kb fb
            go_wp2_with fail
            refine (num_any rb rb2 hrbn wnbc HRbn.out).mono ?_
            rintro e wnc ⟨hO, (⟨yc, rc, hpy, rfl, hR⟩ | ⟨hpy, rfl⟩)⟩
            case inr =>
              have hN := many_stop numC HNbn.out hpy 9 (by omega)
              have HFN := Lib.hid (show Off (fun k => k = rb ∨ k = xb) w wnc ∧ passlC.par l = none from ⟨HD4.out.later (HTbn.out.trans (hO.mono (fun k _ e => Or.inl e))) (fun i hi e => e.elim Or.inl (fun e => by have := HTB.out.1; omega)), (listC_go HP.out).trans (many_stop passC HM.out (pairC_none1 hN) n hlt)⟩)
              clear hO hpy hN
              go_wp2_with fail
              exact ⟨rfl, HFN.out.1, Or.inr ⟨HFN.out.2, rfl⟩⟩
            have hb := hO.keep (b := tb) (by have := HTB.out.2; omega) HBbn.out
            have hln : ysNb.length = j * 3 + 2 := by rw [many_len _ _ _ _ _ HNbn.out]
            have kc : wnc.cell? ⟨tb, j * 3 + 2, none⟩ = some (.int .u64 0) := by rw [cell_at hb]; exact pasV_at (by omega) (by omega)
            have fc : wnc.frozen? ⟨tb, j * 3 + 2, none⟩ = false := free_at hb
            obtain ⟨wncc, ew⟩ : ∃ wz, wnc.setCell ⟨tb, j * 3 + 2, none⟩ (.int .u64 yc) = wz := ⟨_, rfl⟩
            have hpv := pasV_num (xs := ysNb) (by omega) yc
            rw [hln] at hpv
            obtain ⟨ysNc, eys⟩ : ∃ z, ysNb ++ [yc] = z := ⟨_, rfl⟩
            have hN2 := many_next numC HNbn.out hpy
            rw [eys] at hN2 hpv
            have HBcn := Lib.hid (show wncc.heap[tb]? = some (.cells (pasV ysNc []) 62 (0, 0)) by rw [← ew, heap_set hb, hpv])
            have HRcn := Lib.hid (show RdrAt wncc rb rc by rw [← ew]; exact put_far hR (by have := HTB.out.2; omega))
            have HTcn := Lib.hid (show Off (fun k => k = rb ∨ k = tb) w4 wncc by rw [← ew]; exact (HTbn.out.trans (hO.mono (fun k _ e => Or.inl e))).trans (Off.set (S := (fun k => k = rb ∨ k = tb)) _ (Or.inr rfl) _ _))
            have HNcn := Lib.hid hN2
            have hrcn : rc.length ≤ 1000000000 := Nat.le_trans (many_rest _ HNcn.out) hrl
            have EWc := Lib.hid ew
            clear hO hpy hR hb hln ew hpv hN2 eys
            go_upto_region 10 with fail
            rw [EWc.out]
            clear kc fc
            go_wp2_with fail
            go_roundw
            case rel => exact ⟨j + 1, by go_num, by omega, Lib.hid ⟨ysNc, rc, by rw [show (j + 1) * 3 = j * 3 + 3 by omega]; exact HNcn.out, HBcn.out, HRcn.out⟩, HTcn⟩
            case measure => simp [intOf]; omega
          · obtain rfl : j = 3 := by omega
            obtain ⟨wa, rfl⟩ : ∃ wz, wz = wr := ⟨_, rfl⟩
            have H9 := Lib.hid (many_len _ _ _ _ _ HNa.out)
            have HF := Lib.hid (show (fixC 9 numC).par r = some (ysa, ra0) from HNa.out)
            clear hj'
            rw [show ((3 : Nat) : Int) = 3 from rfl]
            go_wp2_with fail
            go_loopw [33] (fun s33 wr => ∃ j : Nat, s33 = .int .i64 j ∧ j ≤ 3 ∧ Hid (∃ ps ss ra, many proofC j ra0 = some (ps, ra) ∧ PrV wr w4.heap.size ss ps ∧ wr.heap[tb]? = some (.cells (pasV ysa ss) 62 (0, 0)) ∧ RdrAt wr rb ra) ∧ Hid (Off (fun k => k = rb ∨ k = tb) w4 wr)) (fun s33 _ => 3 - (intOf s33).toNat)
            case atStart => exact ⟨0, rfl, by omega, Lib.hid ⟨[], [], ra0, rfl, .nil, HBa.out, HRa.out⟩, HTa⟩
            case round =>
              obtain ⟨j, rfl, hj', hI, hT⟩ := hrel
              obtain ⟨ps, ss, ra, hn9, ho9, hb9, hr9⟩ := hI.out
              have HNp := Lib.hid hn9
              have HOp := Lib.hid ho9
              have HBp := Lib.hid hb9
              have HRp := Lib.hid hr9
              have hra : ra.length ≤ 1000000000 := Nat.le_trans (many_rest _ hn9) hra0
              have HL3 := Lib.hid (And.intro (many_len _ _ _ _ _ hn9) ho9.len)
              have HTp := Lib.hid hT.out
              clear hI hn9 hb9 hr9 ho9 hT
              by_cases hjt : j < 3
              · have hj0 : (0 : Int) ≤ j := by omega
                have hj1 : (j : Int) < 3 := by omega
                go_wp2_with fail
                refine (rproof_any rb ra hra wr HRp.out).mono ?_
                rintro e wp ⟨hO, (⟨p, rp, a1, n1, c1, a2, n2, c2, hpy, rfl, hR, ho1, ho2⟩ | ⟨hpy, rfl⟩)⟩
                case inr =>
                  have hN := many_stop proofC HNp.out hpy 3 hjt
                  have HFN := Lib.hid (show Off (fun k => k = rb ∨ k = xb) w wp ∧ passlC.par l = none from ⟨HD4.out.later (HTp.out.trans (hO.mono (fun k _ e => Or.inl e))) (fun i hi e => e.elim Or.inl (fun e => by have := HTB.out.1; omega)), (listC_go HP.out).trans (many_stop passC HM.out (pairC_none2 HF.out hN) n hlt)⟩)
                  clear hO hpy hN
                  go_wp2_with fail
                  exact ⟨rfl, HFN.out.1, Or.inr ⟨HFN.out.2, rfl⟩⟩
                have hb := hO.keep (b := tb) (by have := HTB.out.2; omega) HBp.out
                have hls : ss.length = j * 2 := by rw [HL3.out.2, HL3.out.1]
                have k1 : wp.cell? ⟨tb, 9 + j * 2, none⟩ = some (.slice none 0 0) := by rw [cell_at hb]; exact pasV_sat H9.out (by omega) (by omega)
                have f1 : wp.frozen? ⟨tb, 9 + j * 2, none⟩ = false := free_at hb
                have k2 : wp.cell? ⟨tb, 9 + j * 2 + 1, none⟩ = some (.slice none 0 0) := by rw [cell_at hb]; exact pasV_sat (i := j * 2 + 1) H9.out (by omega) (by omega)
                have f2 : wp.frozen? ⟨tb, 9 + j * 2 + 1, none⟩ = false := free_at hb
                obtain ⟨wpc, ew⟩ : ∃ wz, (wp.setCell ⟨tb, 9 + j * 2, none⟩ (.slice a1 n1 c1)).setCell ⟨tb, 9 + j * 2 + 1, none⟩ (.slice a2 n2 c2) = wz := ⟨_, rfl⟩
                have hp1 := pasV_sl H9.out (ss := ss) (by omega) (.slice a1 n1 c1)
                rw [hls] at hp1
                have hp2 := pasV_sl H9.out (ss := ss ++ [.slice a1 n1 c1]) (by rw [List.length_append]; simp; omega) (.slice a2 n2 c2)
                rw [List.length_append, hls] at hp2
                have hb1 := heap_set (o := 9 + j * 2) hb (.slice a1 n1 c1)
                have h4z : w4.heap.size ≤ wr.heap.size := HTp.out.size
                have HFIN := Lib.hid (show ∃ ps ss r', many proofC (j + 1) ra0 = some (ps, r') ∧ PrV wpc w4.heap.size ss ps ∧ wpc.heap[tb]? = some (.cells (pasV ysa ss) 62 (0, 0)) ∧ RdrAt wpc rb r' from by
                  rw [← ew]
                  refine ⟨_, (ss ++ [.slice a1 n1 c1]) ++ [.slice a2 n2 c2], rp, many_next proofC HNp.out hpy, ?_, ?_, put_far (put_far hR (by have := HTB.out.2; omega)) (by have := HTB.out.2; omega)⟩
                  · have hq : PrV wp w4.heap.size (ss ++ [.slice a1 n1 c1, .slice a2 n2 c2]) (ps ++ [p]) := .snoc (HOp.out.map (fun v xs o => o.off hO (fun b hb e => by have := HTB.out.2; have := ETB.out; have := HS4.out.size; omega))) (ho1.down h4z) (ho2.down h4z)
                    rw [List.append_assoc]
                    exact hq.map (fun v xs o => (o.put hb (by decide)).put hb1 (by decide))
                  · rw [heap_set hb1, hp1, show 9 + j * 2 + 1 = 9 + (j * 2 + 1) by omega]
                    exact congrArg (fun z => some (Obj.cells z 62 (0, 0))) hp2)
                have HTn := Lib.hid (show Off (fun k => k = rb ∨ k = tb) w4 wpc by rw [← ew]; exact ((HTp.out.trans (hO.mono (fun k _ e => Or.inl e))).trans (Off.set (S := (fun k => k = rb ∨ k = tb)) _ (Or.inr rfl) _ _)).trans (Off.set (S := (fun k => k = rb ∨ k = tb)) _ (Or.inr rfl) _ _))
                have EW := Lib.hid ew
                clear hO hpy hR hb hls ew hp1 hp2 hb1 h4z ho1 ho2
                go_upto_region 15 with fail
                rw [EW.out]
                clear k1 f1 k2 f2
                go_wp2_with fail
                go_roundw
                case rel => exact ⟨j + 1, by go_num, by omega, HFIN, HTn⟩
                case measure => simp [intOf]; omega
              · obtain rfl : j = 3 := by omega
                obtain ⟨wf, rfl⟩ : ∃ wz, wz = wr := ⟨_, rfl⟩
                obtain ⟨p0, m0, d0, p1, m1, d1, p2, m2, d2, p3, m3, d3, p4, m4, d4, p5, m5, d5, q0, q1, q2, rfl, rfl, _⟩ := HOp.out.three HL3.out.1
                obtain ⟨x0, x1, x2, x3, x4, x5, x6, x7, x8, rfl⟩ := nine H9.out
                have HBf := Lib.hid (show wf.heap[tb]? = some (.cells #[.int .u64 x0, .int .u64 x1, .int .u64 x2, .int .u64 x3, .int .u64 x4, .int .u64 x5, .int .u64 x6, .int .u64 x7, .int .u64 x8, .slice p0 m0 d0, .slice p1 m1 d1, .slice p2 m2 d2, .slice p3 m3 d3, .slice p4 m4 d4, .slice p5 m5 d5] 62 (0, 0)) from HBp.out)
                have HDf := Lib.hid (HD4.out.later HTp.out (fun i hi e => e.elim Or.inl (fun e => by have := HTB.out.1; omega)))
                have HMf := Lib.hid (HTp.out.keep (b := xb) (fun e => by have h1 := HRB.out.2.1; have h2 := HTB.out.1; rcases e with e | e; exact HRB.out.2.2 e.symm; omega) HM4.out)
                have HOf := Lib.hid ((HOW.out.off2 (Off.of_same (S := (fun k => k = rb ∨ k = tb)) HS4.out |>.trans HTp.out) (fun b hb hb2 e => by have := HRB.out.1; have := ETB.out; rcases e with e | e <;> omega)))
                have HPM := Lib.hid (many_next passC HM.out (pairC_some HF.out (show (fixC 3 proofC).par ra0 = some ([q0, q1, q2], ra) from HNp.out)))
                have hlo4 : w.heap.size ≤ w4.heap.size := HD4.out.size
                have HPR := Lib.hid (HOp.out.map (fun v xs o => o.down hlo4))
                clear hlo4
                have g0 : wf.cell? ⟨tb, 0, none⟩ = some (.int .u64 x0) := by rw [cell_at HBf.out]; rfl
                have g1 : wf.cell? ⟨tb, 1, none⟩ = some (.int .u64 x1) := by rw [cell_at HBf.out]; rfl
                have g2 : wf.cell? ⟨tb, 2, none⟩ = some (.int .u64 x2) := by rw [cell_at HBf.out]; rfl
                have g3 : wf.cell? ⟨tb, 3, none⟩ = some (.int .u64 x3) := by rw [cell_at HBf.out]; rfl
                have g4 : wf.cell? ⟨tb, 4, none⟩ = some (.int .u64 x4) := by rw [cell_at HBf.out]; rfl
                have g5 : wf.cell? ⟨tb, 5, none⟩ = some (.int .u64 x5) := by rw [cell_at HBf.out]; rfl
                have g6 : wf.cell? ⟨tb, 6, none⟩ = some (.int .u64 x6) := by rw [cell_at HBf.out]; rfl
                have g7 : wf.cell? ⟨tb, 7, none⟩ = some (.int .u64 x7) := by rw [cell_at HBf.out]; rfl
                have g8 : wf.cell? ⟨tb, 8, none⟩ = some (.int .u64 x8) := by rw [cell_at HBf.out]; rfl
                have g9 : wf.cell? ⟨tb, 9, none⟩ = some (.slice p0 m0 d0) := by rw [cell_at HBf.out]; rfl
                have g10 : wf.cell? ⟨tb, 10, none⟩ = some (.slice p1 m1 d1) := by rw [cell_at HBf.out]; rfl
                have g11 : wf.cell? ⟨tb, 11, none⟩ = some (.slice p2 m2 d2) := by rw [cell_at HBf.out]; rfl
                have g12 : wf.cell? ⟨tb, 12, none⟩ = some (.slice p3 m3 d3) := by rw [cell_at HBf.out]; rfl
                have g13 : wf.cell? ⟨tb, 13, none⟩ = some (.slice p4 m4 d4) := by rw [cell_at HBf.out]; rfl
                have g14 : wf.cell? ⟨tb, 14, none⟩ = some (.slice p5 m5 d5) := by rw [cell_at HBf.out]; rfl
                have cx : wf.cell? ⟨xb, 0, none⟩ = some (.slice va vn vc) := by rw [cell_at HMf.out]; rfl
                have hS7 : Same wf (wf.alloc (.cells #[.int .u64 x0, .int .u64 x1, .int .u64 x2, .int .u64 x3, .int .u64 x4, .int .u64 x5, .int .u64 x6, .int .u64 x7, .int .u64 x8, .slice p0 m0 d0, .slice p1 m1 d1, .slice p2 m2 d2, .slice p3 m3 d3, .slice p4 m4 d4, .slice p5 m5 d5] 62)) := (Same.refl wf).alloc _
                obtain ⟨v', w8, hr8, ho8, hg8, hrow8⟩ := OwnP.push (HOf.out.off2 (Off.of_same (S := fun _ => False) hS7) (fun _ _ _ e => e)) (by rw [HLX.out]; omega) (Nat.le_trans HDf.out.size hS7.size) (x := ([x0, x1, x2, x3, x4, x5, x6, x7, x8], [q0, q1, q2])) rfl rfl (HPR.out.map (fun v xs o => o.off2 (Off.of_same (S := fun _ => False) hS7) (fun _ _ _ e => e))) 51 (ad := ⟨wf.heap.size, 0, none⟩) (cells_new wf [.int .u64 x0, .int .u64 x1, .int .u64 x2, .int .u64 x3, .int .u64 x4, .int .u64 x5, .int .u64 x6, .int .u64 x7, .int .u64 x8, .slice p0 m0 d0, .slice p1 m1 d1, .slice p2 m2 d2, .slice p3 m3 d3, .slice p4 m4 d4, .slice p5 m5 d5] 62)
                obtain ⟨va8, vn8, vc8, rfl⟩ := ho8.form
                have hM8 := grown_keep hg8 (hS7.keep HMf.out) (fun k hk => by have := (hrow8 k hk).1; have := HRB.out.2.1; omega)
                have hR8 := grown_keep hg8 (hS7.keep HRp.out) (fun k hk => by have := (hrow8 k hk).1; have := HRB.out.1; omega)
                have hD8 := (HDf.out.trans (Off.of_same hS7)).grown hg8 (fun k hk => (hrow8 k hk).1)
                have HFIN := Lib.hid (show ∃ ls r v, many passC (i + 1) l1 = some (ls, r) ∧ OwnP (w8.setCell ⟨xb, 0, none⟩ (.slice va8 vn8 vc8)) w.heap.size v ls ∧ RdrAt (w8.setCell ⟨xb, 0, none⟩ (.slice va8 vn8 vc8)) rb r ∧ PxAt (w8.setCell ⟨xb, 0, none⟩ (.slice va8 vn8 vc8)) xb v from
                  ⟨_, _, _, HPM.out, OwnP.put ho8 hM8 (by decide) (by decide), put_far hR8 HRB.out.2.2, heap_set hM8 _⟩)
                have HD9 := Lib.hid (hD8.trans (Off.set (S := (fun k => k = rb ∨ k = xb)) _ (Or.inr rfl) 0 (.slice va8 vn8 vc8)))
                have c8 : w8.cell? ⟨xb, 0, none⟩ = some (.slice va vn vc) := by rw [cell_at hM8]; rfl
                have f8 : w8.frozen? ⟨xb, 0, none⟩ = false := free_at hM8
                clear hM8 hR8 hD8 ho8 hg8 hrow8 hS7
                go_wp2_with (first
                  | (at_builtin; refine wpList_append_run rfl _ _ _ rfl _ rfl _ rfl hr8 ?_))
                go_roundw
                case rel => exact ⟨i + 1, by go_num, by omega, HFIN, HD9⟩
                case measure => simp [intOf]; omega
      · obtain rfl : n = i := by omega
        go_wp2_with fail
        exact ⟨rfl, _, results_none rfl _ _ _, hD.out, Or.inl ⟨ls, r, (listC_go HP.out).trans HM.out, rfl, HRR.out, ⟨⟨va, vn, vc, HMX.out, HOW.out⟩⟩⟩⟩
end Go.Proofs.Ytdbhcdhenapfoaa
