/- Layer 14: the rounds that an office keeps. -/
import Derived.Test.YtchmhpfccanamaaDropB
set_option linter.unusedVariables false
set_option linter.unusedSimpArgs false
namespace Go.Proofs.Ytchmhpfccanamaa
open Go.RowKit Go.Maps
abbrev rd0 : Rnd := (0, fun _ => [])
/-- the slice kv is the rounds R; its block is one of the call's own -/
structure KeptAt (w : World) (B : Nat) (kv : Value) (R : List Rnd) : Prop where
  ex : (kv = .slice none 0 0 ∧ R = []) ∨ ∃ g off cap cur, kv = .slice (some ⟨g, off, none⟩) R.length cap ∧ B ≤ g ∧ w.heap[g]? = some (.cells cur 58 (0, 0)) ∧ R.length ≤ cap ∧ cap ≤ maxLen ∧ off + cap * 2 ≤ cur.size ∧
    ∀ i, i < R.length → ∃ m, cur[off + i * 2]? = some (.int .i64 (R.getD i rd0).1) ∧ cur[off + i * 2 + 1]? = some (.map (some m)) ∧ FinB w m (R.getD i rd0).2
theorem cell_at {w : World} {g o : Nat} {cur : Array Value} {t : TypeId} {f : Nat × Nat} (h : w.heap[g]? = some (.cells cur t f)) : w.cell? ⟨g, o, none⟩ = cur[o]? := by simp [World.cell?, h]
theorem free_at {w : World} {g o : Nat} {cur : Array Value} {t : TypeId} (h : w.heap[g]? = some (.cells cur t (0, 0))) : w.frozen? ⟨g, o, none⟩ = false := by simp [World.frozen?, h]
theorem heap_set {w : World} {g o : Nat} {cur : Array Value} {t : TypeId} {f : Nat × Nat} (h : w.heap[g]? = some (.cells cur t f)) (v : Value) : (w.setCell ⟨g, o, none⟩ v).heap[g]? = some (.cells (cur.setIfInBounds o v) t f) := by
  have hlt := (Array.getElem?_eq_some_iff.1 h).1
  have h' : w.heap[g] = .cells cur t f := (Array.getElem?_eq_some_iff.1 h).2
  show (w.heap.modify g _)[g]? = _
  rw [Array.getElem?_eq_getElem (by simpa using hlt), Array.getElem_modify_self, h']
  rfl
theorem heap_far (w : World) {g o k : Nat} (hk : k ≠ g) (v : Value) : (w.setCell ⟨g, o, none⟩ v).heap[k]? = w.heap[k]? := by
  show (w.heap.modify g _)[k]? = _
  rw [Array.getElem?_modify]
  split
  · rename_i e; exact absurd e.symm hk
  · rfl
/-- all but rounds from B on is as it was -/
structure Off58 (B : Nat) (w w' : World) : Prop where
  below : Below B w w'
  keep : ∀ (k : Nat) (o : Obj), w.heap[k]? = some o → (∀ cur f, o ≠ .cells cur 58 f) → w'.heap[k]? = some o
theorem Off58.toKeep {B : Nat} {w w' : World} (h : Off58 B w w') : Keep w w' := fun k o hk _ h2 => h.keep k o hk h2
theorem KeptAt.keep {w w' : World} {B : Nat} {kv : Value} {R : List Rnd} (h : KeptAt w B kv R) (hs : Same w w') : KeptAt w' B kv R := by
  rcases h.ex with h1 | ⟨g, off, cap, cur, h1, h2, h3, h4, h5, h6, h7⟩
  · exact ⟨.inl h1⟩
  · refine ⟨.inr ⟨g, off, cap, cur, h1, h2, ?_, h4, h5, h6, fun i hi => ?_⟩⟩
    · rw [hs.block g (Array.getElem?_eq_some_iff.1 h3).1]; exact h3
    · obtain ⟨m, a, b, c⟩ := h7 i hi
      exact ⟨m, a, b, c.keep (Keep.of_same hs)⟩
theorem KeptAt.far {w : World} {B b o : Nat} {kv : Value} {R : List Rnd} {cur : Array Value} {f : Nat × Nat} (h : KeptAt w B kv R) (hb : w.heap[b]? = some (.cells cur 55 f)) (x : Value) : KeptAt (w.setCell ⟨b, o, none⟩ x) B kv R := by
  have hk : Keep w (w.setCell ⟨b, o, none⟩ x) := fun k ob hk h1 h2 => by
    rw [heap_far w (fun e => by subst e; rw [hb] at hk; injection hk with e; exact h1 _ _ e.symm)]; exact hk
  rcases h.ex with h1 | ⟨g, off, cap, cur, h1, h2, h3, h4, h5, h6, h7⟩
  · exact ⟨.inl h1⟩
  · refine ⟨.inr ⟨g, off, cap, cur, h1, h2, ?_, h4, h5, h6, fun i hi => ?_⟩⟩
    · rw [heap_far w (fun e => by subst e; rw [hb] at h3; cases h3)]; exact h3
    · obtain ⟨m, a, b, c⟩ := h7 i hi
      exact ⟨m, a, b, c.keep hk⟩
theorem KeptAt.of_row {w : World} {B : Nat} {v : Value} {R : List Rnd} {xs : List Value} (h : w.ownsRow B 58 2 v R.length xs) (hne : 0 < R.length)
    (hx : ∀ i, i < R.length → ∃ m, xs[i * 2]? = some (.int .i64 (R.getD i rd0).1) ∧ xs[i * 2 + 1]? = some (.map (some m)) ∧ FinB w m (R.getD i rd0).2) : KeptAt w B v R ∧ ∃ g cap, v = .slice (some ⟨g, 0, none⟩) R.length cap := by
  obtain ⟨hl, h1 | ⟨g, cap, cur, hv, hb, hh, hn, hm, hs, ht⟩⟩ := h
  · omega
  · refine ⟨⟨.inr ⟨g, 0, cap, cur, hv, hb, hh, hn, hm, by omega, fun i hi => ?_⟩⟩, g, cap, hv⟩
    obtain ⟨m, a, b, c⟩ := hx i hi
    rw [← ht] at a b
    rw [List.getElem?_take_of_lt (by omega)] at a b
    exact ⟨m, by rw [Nat.zero_add]; simpa using a, by rw [Nat.zero_add]; simpa using b, c⟩
theorem getD_snoc {α : Type} {l : List α} {x d : α} {i : Nat} (hi : i < l.length + 1) : (l ++ [x]).getD i d = if i < l.length then l.getD i d else x := by
  by_cases h : i < l.length
  · rw [if_pos h]; simp [List.getD, List.getElem?_append, h]
  · rw [if_neg h]
    obtain rfl : i = l.length := by omega
    simp [List.getD]
theorem info_round : (Try.prog.info? 58).map (fun i => (i.zero, i.size, i.bytes)) = some (some (.agg #[.int .i64 0, .map none]), 2, 16) := by kernel_rfl
theorem info_body : (Try.prog.info? 32).map (fun i => (i.zero, i.size, i.bytes)) = some (some (.agg #[.int .u64 0, .int .u64 0]), 2, 16) := by kernel_rfl
theorem KeptAt.push {w : World} {B : Nat} {kv : Value} {R : List Rnd} (h : KeptAt w B kv R) (hB : B ≤ w.heap.size) (hR : R.length ≤ 1000) {a : Addr} {c m : Nat} {num : Int} {L : Plc} (hc0 : w.cell? (a.add 0) = some (.int .i64 num)) (hc1 : w.cell? (a.add 1) = some (.map (some m))) (hf : FinB w m L) (ty : TypeId) :
    ∃ g off cap w', (Builtin.append_ #[48, 48] ty #[kv, .slice (some a) 1 c]).run Try.prog w = .ok (.slice (some ⟨g, off, none⟩) (R.length + 1) cap) w' ∧ KeptAt w' B (.slice (some ⟨g, off, none⟩) (R.length + 1) cap) (R ++ [(num, L)]) ∧ Off58 B w w' ∧ w.grownBy w' kv.ownBlock := by
  obtain ⟨i0, hi, hz0, hz1, hz2⟩ := info_parts info_round
  have hnews : ∀ j u, [Value.int .i64 num, .map (some m)][j]? = some u → w.cell? (a.add j) = some u := by
    intro j u hj
    match j, hj with
    | 0, hj => simp at hj; subst hj; exact hc0
    | 1, hj => simp at hj; subst hj; exact hc1
  have h1c : ∀ u ∈ [Value.int .i64 num, .map (some m)], u.oneCell' = true := by
    intro u hu
    simp at hu
    rcases hu with rfl | rfl <;> rfl
  have hlen : (R ++ [(num, L)]).length = R.length + 1 := by simp
  rcases h.ex with ⟨h1, h2⟩ | ⟨g, off, cap, cur, h1, h2, h3, h4, h5, h6, h7⟩
  · subst h1 h2
    obtain ⟨v', w', hr, ho, hg, _, _⟩ := run_append_own_at (P := Try.prog) w B 48 ty 58 i0 _ 2 16 Try.underlying48 hi hz0 hz1 hz2 rfl (by decide) (.slice none 0 0) 0 [] (World.ownsRow_nil _ _ _ _) a 1 c [.int .i64 num, .map (some m)] rfl hnews h1c (by decide) (by decide) hB
    have hoff : Off58 B w w' := ⟨⟨hg.os, hg.tape, hg.output, hg.size, fun k hk => hg.block k (by omega) (by simp [Value.ownBlock])⟩, fun k o hk _ => by rw [hg.block k (Array.getElem?_eq_some_iff.1 hk).1 (by simp [Value.ownBlock])]; exact hk⟩
    obtain ⟨hk, g, cap, hv⟩ := KeptAt.of_row (R := [] ++ [(num, L)]) (B := B) ho (by simp) (fun i hi => by
      have hi0 : i = 0 := by simpa using hi
      subst hi0
      exact ⟨m, rfl, rfl, hf.keep hoff.toKeep⟩)
    subst hv
    exact ⟨g, 0, cap, w', hr, hk, hoff, hg⟩
  · subst h1
    have hcell : ∀ j, j < R.length * 2 → w.cell? ⟨g, off + j, none⟩ = cur[off + j]? := fun j _ => cell_at h3
    by_cases hroom : R.length + 1 ≤ cap
    · have hr := run_append_room_cells (P := Try.prog) w 48 ty 58 i0 Try.underlying48 hi g off R.length cap a 1 c [.int .i64 num, .map (some m)] (by rw [hz1]; rfl) hnews h1c hroom
        (fun j hj => by
          rw [cell_at h3, hz1]
          have : off + R.length * 2 + j < cur.size := by simp at hj; omega
          simp [Array.getElem?_eq_getElem this])
        (fun j hj => free_at h3)
      rw [hz1] at hr
      have hh1 := heap_set (o := off + R.length * 2) h3 (.int .i64 num)
      have hh2 := heap_set (o := off + R.length * 2 + 1) hh1 (.map (some m))
      have hw : ∀ k, k ≠ g → (w.setCells g (off + R.length * 2) [.int .i64 num, .map (some m)]).heap[k]? = w.heap[k]? := by
        intro k hk
        show ((w.setCell _ _).setCell _ _).heap[k]? = _
        rw [heap_far _ hk, heap_far _ hk]
      have hoff : Off58 B w (w.setCells g (off + R.length * 2) [.int .i64 num, .map (some m)]) := by
        refine ⟨⟨rfl, rfl, rfl, ?_, fun k hk => hw k (by omega)⟩, fun k o hk hno => ?_⟩
        · show _ ≤ ((w.setCell _ _).setCell _ _).heap.size
          simp [World.setCell]
        · rw [hw k (fun e => by subst e; rw [h3] at hk; injection hk with hk; exact hno _ _ hk.symm)]
          exact hk
      refine ⟨g, off, cap, _, hr, ⟨.inr ⟨g, off, cap, _, by rw [hlen], h2, hh2, by rw [hlen]; exact hroom, h5, by simpa using h6, fun i hi => ?_⟩⟩, hoff, ⟨rfl, rfl, rfl, hoff.below.size, fun k hk hne => hw k (fun e => hne (by rw [e]; rfl))⟩⟩
      rw [hlen] at hi
      rw [getD_snoc hi]
      by_cases hlt : i < R.length
      · rw [if_pos hlt]
        obtain ⟨m', a', b', c'⟩ := h7 i hlt
        refine ⟨m', ?_, ?_, c'.keep hoff.toKeep⟩
        · rw [Array.getElem?_setIfInBounds_ne (by omega), Array.getElem?_setIfInBounds_ne (by omega)]; exact a'
        · rw [Array.getElem?_setIfInBounds_ne (by omega), Array.getElem?_setIfInBounds_ne (by omega)]; exact b'
      · rw [if_neg hlt]
        obtain rfl : i = R.length := by omega
        refine ⟨m, ?_, ?_, hf.keep hoff.toKeep⟩
        · rw [Array.getElem?_setIfInBounds_ne (by omega), Array.getElem?_setIfInBounds_self_of_lt (by omega)]
        · rw [Array.getElem?_setIfInBounds_self_of_lt (by simp; omega)]
    · have hlo : ((cur.toList.drop off).take (R.length * 2)).length = R.length * 2 := by simp; omega
      obtain ⟨v', w', hr, ho, hg⟩ := run_append_arg_grows (P := Try.prog) w 48 ty 58 i0 _ 2 16 Try.underlying48 hi hz0 hz1 hz2 rfl (by decide) ⟨g, off, none⟩ R.length cap ((cur.toList.drop off).take (R.length * 2)) hlo
        (fun j u hj => by
          have hj2 : j < R.length * 2 := by
            rcases Nat.lt_or_ge j (R.length * 2) with h | h
            · exact h
            · rw [List.getElem?_eq_none (by omega)] at hj; cases hj
          rw [List.getElem?_take_of_lt hj2, List.getElem?_drop] at hj
          rw [Addr.add_lit, cell_at h3]; simpa using hj) a 1 c [.int .i64 num, .map (some m)] rfl hnews (by omega) (by unfold maxLen; omega) (by omega)
      have hoff : Off58 B w w' := ⟨⟨hg.os, hg.tape, hg.output, hg.size, fun k hk => hg.block k (by omega) (by simp)⟩, fun k o hk _ => by rw [hg.block k (Array.getElem?_eq_some_iff.1 hk).1 (by simp)]; exact hk⟩
      have ho2 : w'.ownsRow B 58 2 v' (R ++ [(num, L)]).length ((cur.toList.drop off).take (R.length * 2) ++ [.int .i64 num, .map (some m)]) := by
        rw [hlen]
        obtain ⟨hl, k1 | ⟨g', cap', cur', hv, hb, hh⟩⟩ := ho
        · exact ⟨hl, .inl k1⟩
        · exact ⟨hl, .inr ⟨g', cap', cur', hv, by omega, hh⟩⟩
      obtain ⟨hk, g', cap', hv⟩ := KeptAt.of_row (R := R ++ [(num, L)]) (B := B) ho2 (by simp) (fun i hi => by
        rw [hlen] at hi
        rw [getD_snoc hi]
        by_cases hlt : i < R.length
        · rw [if_pos hlt]
          obtain ⟨m', a', b', c'⟩ := h7 i hlt
          refine ⟨m', ?_, ?_, c'.keep hoff.toKeep⟩
          · rw [List.getElem?_append_left (by omega), List.getElem?_take_of_lt (by omega), List.getElem?_drop]; simpa using a'
          · rw [List.getElem?_append_left (by omega), List.getElem?_take_of_lt (by omega), List.getElem?_drop, ← Nat.add_assoc]; simpa using b'
        · rw [if_neg hlt]
          obtain rfl : i = R.length := by omega
          refine ⟨m, ?_, ?_, hf.keep hoff.toKeep⟩
          · rw [List.getElem?_append_right (by omega), hlo]; simp
          · rw [List.getElem?_append_right (by omega), hlo]; simp)
      rw [hlen] at hv
      subst hv
      exact ⟨g', 0, cap', w', hr, hk, hoff, ⟨hg.os, hg.tape, hg.output, hg.size, fun k hk _ => hg.block k hk (by simp)⟩⟩
theorem KeptAt.cut {w : World} {B g off cap lo : Nat} {R : List Rnd} (h : KeptAt w B (.slice (some ⟨g, off, none⟩) R.length cap) R) (hlo : lo ≤ R.length) :
    KeptAt w B (.slice (some ⟨g, off + lo * 2, none⟩) (R.length - lo) (cap - lo)) (R.drop lo) := by
  rcases h.ex with ⟨h1, _⟩ | ⟨g', off', cap', cur, h1, h2, h3, h4, h5, h6, h7⟩
  · cases h1
  · injection h1 with e1 e2 e3
    injection e1 with e1
    injection e1 with e1 e4 e5
    subst e1 e3 e4
    refine ⟨.inr ⟨g, off + lo * 2, cap - lo, cur, by rw [List.length_drop], h2, h3, by rw [List.length_drop]; omega, by omega, by omega, fun i hi => ?_⟩⟩
    rw [List.length_drop] at hi
    obtain ⟨m, a, b, c⟩ := h7 (lo + i) (by omega)
    have e : (R.drop lo).getD i rd0 = R.getD (lo + i) rd0 := by simp [List.getD]
    rw [e, show off + lo * 2 + i * 2 = off + (lo + i) * 2 by omega]
    exact ⟨m, a, b, c⟩
theorem Keep.far {w : World} {b o : Nat} {cur : Array Value} {f : Nat × Nat} (hb : w.heap[b]? = some (.cells cur 55 f)) (x : Value) : Keep w (w.setCell ⟨b, o, none⟩ x) := fun k ob hk h1 h2 => by
  rw [heap_far w (fun e => by subst e; rw [hb] at hk; injection hk with e; exact h1 _ _ e.symm)]; exact hk
/-- an office -/
structure OffAt (w : World) (B ob : Nat) (R : List Rnd) (cnt : Int) : Prop where
  ex : ∃ kv, w.heap[ob]? = some (.cells #[kv, .int .i64 cnt] 55 (0, 0)) ∧ B ≤ ob ∧ KeptAt w B kv R
theorem OffAt.same {w w' : World} {B ob : Nat} {R : List Rnd} {cnt : Int} (h : OffAt w B ob R cnt) (hs : Same w w') : OffAt w' B ob R cnt := by
  obtain ⟨kv, h1, h2, h3⟩ := h.ex
  exact ⟨kv, by rw [hs.block ob (Array.getElem?_eq_some_iff.1 h1).1]; exact h1, h2, h3.keep hs⟩
end Go.Proofs.Ytchmhpfccanamaa
