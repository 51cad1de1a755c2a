/- Layer 10: slices of letters, of boxes, of what is passed, gathered by append. -/
import Derived.Test.YtdbhcdhenapfoaaWireL
set_option linter.unusedVariables false
set_option linter.unusedSimpArgs false
namespace Go.Proofs.Ytdbhcdhenapfoaa
open Go.RowKit Go.Maps
theorem OwnI.grow {w w' : World} {base : Nat} {v : Value} {xs : List Int} {row : Option Nat} (h : OwnI w base v xs) (hg : w.grownBy w' row) (hr : ∀ k, row = some k → ∃ cur t f, w.heap[k]? = some (.cells cur t f) ∧ t ≠ 33) : OwnI w' base v xs := by
  refine ⟨?_, h.u, h.small⟩
  obtain ⟨hl, h1 | ⟨g, cap, cur', hv, hbs, hh, r⟩⟩ := h.own
  · exact ⟨hl, .inl h1⟩
  · refine ⟨hl, .inr ⟨g, cap, cur', hv, hbs, ?_, r⟩⟩
    rw [hg.block g (Array.getElem?_eq_some_iff.1 hh).1 (fun e => by
      obtain ⟨cur, t, f, h2, ht⟩ := hr g e.symm
      rw [hh] at h2; injection h2 with e; injection e with _ e _; exact ht e.symm)]
    exact hh
/-- the cells of letters -/
inductive LetV (w : World) (lo : Nat) : List Value → List LetterD → Prop
  | nil : LetV w lo [] []
  | snoc {vs : List Value} {ls : List LetterD} {x0 x1 x2 x3 x4 x5 : Int} {a1 a2 : Option Addr} {n1 c1 n2 c2 : Nat} {x : LetterD} (h : LetV w lo vs ls) (e : x.1 = [x0, x1, x2, x3, x4, x5]) (o1 : OwnI w lo (.slice a1 n1 c1) x.2.1) (o2 : OwnI w lo (.slice a2 n2 c2) x.2.2) :
      LetV w lo (vs ++ [.int .u64 x0, .int .u64 x1, .int .u64 x2, .int .u64 x3, .int .u64 x4, .int .u64 x5, .slice a1 n1 c1, .slice a2 n2 c2]) (ls ++ [x])
theorem LetV.len {w : World} {lo : Nat} {vs : List Value} {ls : List LetterD} (h : LetV w lo vs ls) : vs.length = ls.length * 8 := by
  induction h with
  | nil => rfl
  | snoc h e o1 o2 ih => rw [List.length_append, List.length_append, ih]; simp; omega
theorem LetV.map {w w' : World} {lo lo' : Nat} {vs : List Value} {ls : List LetterD} (h : LetV w lo vs ls) (k : ∀ v xs, OwnI w lo v xs → OwnI w' lo' v xs) : LetV w' lo' vs ls := by
  induction h with
  | nil => exact .nil
  | snoc h e o1 o2 ih => exact .snoc ih e (k _ _ o1) (k _ _ o2)
theorem LetV.at {w : World} {lo : Nat} {vs : List Value} {ls : List LetterD} (h : LetV w lo vs ls) : ∀ i, i < ls.length → ∃ x0 x1 x2 x3 x4 x5 a1 n1 c1 a2 n2 c2, (ls.getD i ([], [], [])).1 = [x0, x1, x2, x3, x4, x5] ∧
    (∀ j, j < 8 → vs[i * 8 + j]? = [Value.int .u64 x0, .int .u64 x1, .int .u64 x2, .int .u64 x3, .int .u64 x4, .int .u64 x5, .slice a1 n1 c1, .slice a2 n2 c2][j]?) ∧ OwnI w lo (.slice a1 n1 c1) (ls.getD i ([], [], [])).2.1 ∧ OwnI w lo (.slice a2 n2 c2) (ls.getD i ([], [], [])).2.2 := by
  induction h with
  | nil => intro i hi; simp at hi
  | @snoc vs ls x0 x1 x2 x3 x4 x5 a1 a2 n1 c1 n2 c2 x h e o1 o2 ih =>
    intro i hi
    have hl := h.len
    by_cases hlt : i < ls.length
    · obtain ⟨y0, y1, y2, y3, y4, y5, b1, m1, d1, b2, m2, d2, k1, k2, k3, k4⟩ := ih i hlt
      have eg : (ls ++ [x]).getD i ([], [], []) = ls.getD i ([], [], []) := by simp [List.getD, List.getElem?_append, hlt]
      rw [eg]
      exact ⟨y0, y1, y2, y3, y4, y5, b1, m1, d1, b2, m2, d2, k1, fun j hj => by rw [List.getElem?_append_left (by omega)]; exact k2 j hj, k3, k4⟩
    · obtain rfl : i = ls.length := by rw [List.length_append] at hi; simp at hi; omega
      have eg : (ls ++ [x]).getD ls.length ([], [], []) = x := by simp [List.getD]
      rw [eg]
      exact ⟨x0, x1, x2, x3, x4, x5, a1, n1, c1, a2, n2, c2, e, fun j hj => by rw [List.getElem?_append_right (by omega), hl, Nat.add_sub_cancel_left], o1, o2⟩
/-- a slice that owns letters -/
structure OwnL (w : World) (lo : Nat) (v : Value) (ls : List LetterD) : Prop where
  ex : ∃ vs, w.ownsRow lo 39 8 v ls.length vs ∧ LetV w lo vs ls
theorem ownsRow_off {S : Nat → Prop} {w w' : World} {base size n : Nat} {e : TypeId} {v : Value} {xs : List Value} (h : w.ownsRow base e size v n xs) (k : Off S w w') (hS : ∀ b, base ≤ b → ¬ S b) : w'.ownsRow base e size v n xs := by
  obtain ⟨hl, h1 | ⟨g, cap, cur, hv, hbs, hh, r⟩⟩ := h
  · exact ⟨hl, .inl h1⟩
  · exact ⟨hl, .inr ⟨g, cap, cur, hv, hbs, k.keep (hS g hbs) hh, r⟩⟩
theorem ownsRow_put {w : World} {base size n b o : Nat} {e : TypeId} {v u : Value} {xs : List Value} {cur : Array Value} {t : TypeId} {f : Nat × Nat} (h : w.ownsRow base e size v n xs) (hb : w.heap[b]? = some (.cells cur t f)) (ht : t ≠ e) : (w.setCell ⟨b, o, none⟩ u).ownsRow base e size v n xs := by
  obtain ⟨hl, h1 | ⟨g, cap, cur', hv, hbs, hh, r⟩⟩ := h
  · exact ⟨hl, .inl h1⟩
  · refine ⟨hl, .inr ⟨g, cap, cur', hv, hbs, ?_, r⟩⟩
    rw [heap_far w (fun k => by subst k; rw [hb] at hh; injection hh with k; injection k with _ k _; exact ht k)]
    exact hh
theorem ownsRow_typed {w : World} {base size n : Nat} {e : TypeId} {v : Value} {xs : List Value} (h : w.ownsRow base e size v n xs) : ∀ k, v.ownBlock = some k → ∃ cur, w.heap[k]? = some (.cells cur e (0, 0)) := by
  intro k hk
  obtain ⟨hl, h1 | ⟨g, cap, cur, hv, hbs, hh, r⟩⟩ := h
  · rw [h1.1] at hk; cases hk
  · rw [hv] at hk
    simp [Value.ownBlock] at hk
    subst hk
    exact ⟨cur, hh⟩
theorem ownsRow_form {w : World} {base size n : Nat} {e : TypeId} {v : Value} {xs : List Value} (h : w.ownsRow base e size v n xs) : ∃ a c, v = .slice a n c := by
  obtain ⟨hl, ⟨h1, h2⟩ | ⟨g, cap, cur, hv, r⟩⟩ := h
  · exact ⟨none, 0, by rw [h1, h2]⟩
  · exact ⟨_, cap, hv⟩
theorem OwnL.nil (w : World) (lo : Nat) : OwnL w lo (.slice none 0 0) [] := ⟨[], World.ownsRow_nil _ _ _ _, .nil⟩
theorem OwnL.off {S : Nat → Prop} {w w' : World} {lo : Nat} {v : Value} {ls : List LetterD} (h : OwnL w lo v ls) (k : Off S w w') (hS : ∀ b, lo ≤ b → ¬ S b) : OwnL w' lo v ls := by
  obtain ⟨vs, h1, h2⟩ := h.ex
  exact ⟨vs, ownsRow_off h1 k hS, h2.map (fun v xs o => o.off k hS)⟩
theorem OwnL.put {w : World} {lo b o : Nat} {v u : Value} {ls : List LetterD} {cur : Array Value} {t : TypeId} {f : Nat × Nat} (h : OwnL w lo v ls) (hb : w.heap[b]? = some (.cells cur t f)) (ht : t ≠ 39) (ht2 : t ≠ 33) : OwnL (w.setCell ⟨b, o, none⟩ u) lo v ls := by
  obtain ⟨vs, h1, h2⟩ := h.ex
  exact ⟨vs, ownsRow_put h1 hb ht, h2.map (fun v xs k => k.put hb ht2)⟩
/-- a slice that owns boxes -/
structure OwnB (w : World) (lo : Nat) (v : Value) (bs : List (List Int)) : Prop where
  row : w.ownsRow lo 37 6 v bs.length (bs.flatMap fun b => b.map (Value.int .u64))
  six : ∀ b ∈ bs, b.length = 6
theorem OwnB.nil (w : World) (lo : Nat) : OwnB w lo (.slice none 0 0) [] := ⟨World.ownsRow_nil _ _ _ _, fun b h => by cases h⟩
theorem OwnB.off {S : Nat → Prop} {w w' : World} {lo : Nat} {v : Value} {bs : List (List Int)} (h : OwnB w lo v bs) (k : Off S w w') (hS : ∀ b, lo ≤ b → ¬ S b) : OwnB w' lo v bs := ⟨ownsRow_off h.row k hS, h.six⟩
theorem OwnB.put {w : World} {lo b o : Nat} {v u : Value} {bs : List (List Int)} {cur : Array Value} {t : TypeId} {f : Nat × Nat} (h : OwnB w lo v bs) (hb : w.heap[b]? = some (.cells cur t f)) (ht : t ≠ 37) : OwnB (w.setCell ⟨b, o, none⟩ u) lo v bs := ⟨ownsRow_put h.row hb ht, h.six⟩
theorem info_letter : (Try.prog.info? 39).map (fun i => (i.zero, i.size, i.bytes)) = some (some (.agg #[.int .u64 0, .int .u64 0, .int .u64 0, .int .u64 0, .int .u64 0, .int .u64 0, .slice none 0 0, .slice none 0 0]), 8, 96) := by kernel_rfl
theorem info_box : (Try.prog.info? 37).map (fun i => (i.zero, i.size, i.bytes)) = some (some (.agg #[.int .u64 0, .int .u64 0, .int .u64 0, .int .u64 0, .int .u64 0, .int .u64 0]), 6, 48) := by kernel_rfl
theorem cells_new (w : World) (vs : List Value) (t : TypeId) : ∀ (j : Nat) (u : Value), vs[j]? = some u → (w.alloc (.cells vs.toArray t)).cell? ((⟨w.heap.size, 0, none⟩ : Addr).add j) = some u := by
  intro j u hj
  rw [Addr.add_lit, Nat.zero_add, cell_at (heap_new w _)]
  simpa using hj
/-- a letter more -/
theorem OwnL.push {w : World} {lo : Nat} {v : Value} {ls : List LetterD} (h : OwnL w lo v ls) (hn : ls.length ≤ 1000) (hB : lo ≤ w.heap.size) {x : LetterD} {x0 x1 x2 x3 x4 x5 : Int} {a1 a2 : Option Addr} {n1 c1 n2 c2 : Nat} (e : x.1 = [x0, x1, x2, x3, x4, x5]) (o1 : OwnI w lo (.slice a1 n1 c1) x.2.1) (o2 : OwnI w lo (.slice a2 n2 c2) x.2.2) (ty : TypeId) {ad : Addr}
    (hc : ∀ (j : Nat) (u : Value), [Value.int .u64 x0, .int .u64 x1, .int .u64 x2, .int .u64 x3, .int .u64 x4, .int .u64 x5, .slice a1 n1 c1, .slice a2 n2 c2][j]? = some u → w.cell? (ad.add j) = some u) :
    ∃ v' w', (Builtin.append_ #[22, 22] ty #[v, .slice (some ad) 1 1]).run Try.prog w = .ok v' w' ∧ OwnL w' lo v' (ls ++ [x]) ∧ w.grownBy w' v.ownBlock ∧ (∀ k, v.ownBlock = some k → lo ≤ k ∧ ∃ cur, w.heap[k]? = some (.cells cur 39 (0, 0))) := by
  obtain ⟨i0, hi, hz0, hz1, hz2⟩ := info_parts info_letter
  obtain ⟨vs, h1, h2⟩ := h.ex
  obtain ⟨v', w', hr, ho, hg, _, _⟩ := run_append_own_at (P := Try.prog) w lo 22 ty 39 i0 _ 8 96 Try.underlying22 hi hz0 hz1 hz2 rfl (by decide) v ls.length vs h1 ad 1 1 [.int .u64 x0, .int .u64 x1, .int .u64 x2, .int .u64 x3, .int .u64 x4, .int .u64 x5, .slice a1 n1 c1, .slice a2 n2 c2] rfl hc
    (by intro u hu; simp at hu; rcases hu with rfl | rfl | rfl | rfl | rfl | rfl | rfl | rfl <;> rfl) (by unfold maxLen; omega) (by omega) hB
  have hty := ownsRow_typed h1
  have hgr : ∀ v2 xs, OwnI w lo v2 xs → OwnI w' lo v2 xs := fun v2 xs o => o.grow hg (fun k hk => by obtain ⟨cur, hc⟩ := hty k hk; exact ⟨cur, _, _, hc, by decide⟩)
  exact ⟨v', w', hr, ⟨_, by rw [List.length_append]; exact ho, .snoc (h2.map hgr) e (hgr _ _ o1) (hgr _ _ o2)⟩, hg, fun k hk => ⟨(h1.lt k hk).1, hty k hk⟩⟩
/-- a box more -/
theorem OwnB.push {w : World} {lo : Nat} {v : Value} {bs : List (List Int)} (h : OwnB w lo v bs) (hn : bs.length ≤ 1000) (hB : lo ≤ w.heap.size) {b : List Int} (hb6 : b.length = 6) (ty : TypeId) {ad : Addr}
    (hc : ∀ (j : Nat) (u : Value), (b.map (Value.int .u64))[j]? = some u → w.cell? (ad.add j) = some u) :
    ∃ v' w', (Builtin.append_ #[23, 23] ty #[v, .slice (some ad) 1 1]).run Try.prog w = .ok v' w' ∧ OwnB w' lo v' (bs ++ [b]) ∧ w.grownBy w' v.ownBlock ∧ (∀ k, v.ownBlock = some k → lo ≤ k ∧ ∃ cur, w.heap[k]? = some (.cells cur 37 (0, 0))) := by
  obtain ⟨i0, hi, hz0, hz1, hz2⟩ := info_parts info_box
  have h1 := h.row
  obtain ⟨v', w', hr, ho, hg, _, _⟩ := run_append_own_at (P := Try.prog) w lo 23 ty 37 i0 _ 6 48 Try.underlying23 hi hz0 hz1 hz2 rfl (by decide) v bs.length _ h1 ad 1 1 (b.map (Value.int .u64)) (by rw [List.length_map, hb6]) hc
    (by intro u hu; rw [List.mem_map] at hu; obtain ⟨x, _, rfl⟩ := hu; rfl) (by unfold maxLen; omega) (by omega) hB
  refine ⟨v', w', hr, ⟨by rw [List.length_append, List.flatMap_append]; simpa using ho, fun c hc => ?_⟩, hg, fun k hk => ⟨(h1.lt k hk).1, ownsRow_typed h1 k hk⟩⟩
  rcases List.mem_append.1 hc with hc | hc
  · exact h.six c hc
  · rw [List.mem_singleton.1 hc]; exact hb6
end Go.Proofs.Ytdbhcdhenapfoaa
