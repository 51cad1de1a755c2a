/- Layer 14: a note is put among others; what Fetch gives of one round. -/
import Derived.Test.YtchmhpfccanamaaDropL
set_option linter.unusedVariables false
set_option linter.unusedSimpArgs false
namespace Go.Proofs.Ytchmhpfccanamaa
open Go.RowKit Go.Maps
/-- the note n at place k -/
def ins (l : List NoteD) (k : Nat) (n : NoteD) : List NoteD := l.take k ++ n :: l.drop k
theorem ins_len {l : List NoteD} {k : Nat} {n : NoteD} : (ins l k n).length = l.length + 1 := by unfold ins; simp; omega
def cellsN (l : List NoteD) : List Value := l.flatMap fun p => [.int .u64 p.1, .int .u64 p.2.1, .int .u64 p.2.2]
theorem cellsN_app (l m : List NoteD) : cellsN (l ++ m) = cellsN l ++ cellsN m := by unfold cellsN; simp
theorem cellsN_len (l : List NoteD) : (cellsN l).length = l.length * 3 := by
  unfold cellsN
  induction l with
  | nil => rfl
  | cons p l ih => rw [List.flatMap_cons, List.length_append, ih]; simp; omega
theorem cellsN_at : ∀ (l : List NoteD) (i : Nat), i < l.length → (cellsN l)[i * 3]? = some (.int .u64 (l.getD i nt0).1) ∧ (cellsN l)[i * 3 + 1]? = some (.int .u64 (l.getD i nt0).2.1) ∧ (cellsN l)[i * 3 + 2]? = some (.int .u64 (l.getD i nt0).2.2)
  | [], i, h => by simp at h
  | p :: l, 0, h => by simp [cellsN]
  | p :: l, i + 1, h => by
    have := cellsN_at l i (by simpa using h)
    have e : cellsN (p :: l) = .int .u64 p.1 :: .int .u64 p.2.1 :: .int .u64 p.2.2 :: cellsN l := rfl
    rw [e, show (i + 1) * 3 = i * 3 + 1 + 1 + 1 by omega]
    simpa using this
theorem cellsN_take (l : List NoteD) : ∀ k, k ≤ l.length → (cellsN l).take (k * 3) = cellsN (l.take k) := by
  intro k hk
  have h := cellsN_app (l.take k) (l.drop k)
  rw [List.take_append_drop] at h
  rw [h, List.take_left']
  rw [cellsN_len, List.length_take]; omega
theorem cellsN_drop (l : List NoteD) : ∀ k, k ≤ l.length → (cellsN l).drop (k * 3) = cellsN (l.drop k) := by
  intro k hk
  have h := cellsN_app (l.take k) (l.drop k)
  rw [List.take_append_drop] at h
  rw [h, List.drop_left']
  rw [cellsN_len, List.length_take]; omega
theorem cellsN_one (l : List NoteD) : ∀ u ∈ cellsN l, u.oneCell' = true := by
  intro u hu
  unfold cellsN at hu
  rw [List.mem_flatMap] at hu
  obtain ⟨p, _, hu⟩ := hu
  simp at hu
  rcases hu with rfl | rfl | rfl <;> rfl
theorem info_note : (Try.prog.info? 25).map (fun i => (i.zero, i.size, i.bytes)) = some (some (.agg #[.int .u64 0, .int .u64 0, .int .u64 0]), 3, 24) := by kernel_rfl
abbrev RowN (w : World) (base : Nat) (v : Value) (l : List NoteD) : Prop := w.ownsRow base 25 3 v l.length (cellsN l)
theorem RowN.notes {w : World} {base n cap : Nat} {a : Option Addr} {l : List NoteD} (h : RowN w base (.slice a n cap) l) (hb : ∀ j, U64 (l.getD j nt0).1) : NotesAt w a n l ∧ n = l.length := by
  obtain ⟨hl, h1 | ⟨g, cap', cur, hv, hb', hh, hn, hm, hs, ht⟩⟩ := h
  · obtain ⟨e, h0⟩ := h1
    injection e with e1 e2 e3
    subst e1 e2 e3
    exact ⟨⟨h0, fun h => by omega, hb⟩, h0.symm⟩
  · injection hv with e1 e2 e3
    subst e1 e2 e3
    refine ⟨⟨rfl, fun _ => ⟨g, 0, rfl, fun j hj => ?_⟩, hb⟩, rfl⟩
    have e : ∀ i, i < l.length * 3 → w.cell? ⟨g, 0 + i, none⟩ = (cellsN l)[i]? := fun i hi => by
      rw [cell_at hh, ← ht, List.getElem?_take_of_lt hi, Nat.zero_add]; simp
    have h3 := cellsN_at l j hj
    exact ⟨(e _ (by omega)).trans h3.1, (e (j * 3 + 1) (by omega)).trans h3.2.1, (e (j * 3 + 2) (by omega)).trans h3.2.2⟩
theorem append_none (w : World) (sb m c : Nat) (t e ty : TypeId) (i : TypeInfo) (ht : Try.prog.underlying t = some (.slice e)) (hi : Try.prog.info? e = some i) (hc : m ≤ c) (b : Option Addr) (hb : b = none ∨ ∃ a, b = some a) (c2 : Nat) :
    (Builtin.append_ #[t, t] ty #[.slice (some ⟨sb, 0, none⟩) m c, .slice b 0 c2]).run Try.prog w = .ok (.slice (some ⟨sb, 0, none⟩) m c) w := by
  rcases hb with rfl | ⟨a, rfl⟩
  · simp [Builtin.append_, run_underlying ht, sizeOf, typeInfo, hi, Builtin.lenOf, Builtin.firstCells, storeCells, hc, go_sem]
  · simp [Builtin.append_, run_underlying ht, sizeOf, typeInfo, hi, Builtin.lenOf, Builtin.firstCells, storeCells, loadCells, hc, go_sem]
theorem ins_nil (w : World) (B sb : Nat) (nt : NoteD) (ty : TypeId) (hs : RowN w B (.slice (some ⟨sb, 0, none⟩) 1 1) [nt]) (hB : B ≤ w.heap.size) :
    ∃ v2 w2, (Builtin.append_ #[22, 22] ty #[.slice (some ⟨sb, 0, none⟩) 1 1, .slice none 0 0]).run Try.prog w = .ok (.slice (some ⟨sb, 0, none⟩) 1 1) w ∧
      (Builtin.append_ #[22, 22] ty #[.slice none 0 0, .slice (some ⟨sb, 0, none⟩) 1 1]).run Try.prog w = .ok v2 w2 ∧ RowN w2 B v2 (ins [] 0 nt) ∧ Below B w w2 ∧ (∀ k, k < w.heap.size → w2.heap[k]? = w.heap[k]?) ∧ w.heap.size ≤ w2.heap.size ∧ ∀ k, v2.ownBlock = some k → k = w.heap.size := by
  obtain ⟨i0, hi, hz0, hz1, hz2⟩ := info_parts info_note
  obtain ⟨v2, w2, hr, ho, hg, _, hbk⟩ := run_append_own_at (P := Try.prog) w B 22 ty 25 i0 _ 3 24 Try.underlying22 hi hz0 hz1 hz2 rfl (by decide) (.slice none 0 0) 0 [] (World.ownsRow_nil _ _ _ _) ⟨sb, 0, none⟩ 1 1 (cellsN [nt]) rfl
    (fun j u hj => by
      have hj3 : j < 3 := by
        rcases Nat.lt_or_ge j 3 with h | h
        · exact h
        · rw [List.getElem?_eq_none (by rw [cellsN_len]; simpa using h)] at hj; cases hj
      have := hs.cellAt j (by simpa using hj3)
      rw [Addr.add_lit, Nat.zero_add, this]; exact hj) (cellsN_one _) (by decide) (by decide) hB
  exact ⟨v2, w2, append_none w sb 1 1 _ _ ty i0 Try.underlying22 hi (Nat.le_refl _) none (Or.inl rfl) 0, hr, ho, (Below.refl B w).grown hg hB (fun k hk => by cases hk), fun k hk => hg.block k hk (by simp [Value.ownBlock]), hg.size, fun k hk => by
    rcases hbk with e | e
    · rw [hk] at e; cases e
    · rw [hk] at e; injection e⟩
theorem row_cut {w : World} {B g n cap k : Nat} {l : List NoteD} (h : w.ownsRow B 25 3 (.slice (some ⟨g, 0, none⟩) n cap) n (cellsN l)) (hl : l.length = n) (hk : k ≤ n) : w.ownsRow B 25 3 (.slice (some ⟨g, 0, none⟩) k cap) k (cellsN (l.take k)) := by
  obtain ⟨hl2, h1 | ⟨g', cap', cur, hv, hb', hh, hn, hm, hs, ht⟩⟩ := h
  · cases h1.1
  · injection hv with e1 e2 e3
    injection e1 with e1
    injection e1 with e1
    subst e1 e3
    refine ⟨by rw [cellsN_len, List.length_take]; omega, Or.inr ⟨g, cap, cur, rfl, hb', hh, by omega, hm, hs, ?_⟩⟩
    rw [← cellsN_take l k (by omega), ← ht, List.take_take]
    congr 1
    omega
theorem ins_some (w : World) (B sb g n cap k : Nat) (l : List NoteD) (nt : NoteD) (ty : TypeId) (hl : l.length = n) (hk : k ≤ n) (hn : n ≤ 10000) (h : RowN w B (.slice (some ⟨g, 0, none⟩) n cap) l) (hs : RowN w B (.slice (some ⟨sb, 0, none⟩) 1 1) [nt]) (hne : sb ≠ g) (hB : B ≤ w.heap.size) :
    ∃ v1 w1 v2 w2, (Builtin.append_ #[22, 22] ty #[.slice (some ⟨sb, 0, none⟩) 1 1, .slice (if cap = k then some ⟨g, 0, none⟩ else some ⟨g, k * 3, none⟩) (n - k) (cap - k)]).run Try.prog w = .ok v1 w1 ∧
      (Builtin.append_ #[22, 22] ty #[.slice (some ⟨g, 0, none⟩) k cap, v1]).run Try.prog w1 = .ok v2 w2 ∧ RowN w2 B v2 (ins l k nt) ∧ Below B w w2 ∧ (∀ j, j < w.heap.size → j ≠ sb → j ≠ g → w2.heap[j]? = w.heap[j]?) ∧ w.heap.size ≤ w2.heap.size ∧ ∀ j, v2.ownBlock = some j → j = g ∨ w.heap.size ≤ j := by
  obtain ⟨i0, hi, hz0, hz1, hz2⟩ := info_parts info_note
  obtain ⟨ad, ead⟩ : ∃ ad : Addr, (if cap = k then some ⟨g, 0, none⟩ else some ⟨g, k * 3, none⟩ : Option Addr) = some ad := by split <;> exact ⟨_, rfl⟩
  have hcap : n ≤ cap := by
    obtain ⟨_, h1 | ⟨g', cap', cur, hv, hb', hh, hn, hm, _, _⟩⟩ := h
    · cases h1.1
    · injection hv with e1 e2 e3; omega
  unfold RowN at h; rw [hl] at h
  have hcl : (cellsN (l.drop k)).length = (n - k) * 3 := by rw [cellsN_len, List.length_drop, hl]
  obtain ⟨v1, w1, hr1, ho1, hg1, hnil, hblk⟩ := run_append_own_at (P := Try.prog) w B 22 ty 25 i0 _ 3 24 Try.underlying22 hi hz0 hz1 hz2 rfl (by decide) (.slice (some ⟨sb, 0, none⟩) 1 1) 1 (cellsN [nt]) hs ad (n - k) (cap - k) (cellsN (l.drop k)) hcl
    (fun j u hj => by
      have hj2 : j < (n - k) * 3 := by
        rcases Nat.lt_or_ge j ((n - k) * 3) with h | h
        · exact h
        · rw [List.getElem?_eq_none (by omega)] at hj; cases hj
      rw [if_neg (by omega)] at ead
      injection ead with ead
      subst ead
      rw [Addr.add_lit, h.cellAt (k * 3 + j) (by omega)]
      rw [← cellsN_drop l k (by omega), List.getElem?_drop] at hj
      exact hj) (cellsN_one _) (by unfold maxLen; omega) (by omega) hB
  have hne2 : Value.ownBlock (.slice (some ⟨g, 0, none⟩) n cap) = none ∨ Value.ownBlock (.slice (some ⟨g, 0, none⟩) n cap) ≠ Value.ownBlock (.slice (some ⟨sb, 0, none⟩) 1 1) := Or.inr (by simp [Value.ownBlock]; omega)
  have hk1 := row_cut (h.kept hg1 hne2) hl hk
  have hx : ∃ g1 c1, v1 = .slice (some ⟨g1, 0, none⟩) (1 + (n - k)) c1 := by
    obtain ⟨_, h1 | ⟨g', cap', cur, hv, _⟩⟩ := ho1
    · have := h1.2; omega
    · exact ⟨g', cap', hv⟩
  obtain ⟨g1, c1, rfl⟩ := hx
  have hcl2 : (cellsN (nt :: l.drop k)).length = (1 + (n - k)) * 3 := by rw [cellsN_len, List.length_cons, List.length_drop, hl]; omega
  have hB1 : B ≤ w1.heap.size := Nat.le_trans hB hg1.size
  obtain ⟨v2, w2, hr2, ho2, hg2, _, hbk⟩ := run_append_own_at (P := Try.prog) w1 B 22 ty 25 i0 _ 3 24 Try.underlying22 hi hz0 hz1 hz2 rfl (by decide) (.slice (some ⟨g, 0, none⟩) k cap) k _ hk1 ⟨g1, 0, none⟩ (1 + (n - k)) c1 (cellsN (nt :: l.drop k)) hcl2
    (fun j u hj => by
      have hj2 : j < (1 + (n - k)) * 3 := by
        rcases Nat.lt_or_ge j ((1 + (n - k)) * 3) with h | h
        · exact h
        · rw [List.getElem?_eq_none (by omega)] at hj; cases hj
      rw [Addr.add_lit, Nat.zero_add, ho1.cellAt j (by omega)]
      exact hj) (cellsN_one _) (by unfold maxLen; omega) (by omega) hB1
  refine ⟨_, w1, v2, w2, by rw [ead]; exact hr1, hr2, ?_, ((Below.refl B w).grown hg1 hB (fun j hj => ?_)).grown hg2 hB1 (fun j hj => ?_), fun j hj h1 h2 => (hg2.block j (Nat.lt_of_lt_of_le hj hg1.size) (by simp [Value.ownBlock]; exact h2)).trans (hg1.block j hj (by simp [Value.ownBlock]; exact h1)), Nat.le_trans hg1.size hg2.size, fun j hj => ?_⟩
  · show w2.ownsRow B _ 3 v2 (ins l k nt).length (cellsN (ins l k nt))
    have e1 : (ins l k nt).length = k + (1 + (n - k)) := by rw [ins_len, hl]; omega
    have e2 : cellsN (ins l k nt) = cellsN (l.take k) ++ cellsN (nt :: l.drop k) := by unfold ins; rw [cellsN_app]
    rw [e1, e2]
    exact ho2
  · exact (hs.lt j hj).1
  · exact (hk1.lt j hj).1
  · rcases hbk with e | e
    · rw [hj] at e; simp [Value.ownBlock] at e; exact Or.inl e
    · rw [hj] at e; injection e with e; exact Or.inr (by have := hg1.size; omega)
/-- what Fetch gives of one place's bodies -/
def pickB (l : List Body) (m : Body) : Option Body := if l.length ≠ 2 ∨ idxB l m l.length < 0 then none else some (l.getD (1 - (idxB l m l.length).toNat) (0, 0))
theorem fetchR_one (num : Int) (L : Plc) (p : Int) (m : Body) : fetchR [(num, L)] num p m = pickB (L p) m := by
  unfold fetchR pickB
  have e : idxR [(num, L)] num [(num, L)].length = 0 := by simp [idxR]
  rw [e, if_neg (by omega)]
  rfl
theorem pickB_none {l : List Body} {m : Body} (h : l.length ≠ 2) : pickB l m = none := by unfold pickB; rw [if_pos (Or.inl h)]
theorem pickB_two (x y m : Body) : pickB [x, y] m = if x = m then some y else if y = m then some x else none := by
  unfold pickB
  by_cases h1 : x = m
  · simp [idxB, h1]
  · by_cases h2 : y = m
    · simp [idxB, h1, h2]
    · simp [idxB, h1, h2]
def atP (l : List NoteD) (p : Int) : List Body := (l.filter (fun x => x.1 == p)).map (·.2)
theorem atP_app (l m : List NoteD) (p : Int) : atP (l ++ m) p = atP l p ++ atP m p := by unfold atP; simp
theorem take_snocN (l : List NoteD) (n : Nat) (h : n < l.length) : l.take (n + 1) = l.take n ++ [l.getD n nt0] := by
  rw [List.take_add_one]; simp [List.getD, List.getElem?_eq_getElem h]
theorem bodN_atP (l : List NoteD) : ∀ n, n ≤ l.length → ∀ p, bodN l n p = atP (l.take n) p
  | 0, _, p => by simp [bodN, atP]
  | n + 1, h, p => by
    have ih := bodN_atP l n (by omega)
    rw [take_snocN l n (by omega), atP_app]
    simp only [bodN, upd]
    by_cases hp : p = (l.getD n nt0).1
    · obtain ⟨q, hq⟩ : ∃ q, l.getD n nt0 = q := ⟨_, rfl⟩
      rw [hq] at hp ⊢
      rw [if_pos hp, ← hp, ih p]; simp [atP, ← hp]
    · rw [if_neg hp, ih p]
      obtain ⟨q, hq⟩ : ∃ q, l.getD n nt0 = q := ⟨_, rfl⟩
      rw [hq] at hp ⊢
      have : (q.1 == p) = false := by simpa using fun e => hp e.symm
      simp [atP, this]
theorem bodN_all (l : List NoteD) (p : Int) : bodN l l.length p = atP l p := by rw [bodN_atP l _ (Nat.le_refl _), List.take_length]
theorem atP_ins (l : List NoteD) (k : Nat) (n : NoteD) (p : Int) : atP (ins l k n) p = atP (l.take k) p ++ ((if n.1 = p then [n.2] else []) ++ atP (l.drop k) p) := by
  unfold ins
  rw [atP_app, show n :: l.drop k = [n] ++ l.drop k from rfl, atP_app]
  congr 2
  by_cases h : n.1 = p
  · rw [if_pos h]; simp [atP, h]
  · rw [if_neg h]; have : (n.1 == p) = false := by simpa using h
    simp [atP, this]
theorem atP_split (l : List NoteD) (k : Nat) (p : Int) : atP (l.take k) p ++ atP (l.drop k) p = atP l p := by rw [← atP_app, List.take_append_drop]
theorem two_one {α : Type} {a b : List α} {x : α} (h : a ++ b = [x]) : a = [x] ∧ b = [] ∨ a = [] ∧ b = [x] := by
  cases a with
  | nil => exact Or.inr ⟨rfl, h⟩
  | cons y a => simp at h; obtain ⟨rfl, h1, h2⟩ := h; exact Or.inl ⟨by rw [h1], h2⟩
/-- of two that lie alone at a place each gets the other's body -/
theorem meets_alone (l : List NoteD) (k0 k1 : Nat) (p : Int) (A C : Body) (h : atP l p = []) :
    pickB (atP (ins (ins l k0 (p, A)) k1 (p, C)) p) A = some C ∧ pickB (atP (ins (ins l k0 (p, A)) k1 (p, C)) p) C = some A := by
  have h1 : atP (ins l k0 (p, A)) p = [A] := by
    rw [atP_ins, if_pos rfl]
    have := atP_split l k0 p
    rw [h] at this
    obtain ⟨e1, e2⟩ := List.append_eq_nil_iff.1 this
    rw [e1, e2]; rfl
  have h2 := atP_split (ins l k0 (p, A)) k1 p
  rw [h1] at h2
  rw [atP_ins, if_pos rfl]
  rcases two_one h2 with ⟨e1, e2⟩ | ⟨e1, e2⟩
  · rw [e1, e2]
    show pickB [A, C] A = _ ∧ pickB [A, C] C = _
    rw [pickB_two, pickB_two, if_pos rfl]
    refine ⟨rfl, ?_⟩
    by_cases e : A = C
    · rw [if_pos e, e]
    · rw [if_neg e, if_pos rfl]
  · rw [e1, e2]
    show pickB [C, A] A = _ ∧ pickB [C, A] C = _
    rw [pickB_two, pickB_two]
    refine ⟨?_, if_pos rfl⟩
    rw [if_pos rfl]
    by_cases e : C = A
    · rw [if_pos e, e]
    · rw [if_neg e]
theorem meets_third (l : List NoteD) (k0 k1 : Nat) (p : Int) (A C m : Body) (h : atP l p ≠ []) : pickB (atP (ins (ins l k0 (p, A)) k1 (p, C)) p) m = none := by
  apply pickB_none
  have l0 : 0 < (atP l p).length := List.length_pos_iff.2 h
  have e : ∀ (l : List NoteD) (k : Nat) (B : Body), (atP (ins l k (p, B)) p).length = (atP l p).length + 1 := by
    intro l k B
    rw [atP_ins, if_pos rfl, ← atP_split l k p]
    simp
    omega
  rw [e, e]
  omega
end Go.Proofs.Ytchmhpfccanamaa
