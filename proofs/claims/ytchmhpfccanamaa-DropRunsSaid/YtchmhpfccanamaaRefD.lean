/- Layer 14: the reference's Deliver. -/
import Derived.Test.YtchmhpfccanamaaRefO
set_option linter.unusedVariables false
set_option linter.unusedSimpArgs false
namespace Go.Proofs.Ytchmhpfccanamaa
open Go.RowKit
theorem info_notes : (Try.prog.info? 22).map (fun i => (i.zero, i.size, i.bytes)) = some (some (.slice none 0 0), 1, 24) := by kernel_rfl
theorem row_empty (w : World) (base : Nat) (e : TypeId) (size : Nat) (hb : base ≤ w.heap.size) : (w.alloc (.cells #[] e)).ownsRow base e size (.slice (some ⟨w.heap.size, 0, none⟩) 0 0) 0 [] :=
  ⟨by simp, Or.inr ⟨_, _, _, rfl, hb, (MapKept.heap_alloc _ _).1, Nat.le_refl _, by decide, by simp, by simp⟩⟩
theorem IntsB.news {w : World} {a : Option Addr} {xs : List Int} {n : Nat} (h : IntsB w a xs) (hn : xs.length = n) : 0 < n → ∃ ad, a = some ad ∧ ∀ (j : Nat) (u : Value), (xs.map (Value.int .i64))[j]? = some u → w.cell? (ad.add j) = some u := by
  intro h0
  obtain ⟨g, off, cur, f, e, hh, hc⟩ := h.cells (by omega)
  refine ⟨_, e, fun j u hj => ?_⟩
  have hj2 : j < xs.length := by
    rcases Nat.lt_or_ge j xs.length with h | h
    · exact h
    · rw [List.getElem?_eq_none (by simpa using h)] at hj; cases hj
  rw [Addr.add_lit, cell_at hh, hc j hj2, ← hj]
  simp [List.getD, List.getElem?_eq_getElem hj2]
theorem ints_one (xs : List Int) : ∀ u ∈ xs.map (Value.int .i64), u.oneCell' = true := by
  intro u hu
  rw [List.mem_map] at hu
  obtain ⟨x, _, rfl⟩ := hu
  rfl
theorem IntsB.of_row {w : World} {base g cap n : Nat} {xs : List Int} (h : w.ownsRow base 3 1 (.slice (some ⟨g, 0, none⟩) n cap) n (xs.map (Value.int .i64))) (hn : xs.length = n) : IntsB w (some ⟨g, 0, none⟩) xs := ⟨fun _ => by
  obtain ⟨hl, h1 | ⟨g', cap', cur, hv, hb, hh, hk, hm, hs, ht⟩⟩ := h
  · cases h1.1
  · injection hv with e1 e2 e3
    injection e1 with e1
    injection e1 with e1
    subst e1
    refine ⟨g, 0, cur, (0, 0), rfl, hh, fun j hj => ?_⟩
    have : (xs.map (Value.int .i64))[j]? = cur.toList[j]? := by rw [← ht, List.getElem?_take_of_lt (by omega)]
    rw [Nat.zero_add, ← Array.getElem?_toList, ← this]
    simp [List.getD, List.getElem?_eq_getElem hj]⟩
theorem NtsB.vals {w : World} {a : Option Addr} {ls : List (List NoteD)} {n : Nat} (h : NtsB w a ls) (hn : ls.length = n) : ∃ vs : List Value, vs.length = n ∧ (0 < n → ∃ ad, a = some ad ∧ ∀ (j : Nat) (u : Value), vs[j]? = some u → w.cell? (ad.add j) = some u) ∧ ∀ j, j < n → ∃ v, vs[j]? = some v ∧ NotB w v (ls.getD j []) := by
  by_cases h0 : n = 0
  · subst h0
    exact ⟨[], rfl, fun h => by omega, fun j hj => by omega⟩
  · obtain ⟨g, off, cur, f, e, hh, hc⟩ := h.cells (by omega)
    have hat : ∀ j, j < n → ((cur.toList.drop off).take n)[j]? = cur[off + j]? := fun j hj => by
      rw [List.getElem?_take_of_lt hj, List.getElem?_drop]; simp
    have hsz : off + n ≤ cur.size := by
      obtain ⟨v, hv, _⟩ := hc (n - 1) (by omega)
      have := (Array.getElem?_eq_some_iff.1 hv).1
      omega
    refine ⟨(cur.toList.drop off).take n, by simp; omega, fun _ => ⟨_, e, fun j u hj => ?_⟩, fun j hj => ?_⟩
    · have hj2 : j < n := by
        rcases Nat.lt_or_ge j n with h | h
        · exact h
        · rw [List.getElem?_eq_none (by simp; omega)] at hj; cases hj
      rw [Addr.add_lit, cell_at hh, ← hat j hj2]; exact hj
    · obtain ⟨v, hv, hb⟩ := hc j (by omega)
      exact ⟨v, by rw [hat j hj]; exact hv, hb⟩
theorem NotB.one {w : World} {v : Value} {l : List NoteD} (h : NotB w v l) : v.oneCell' = true := by
  obtain ⟨a, cap, rfl, _⟩ := h.ex; rfl
theorem NotB.of_row {w : World} {base g cap n : Nat} {l : List NoteD} (h : w.ownsRow base 25 3 (.slice (some ⟨g, 0, none⟩) n cap) n (cellsN l)) (hn : l.length = n) : NotB w (.slice (some ⟨g, 0, none⟩) n cap) l := by
  subst hn
  refine ⟨⟨_, cap, rfl, fun h0 => ?_⟩⟩
  obtain ⟨hl, h1 | ⟨g', cap', cur, hv, hb, hh, hk, hm, hs, ht⟩⟩ := h
  · cases h1.1
  · injection hv with e1 e2 e3
    injection e1 with e1
    injection e1 with e1
    subst e1
    refine ⟨g, 0, cur, (0, 0), rfl, hh, fun j hj => ?_⟩
    have e : ∀ i, i < l.length * 3 → cur[0 + i]? = (cellsN l)[i]? := fun i hi => by rw [← ht, List.getElem?_take_of_lt hi, Nat.zero_add]; simp
    have h3 := cellsN_at l j hj
    exact ⟨(e _ (by omega)).trans h3.1, (e (j * 3 + 1) (by omega)).trans h3.2.1, (e (j * 3 + 2) (by omega)).trans h3.2.2⟩
theorem NtsB.of_row {w : World} {base g cap n : Nat} {ls : List (List NoteD)} {vs : List Value} (h : w.ownsRow base 22 1 (.slice (some ⟨g, 0, none⟩) n cap) n vs) (hn : ls.length = n) (hv : ∀ j, j < n → ∃ v, vs[j]? = some v ∧ NotB w v (ls.getD j [])) : NtsB w (some ⟨g, 0, none⟩) ls := ⟨fun _ => by
  obtain ⟨hl, h1 | ⟨g', cap', cur, hv', hb, hh, hk, hm, hs, ht⟩⟩ := h
  · cases h1.1
  · injection hv' with e1 e2 e3
    injection e1 with e1
    injection e1 with e1
    subst e1
    refine ⟨g, 0, cur, (0, 0), rfl, hh, fun j hj => ?_⟩
    obtain ⟨v, h1, h2⟩ := hv j (by omega)
    refine ⟨v, ?_, h2⟩
    have : vs[j]? = cur.toList[j]? := by rw [← ht, List.getElem?_take_of_lt (by omega)]
    rw [Nat.zero_add, ← Array.getElem?_toList, ← this]
    exact h1⟩
theorem NotesAt.news {w : World} {a : Option Addr} {n : Nat} {l : List NoteD} (h : NotesAt w a n l) : 0 < n → ∃ ad, a = some ad ∧ ∀ (j : Nat) (u : Value), (cellsN l)[j]? = some u → w.cell? (ad.add j) = some u := by
  intro h0
  obtain ⟨b, off, e, hc⟩ := h.cells h0
  refine ⟨_, e, fun j u hj => ?_⟩
  have hj2 : j < l.length * 3 := by
    rcases Nat.lt_or_ge j (l.length * 3) with h | h
    · exact h
    · rw [List.getElem?_eq_none (by rw [cellsN_len]; exact h)] at hj; cases hj
  have hl := h.len
  have h3 := hc (j / 3) (by omega)
  have h4 := cellsN_at l (j / 3) (by omega)
  rw [Addr.add_lit, ← hj]
  rcases (show j = j / 3 * 3 ∨ j = j / 3 * 3 + 1 ∨ j = j / 3 * 3 + 2 by omega) with e | e | e
  · rw [show off + j = off + j / 3 * 3 by omega, show (cellsN l)[j]? = (cellsN l)[j / 3 * 3]? by rw [← e]]; exact h3.1.trans h4.1.symm
  · rw [show off + j = off + j / 3 * 3 + 1 by omega, show (cellsN l)[j]? = (cellsN l)[j / 3 * 3 + 1]? by rw [← e]]; exact h3.2.1.trans h4.2.1.symm
  · rw [show off + j = off + j / 3 * 3 + 2 by omega, show (cellsN l)[j]? = (cellsN l)[j / 3 * 3 + 2]? by rw [← e]]; exact h3.2.2.trans h4.2.2.symm
theorem NotB.grown {w w' : World} {row g : Nat} {cur : Array Value} {f : Nat × Nat} {v : Value} {l : List NoteD} (h : NotB w v l) (hg : w.grownBy w' (some row)) (hr : w.heap[row]? = some (.cells cur 22 f)) : NotB w' v l := by
  obtain ⟨a, cap, e, hx⟩ := h.ex
  refine ⟨⟨a, cap, e, fun h0 => ?_⟩⟩
  obtain ⟨b, off, cu, f', e, h1, h2⟩ := hx h0
  refine ⟨b, off, cu, f', e, ?_, h2⟩
  rw [hg.block b (Array.getElem?_eq_some_iff.1 h1).1 (fun k => by
    injection k with k; subst k; rw [hr] at h1; injection h1 with e; injection e with _ e _; cases e)]
  exact h1
/-- the rows that the notes' line makes -/
theorem ref_notes (w5 : World) (a2 : Option Addr) (n c2 : Nat) (ls : List (List NoteD)) (na : Option Addr) (nn nc : Nat) (l : List NoteD) (hl : ls.length = n) (hn16 : n ≤ 16) (hnn : nn ≤ 1000000) (h2 : NtsB w5 a2 ls) (hn : NotesAt w5 na nn l) :
    ∃ g6 cap6 w7 g8 cap8 w9 g11 cap11 w11,
      (Builtin.append_ #[41, 41] 41 #[.slice (some ⟨w5.heap.size, 0, none⟩) 0 0, .slice a2 n c2]).run Try.prog (w5.alloc (.cells #[] 22)) = .ok (.slice (some ⟨g6, 0, none⟩) n cap6) w7 ∧
      (Builtin.append_ #[22, 22] 22 #[.slice (some ⟨w7.heap.size, 0, none⟩) 0 0, .slice na nn nc]).run Try.prog (w7.alloc (.cells #[] 25)) = .ok (.slice (some ⟨g8, 0, none⟩) nn cap8) w9 ∧
      (Builtin.append_ #[41, 41] 41 #[.slice (some ⟨g6, 0, none⟩) n cap6, .slice (some ⟨w9.heap.size, 0, none⟩) 1 1]).run Try.prog (w9.alloc (.cells #[.slice (some ⟨g8, 0, none⟩) nn cap8] 22)) = .ok (.slice (some ⟨g11, 0, none⟩) (n + 1) cap11) w11 ∧
      NtsB w11 (some ⟨g11, 0, none⟩) (ls ++ [l]) ∧ n + 1 ≤ cap11 ∧ Same w5 w11 := by
  obtain ⟨i2, ni, nz0, nz1, nz2⟩ := info_parts info_notes
  obtain ⟨i3, mi, mz0, mz1, mz2⟩ := info_parts info_note
  obtain ⟨vs, hvl, hvc, hvn⟩ := h2.vals hl
  have hsA : Same w5 (w5.alloc (.cells #[] 22)) := (Same.refl w5).alloc _
  have hv1 : ∀ u ∈ vs, u.oneCell' = true := by
    intro u hu
    obtain ⟨j, hj, e⟩ := List.getElem_of_mem hu
    obtain ⟨v, e2, hb⟩ := hvn j (by omega)
    rw [List.getElem?_eq_getElem hj, e] at e2
    injection e2 with e2
    rw [e2]
    exact hb.one
  obtain ⟨g6, cap6, w7, hr3, ho3, hg3⟩ := append_all (w5.alloc (.cells #[] 22)) w5.heap.size w5.heap.size 41 41 22 i2 (.slice none 0 0) 1 24 Try.underlying41 ni nz0 nz1 nz2 rfl (by decide) (row_empty _ _ _ _ (Nat.le_refl _)) a2 n c2 vs (by rw [hvl, Nat.mul_one])
    (fun h0 => by obtain ⟨ad, e, hc⟩ := hvc h0; exact ⟨ad, e, fun j u hj => same_cell hsA (hc j u hj)⟩) hv1 (by unfold maxLen; omega) (by omega) hsA.size
  have hs7 : Same w5 w7 := Below.grown hsA hg3 hsA.size (fun k hk => by injection hk with hk; omega)
  have hs8 : Same w7 (w7.alloc (.cells #[] 25)) := (Same.refl w7).alloc _
  obtain ⟨g8, cap8, w9, hr4, ho4, hg4⟩ := append_all (w7.alloc (.cells #[] 25)) w7.heap.size w7.heap.size 22 22 25 i3 (.agg #[.int .u64 0, .int .u64 0, .int .u64 0]) 3 24 Try.underlying22 mi mz0 mz1 mz2 rfl (by decide) (row_empty _ _ _ _ (Nat.le_refl _)) na nn nc (cellsN l) (by rw [cellsN_len, hn.len]) (hn.same (hs7.trans hs8)).news (cellsN_one _) (by unfold maxLen; omega) (by omega) hs8.size
  have hs79 : Same w7 w9 := Below.grown hs8 hg4 hs8.size (fun k hk => by injection hk with hk; omega)
  have ho39 : w9.ownsRow w5.heap.size 22 1 (.slice (some ⟨g6, 0, none⟩) n cap6) n vs := World.ownsRow.kept (row := none) ho3 ⟨hs79.os, hs79.tape, hs79.output, hs79.size, fun k hk _ => hs79.block k hk⟩ (Or.inr (by simp [Value.ownBlock]))
  have hsB : Same w9 (w9.alloc (.cells #[.slice (some ⟨g8, 0, none⟩) nn cap8] 22)) := (Same.refl w9).alloc _
  have hso : w5.heap.size ≤ (w9.alloc (.cells #[.slice (some ⟨g8, 0, none⟩) nn cap8] 22)).heap.size := Nat.le_trans (Nat.le_trans hs7.size hs79.size) hsB.size
  obtain ⟨v11, w11, hr5, ho5, hg5, _, _⟩ := run_append_own_at (P := Try.prog) (w9.alloc (.cells #[.slice (some ⟨g8, 0, none⟩) nn cap8] 22)) w5.heap.size 41 41 22 i2 (.slice none 0 0) 1 24 Try.underlying41 ni nz0 nz1 nz2 rfl (by decide) (.slice (some ⟨g6, 0, none⟩) n cap6) n vs (ho39.alloc _) ⟨w9.heap.size, 0, none⟩ 1 1 [.slice (some ⟨g8, 0, none⟩) nn cap8] rfl (one_new _ _ _) (by intro u hu; simp at hu; subst hu; rfl) (by unfold maxLen; omega) (by omega) hso
  have hs11 : Same w5 w11 := Below.grown ((hs7.trans hs79).trans hsB) hg5 hso (fun k hk => (ho39.lt k hk).1)
  have h6 : ∃ cur f, (w9.alloc (.cells #[.slice (some ⟨g8, 0, none⟩) nn cap8] 22)).heap[g6]? = some (.cells cur 22 f) := by
    obtain ⟨_, k1 | ⟨g, cap, cur, hv, hb, hh, _⟩⟩ := ho39.alloc (.cells #[.slice (some ⟨g8, 0, none⟩) nn cap8] 22)
    · cases k1.1
    · injection hv with e1 e2 e3
      injection e1 with e1
      injection e1 with e1
      subst e1
      exact ⟨_, _, hh⟩
  obtain ⟨cur6, f6, h6⟩ := h6
  have hnb : NotB w11 (.slice (some ⟨g8, 0, none⟩) nn cap8) l := ((NotB.of_row ho4 hn.len).stay (Stay.of_same hsB)).grown (g := 0) hg5 h6
  have hv11 : ∃ g cap, v11 = .slice (some ⟨g, 0, none⟩) (n + 1) cap ∧ n + 1 ≤ cap := by
    obtain ⟨_, k1 | ⟨g, cap, cur, hv, hb, _, hk, _⟩⟩ := ho5
    · omega
    · exact ⟨g, cap, hv, hk⟩
  obtain ⟨g11, cap11, rfl, hcap11⟩ := hv11
  refine ⟨g6, cap6, w7, g8, cap8, w9, g11, cap11, w11, hr3, hr4, hr5, NtsB.of_row ho5 (by simp [hl]) (fun j hj => ?_), hcap11, hs11⟩
  by_cases hjn : j < n
  · obtain ⟨v, e, hb⟩ := hvn j hjn
    exact ⟨v, by rw [List.getElem?_append_left (by omega)]; exact e, by rw [show (ls ++ [l]).getD j [] = ls.getD j [] by simp [List.getD, List.getElem?_append, hl, hjn]]; exact hb.stay (Stay.of_same hs11)⟩
  · obtain rfl : j = n := by omega
    exact ⟨.slice (some ⟨g8, 0, none⟩) nn cap8, by rw [List.getElem?_append_right (by omega), hvl]; simp, by rw [show (ls ++ [l]).getD j [] = l by simp [List.getD, List.getElem?_append, hl]]; exact hnb⟩
theorem IntsB.drop1 {w : World} {g : Nat} {xs : List Int} (h : IntsB w (some ⟨g, 0, none⟩) xs) : IntsB w (some ⟨g, 1, none⟩) (xs.drop 1) := ⟨fun h0 => by
  rw [List.length_drop] at h0
  obtain ⟨g', off, cur, f, e, hh, hc⟩ := h.cells (by omega)
  injection e with e
  injection e with e1 e2 e3
  subst e1 e2
  refine ⟨g, 1, cur, f, rfl, hh, fun j hj => ?_⟩
  rw [List.length_drop] at hj
  have := hc (1 + j) (by omega)
  rw [Nat.zero_add] at this
  rw [this]
  simp [List.getD, Nat.add_comm]⟩
theorem NtsB.drop1 {w : World} {g : Nat} {ls : List (List NoteD)} (h : NtsB w (some ⟨g, 0, none⟩) ls) : NtsB w (some ⟨g, 1, none⟩) (ls.drop 1) := ⟨fun h0 => by
  rw [List.length_drop] at h0
  obtain ⟨g', off, cur, f, e, hh, hc⟩ := h.cells (by omega)
  injection e with e
  injection e with e1 e2 e3
  subst e1 e2
  refine ⟨g, 1, cur, f, rfl, hh, fun j hj => ?_⟩
  rw [List.length_drop] at hj
  obtain ⟨v, hv, hb⟩ := hc (1 + j) (by omega)
  rw [Nat.zero_add] at hv
  exact ⟨v, hv, by rw [show (ls.drop 1).getD j [] = ls.getD (1 + j) [] by simp [List.getD, Nat.add_comm]]; exact hb⟩⟩
set_option maxRecDepth 100000 in
set_option maxHeartbeats 6400000 in
theorem refDeliver_any (pb : Nat) (L : List RRnd) (cnt x : Int) (na : Option Addr) (nn nc : Nat) (l : List NoteD) (hL : L.length ≤ 16) (hcnt : 0 ≤ cnt ∧ cnt ≤ 99999) (hnn : nn ≤ 1000000) (w : World) (h : RefAt w pb L cnt) (hn : NotesAt w na nn l) (hne : 0 < nn → ∀ ad, na = some ad → ad.block ≠ pb) :
    Calls Try.prog 10 #[.pointer (some ⟨pb, 0, none⟩), .int .i64 x, .slice na nn nc] w fun z w' => z = .returned (.bool (okL L x)) ∧ RefAt w' pb (delL L x l) (cntL L x cnt) ∧ Only pb w w' := by
  obtain ⟨a1, c1, a2, c2, hp, hl1, hl2, h1, h2⟩ := h.ex
  have H1 := Lib.hid h1
  have H2 := Lib.hid h2
  have HR := Lib.hid h
  have HP := Lib.hid hp
  have HN := Lib.hid hn
  have HNE := Lib.hid hne
  have HLN := Lib.hid hn.len
  obtain ⟨n, en⟩ : ∃ n, L.length = n := ⟨_, rfl⟩
  have EN := Lib.hid en
  have k0 : w.cell? ⟨pb, 0, none⟩ = some (.slice a1 n c1) := by rw [cell_at hp, ← en]; rfl
  have HK0 := Lib.hid k0
  rw [en] at hL hl1 hl2
  obtain ⟨ok, eok⟩ : ∃ ok, okL L x = ok := ⟨_, rfl⟩
  have HOK := Lib.hid eok
  clear h hp h1 h2 hn hne en
  go_enter Try.func10, Try.ntmps10
  rw [eok]
  clear eok
  go_upto_region 2 with fail
  go_cut [26] (fun s26 wx => s26 = .bool (!ok) ∧ wx = w)
  case first =>
    by_cases hn0 : n = 0
    · subst hn0
      have HO := Lib.hid (show ok = true by rw [← HOK.out]; unfold okL; rw [EN.out]; rfl)
      go_wp2_with fail
      go_meet
      exact ⟨by rw [HO.out]; rfl, rfl⟩
    · obtain ⟨g, off, cur, f, e1, hh, hc⟩ := H1.out.cells (by rw [List.length_map, EN.out]; omega)
      subst e1
      obtain ⟨n1, rfl⟩ : ∃ n1, n = n1 + 1 := ⟨n - 1, by omega⟩
      obtain ⟨last, elast⟩ : ∃ z, (L.getD n1 (0, [])).1 = z := ⟨_, rfl⟩
      have hcl := hc n1 (by rw [List.length_map, EN.out]; omega)
      have e2 : (L.map (·.1)).getD n1 0 = last := by rw [← elast]; simp [List.getD, List.getElem?_map]; cases L[n1]? <;> rfl
      rw [e2] at hcl
      have hlast : w.cell? ⟨g, off + n1, none⟩ = some (.int .i64 last) := by rw [cell_at hh]; exact hcl
      have HO := Lib.hid (show ok = decide (last < x) by rw [← HOK.out]; unfold okL; rw [EN.out, show n1 + 1 - 1 = n1 by omega, elast]; simp)
      have hi0 : (0 : Int) ≤ n1 := by omega
      have hi1 : (n1 : Int) < n1 + 1 := by omega
      have hwr : IntKind.i64.wrap (n1 : Int) = n1 := by simp [go_sem, IntKind.wrap_i64, wrap64]; omega
      clear hc hcl e2 elast hh hn0
      go_wp2_with fail
      go_meet
      exact ⟨by rw [HO.out]; exact congrArg Value.bool (geq_not last x), rfl⟩
  case rest =>
    obtain ⟨e26, ew⟩ := hcut
    subst e26 ew
    obtain ⟨wa, rfl⟩ : ∃ wz, wz = wc := ⟨_, rfl⟩
    cases ok
    · go_wp2_with fail
      go_ret
      exact ⟨rfl, by unfold delL cntL; rw [HOK.out]; exact HR.out, Only.refl _ _⟩
    go_upto_region 4 with fail
    obtain ⟨i1, hi, hz0, hz1, hz2⟩ := info_parts info_int
    have hpl : pb < wa.heap.size := (Array.getElem?_eq_some_iff.1 HP.out).1
    have hlm : (L.map (·.1)).length = n := by rw [List.length_map, EN.out]
    obtain ⟨g1, cap1, w2, hr1, ho1, hg1⟩ := append_all (wa.alloc (.cells #[] 3)) wa.heap.size wa.heap.size 40 40 3 i1 (.int .i64 0) 1 8 Try.underlying40 hi hz0 hz1 hz2 rfl (by decide) (row_empty _ _ _ _ (Nat.le_refl _)) a1 n c1 ((L.map (·.1)).map (Value.int .i64)) (by simp [EN.out]) ((H1.out.stay (Stay.of_same ((Same.refl wa).alloc _))).news hlm) (ints_one _) (by unfold maxLen; omega) (by omega) (by simp)
    have hs2 : Same wa w2 := Below.grown ((Same.refl wa).alloc (.cells #[] 3)) hg1 (by simp) (fun k hk => by injection hk with hk; omega)
    obtain ⟨v4, w4, hr2, ho2, hg2, _, _⟩ := run_append_own_at (P := Try.prog) (w2.alloc (.cells #[.int .i64 x] 3)) wa.heap.size 40 40 3 i1 (.int .i64 0) 1 8 Try.underlying40 hi hz0 hz1 hz2 rfl (by decide) _ n _ (ho1.alloc _) ⟨w2.heap.size, 0, none⟩ 1 1 [.int .i64 x] rfl (one_new _ _ _) (one_cellI _ _) (by unfold maxLen; omega) (by omega) (by have := hs2.size; simp; omega)
    have hs4 : Same wa w4 := Below.grown (hs2.alloc (.cells #[.int .i64 x] 3)) hg2 (by have := hs2.size; simp; omega) (fun k hk => (ho1.lt k hk).1)
    have hv4 : ∃ g2 cap2, v4 = .slice (some ⟨g2, 0, none⟩) (n + 1) cap2 ∧ n + 1 ≤ cap2 ∧ wa.heap.size ≤ g2 := by
      obtain ⟨_, k1 | ⟨g, cap, cur, hv, hb, _, hk, _⟩⟩ := ho2
      · omega
      · exact ⟨g, cap, hv, hk, hb⟩
    obtain ⟨g2, cap2, rfl, hcap2, hg2b⟩ := hv4
    have hI4 : IntsB w4 (some ⟨g2, 0, none⟩) (L.map (·.1) ++ [x]) := IntsB.of_row (n := n + 1) (by rw [List.map_append]; exact ho2) (by simp [EN.out])
    have hp4 : w4.heap[pb]? = some (.cells #[.slice a1 n c1, .slice a2 n c2, .int .i64 cnt] 43 (0, 0)) := by rw [hs4.block pb hpl, HP.out, EN.out]
    have p40 : w4.cell? ⟨pb, 0, none⟩ = some (.slice a1 n c1) := by rw [cell_at hp4]; rfl
    have f40 : w4.frozen? ⟨pb, 0, none⟩ = false := free_at hp4
    obtain ⟨w5, ew5⟩ : ∃ w5, w4.setCell ⟨pb, 0, none⟩ (.slice (some ⟨g2, 0, none⟩) (n + 1) cap2) = w5 := ⟨_, rfl⟩
    have hon5 : Only pb w4 w5 := by rw [← ew5]; exact Only.set _ _ _
    have hp5 : w5.heap[pb]? = some (.cells #[.slice (some ⟨g2, 0, none⟩) (n + 1) cap2, .slice a2 n c2, .int .i64 cnt] 43 (0, 0)) := by rw [← ew5]; exact heap_set hp4 _
    have hst5 : Stay wa w5 := (Stay.of_same hs4).trans (Stay.of_only hon5 hp4)
    have hO5 := (Only.of_same hs4 (pb := pb)).trans hon5
    have HR1 := Lib.hid hr1
    have HR2 := Lib.hid hr2
    have EW5 := Lib.hid ew5
    have HP5 := Lib.hid hp5
    have HI5 := Lib.hid (hI4.stay (Stay.of_only hon5 hp4))
    have H25 := Lib.hid (H2.out.stay hst5)
    have HN5 := Lib.hid (HN.out.only hO5 HNE.out)
    have HO5 := Lib.hid hO5
    have HII := Lib.hid (And.intro hi (And.intro hz0 (And.intro hz1 hz2)))
    clear hr1 hr2 ho1 ho2 hg1 hg2 hs2 hs4 hI4 hp4 ew5 hon5 hp5 hst5 hO5 hi hz0 hz1 hz2 hlm
    go_upto_region 5 with (first
      | (at_builtin; refine wpList_append_run rfl _ _ _ rfl _ (Eq.refl (Value.slice (some ⟨wa.heap.size, 0, none⟩) 0 0)) _ rfl HR1.out ?_)
      | (at_builtin; refine wpList_append_run rfl _ _ _ rfl _ (Eq.refl (Value.slice (some ⟨g1, 0, none⟩) n cap1)) _ rfl HR2.out ?_))
    rw [EW5.out]
    clear p40 f40 EW5 HR1 HR2 k0
    obtain ⟨g6, cap6, w7, g8, cap8, w9, g11, cap11, w11, hr3, hr4, hr5, hnts, hcap11, hs11⟩ := ref_notes w5 a2 n c2 (L.map (·.2)) na nn nc l (by rw [List.length_map, EN.out]) hL hnn H25.out HN5.out
    have hp5l : pb < w5.heap.size := (Array.getElem?_eq_some_iff.1 HP5.out).1
    have hp11 : w11.heap[pb]? = some (.cells #[.slice (some ⟨g2, 0, none⟩) (n + 1) cap2, .slice a2 n c2, .int .i64 cnt] 43 (0, 0)) := by rw [hs11.block pb hp5l, HP5.out]
    have p51 : w5.cell? ⟨pb, 1, none⟩ = some (.slice a2 n c2) := by rw [cell_at HP5.out]; rfl
    have p11 : w11.cell? ⟨pb, 1, none⟩ = some (.slice a2 n c2) := by rw [cell_at hp11]; rfl
    have f11 : w11.frozen? ⟨pb, 1, none⟩ = false := free_at hp11
    obtain ⟨w12, ew12⟩ : ∃ w12, w11.setCell ⟨pb, 1, none⟩ (.slice (some ⟨g11, 0, none⟩) (n + 1) cap11) = w12 := ⟨_, rfl⟩
    have hon12 : Only pb w11 w12 := by rw [← ew12]; exact Only.set _ _ _
    have hst12 := Stay.of_only hon12 hp11
    have HP12 := Lib.hid (show w12.heap[pb]? = some (.cells #[.slice (some ⟨g2, 0, none⟩) (n + 1) cap2, .slice (some ⟨g11, 0, none⟩) (n + 1) cap11, .int .i64 cnt] 43 (0, 0)) by rw [← ew12]; exact heap_set hp11 _)
    have HR3 := Lib.hid hr3
    have HR4 := Lib.hid hr4
    have HR5 := Lib.hid hr5
    have HI12 := Lib.hid (HI5.out.stay ((Stay.of_same hs11).trans hst12))
    have HN12 := Lib.hid (hnts.stay hst12)
    have HO12 := Lib.hid (HO5.out.trans ((Only.of_same hs11).trans hon12))
    have EW12 := Lib.hid ew12
    clear hr3 hr4 hr5 hnts hs11 hp11 ew12 hon12 hst12
    go_upto_region 6 with (first
      | (at_builtin; refine wpList_append_run rfl _ _ _ rfl _ (Eq.refl (Value.slice (some ⟨w5.heap.size, 0, none⟩) 0 0)) _ rfl HR3.out ?_)
      | (at_builtin; refine wpList_append_run rfl _ _ _ rfl _ (Eq.refl (Value.slice (some ⟨w7.heap.size, 0, none⟩) 0 0)) _ rfl HR4.out ?_)
      | (at_builtin; refine wpList_append_run rfl _ _ _ rfl _ (Eq.refl (Value.slice (some ⟨g6, 0, none⟩) n cap6)) _ rfl HR5.out ?_))
    rw [EW12.out]
    clear hp5l p51 p11 f11 HR3 HR4 HR5 EW12 HP5 HI5 H25 HN5 HO5
    have q0 : w12.cell? ⟨pb, 0, none⟩ = some (.slice (some ⟨g2, 0, none⟩) (n + 1) cap2) := by rw [cell_at HP12.out]; rfl
    by_cases h16 : n = 16
    · subst h16
      have hn1 : ¬ cap2 = 1 := by omega
      have hn2 : ¬ cap11 = 1 := by omega
      have g0 : w12.frozen? ⟨pb, 0, none⟩ = false := free_at HP12.out
      obtain ⟨w13, ew13⟩ : ∃ w13, w12.setCell ⟨pb, 0, none⟩ (.slice (some ⟨g2, 1, none⟩) 16 (cap2 - 1)) = w13 := ⟨_, rfl⟩
      have HP13 := Lib.hid (show w13.heap[pb]? = some (.cells #[.slice (some ⟨g2, 1, none⟩) 16 (cap2 - 1), .slice (some ⟨g11, 0, none⟩) 17 cap11, .int .i64 cnt] 43 (0, 0)) by rw [← ew13]; exact heap_set HP12.out _)
      have EW13 := Lib.hid ew13
      have hon13 : Only pb w12 w13 := by rw [← ew13]; exact Only.set _ _ _
      have HS13 := Lib.hid (Stay.of_only hon13 HP12.out)
      have HO13 := Lib.hid (HO12.out.trans hon13)
      clear ew13 hon13
      go_upto_region 8 with fail
      rw [EW13.out]
      have q1 : w13.cell? ⟨pb, 1, none⟩ = some (.slice (some ⟨g11, 0, none⟩) 17 cap11) := by rw [cell_at HP13.out]; rfl
      have g1' : w13.frozen? ⟨pb, 1, none⟩ = false := free_at HP13.out
      obtain ⟨w14, ew14⟩ : ∃ w14, w13.setCell ⟨pb, 1, none⟩ (.slice (some ⟨g11, 1, none⟩) 16 (cap11 - 1)) = w14 := ⟨_, rfl⟩
      have hp14 : w14.heap[pb]? = some (.cells #[.slice (some ⟨g2, 1, none⟩) 16 (cap2 - 1), .slice (some ⟨g11, 1, none⟩) 16 (cap11 - 1), .int .i64 cnt] 43 (0, 0)) := by rw [← ew14]; exact heap_set HP13.out _
      have EW14 := Lib.hid ew14
      have hon14 : Only pb w13 w14 := by rw [← ew14]; exact Only.set _ _ _
      have HS14 := Lib.hid (HS13.out.trans (Stay.of_only hon14 HP13.out))
      have HO14 := Lib.hid (HO13.out.trans hon14)
      have q2 : w14.cell? ⟨pb, 2, none⟩ = some (.int .i64 cnt) := by rw [cell_at hp14]; rfl
      have g2' : w14.frozen? ⟨pb, 2, none⟩ = false := free_at hp14
      have hcw : IntKind.i64.wrap (cnt + 1) = cnt + 1 := by simp [go_sem, IntKind.wrap_i64, wrap64]; omega
      have HP14 := Lib.hid hp14
      clear ew14 hon14 hp14 q0 g0
      go_upto_region 9 with fail
      rw [EW14.out]
      clear q1 g1'
      go_wp2_with fail
      go_ret
      have hset := heap_set (o := 2) HP14.out (.int .i64 (cnt + 1))
      have hst := HS14.out.trans (Stay.of_only (Only.set w14 2 (.int .i64 (cnt + 1))) HP14.out)
      have hi := (HI12.out.stay hst).drop1
      have hn := (HN12.out.stay hst).drop1
      have hd : (L ++ [(x, l)]).drop 1 = delL L x l := by unfold delL; rw [HOK.out, EN.out]; rfl
      refine ⟨rfl, ⟨⟨some ⟨g2, 1, none⟩, cap2 - 1, some ⟨g11, 1, none⟩, cap11 - 1, ?_, ?_, ?_, ?_, ?_⟩⟩, HO14.out.trans (Only.set _ _ _)⟩
      · unfold cntL; rw [HOK.out, ← hd, List.length_drop, List.length_append, EN.out]; exact hset
      · rw [← hd, List.length_drop, List.length_append, EN.out]; show 16 ≤ cap2 - 1; omega
      · rw [← hd, List.length_drop, List.length_append, EN.out]; show 16 ≤ cap11 - 1; omega
      · rw [← hd, List.map_drop, List.map_append]; exact hi
      · rw [← hd, List.map_drop, List.map_append]; exact hn
    · have q2 : w12.cell? ⟨pb, 2, none⟩ = some (.int .i64 cnt) := by rw [cell_at HP12.out]; rfl
      have g2' : w12.frozen? ⟨pb, 2, none⟩ = false := free_at HP12.out
      have hcw : IntKind.i64.wrap (cnt + 1) = cnt + 1 := by simp [go_sem, IntKind.wrap_i64, wrap64]; omega
      have hd16 : decide ((n : Int) + 1 > 16) = false := decide_eq_false (by omega)
      go_wp2_with fail
      go_ret
      have hset := heap_set (o := 2) HP12.out (.int .i64 (cnt + 1))
      have hst := Stay.of_only (Only.set w12 2 (.int .i64 (cnt + 1))) HP12.out
      have hi := HI12.out.stay hst
      have hn := HN12.out.stay hst
      have hd : L ++ [(x, l)] = delL L x l := by unfold delL; rw [HOK.out, EN.out, show n + 1 - 16 = 0 by omega]; rfl
      refine ⟨rfl, ⟨⟨some ⟨g2, 0, none⟩, cap2, some ⟨g11, 0, none⟩, cap11, ?_, ?_, ?_, ?_, ?_⟩⟩, HO12.out.trans (Only.set _ _ _)⟩
      · unfold cntL; rw [HOK.out, ← hd, List.length_append, EN.out]; exact hset
      · rw [← hd, List.length_append, EN.out]; exact hcap2
      · rw [← hd, List.length_append, EN.out]; exact hcap11
      · rw [← hd, List.map_append]; exact hi
      · rw [← hd, List.map_append]; exact hn
end Go.Proofs.Ytchmhpfccanamaa
