/- Layer 14: the other one's body. -/
import Derived.Test.YtchmhpfccanamaaDropW2
set_option linter.unusedVariables false
set_option linter.unusedSimpArgs false
namespace Go.Proofs.Ytchmhpfccanamaa
open Go.RowKit
def fetchR (R : List Rnd) (num place : Int) (mine : Body) : Option Body :=
  if idxR R num R.length < 0 then none
  else if ((R.getD (idxR R num R.length).toNat rd0).2 place).length ≠ 2 ∨ idxB ((R.getD (idxR R num R.length).toNat rd0).2 place) mine ((R.getD (idxR R num R.length).toNat rd0).2 place).length < 0 then none
  else some (((R.getD (idxR R num R.length).toNat rd0).2 place).getD (1 - (idxB ((R.getD (idxR R num R.length).toNat rd0).2 place) mine ((R.getD (idxR R num R.length).toNat rd0).2 place).length).toNat) (0, 0))
def bodyV (b : Body) : Value := .agg #[.int .u64 b.1, .int .u64 b.2]
def fetV : Option Body → Value
  | some b => .tuple #[bodyV b, .bool true]
  | none => .tuple #[bodyV (0, 0), .bool false]
theorem idxR_lt (R : List Rnd) (m : Int) : ∀ n, idxR R m n < n ∧ (idxR R m n = -1 ∨ 0 ≤ idxR R m n)
  | 0 => ⟨by unfold idxR; omega, Or.inl rfl⟩
  | n + 1 => by
    have := idxR_lt R m n
    unfold idxR
    split
    · split <;> omega
    · omega
theorem idxB_lt (l : List Body) (m : Body) : ∀ n, idxB l m n < n ∧ (idxB l m n = -1 ∨ 0 ≤ idxB l m n)
  | 0 => ⟨by unfold idxB; omega, Or.inl rfl⟩
  | n + 1 => by
    have := idxB_lt l m n
    unfold idxB
    split
    · split <;> omega
    · omega
/-- what Fetch lays: the number, mine, the result -/
theorem fetch_boxes (w : World) (x e f : Int) : ∃ W nb mb rb, ((w.alloc (.cells #[.int .i64 x] 3)).alloc (.cells #[.int .u64 e, .int .u64 f] 32)).alloc (.cells #[.int .u64 0, .int .u64 0] 32) = W ∧ w.heap.size = nb ∧ nb + 1 = mb ∧ mb + 1 = rb ∧ Same w W ∧ w.heap.size ≤ rb ∧
    W.cell? ⟨nb, 0, none⟩ = some (.int .i64 x) ∧ W.cell? ⟨mb, 0, none⟩ = some (.int .u64 e) ∧ W.cell? ⟨mb, 1, none⟩ = some (.int .u64 f) ∧ W.heap[rb]? = some (.cells #[.int .u64 0, .int .u64 0] 32 (0, 0)) := by
  have s1 : (w.alloc (.cells #[.int .i64 x] 3)).heap.size = w.heap.size + 1 := by simp
  have s2 : ((w.alloc (.cells #[.int .i64 x] 3)).alloc (.cells #[.int .u64 e, .int .u64 f] 32)).heap.size = w.heap.size + 1 + 1 := by simp
  refine ⟨_, _, _, _, rfl, rfl, rfl, rfl, (((Same.refl w).alloc _).alloc _).alloc _, by omega, ?_, ?_, ?_, ?_⟩
  · exact same_cell (((Same.refl _).alloc _).alloc _) (by simp [World.cell?_alloc_new] : (w.alloc (.cells #[.int .i64 x] 3)).cell? ⟨w.heap.size, 0, none⟩ = some (.int .i64 x))
  · rw [← s1]; exact same_cell ((Same.refl _).alloc _) (by simp [World.cell?_alloc_new])
  · rw [← s1]; exact same_cell ((Same.refl _).alloc _) (by simp [World.cell?_alloc_new])
  · rw [← s2]; exact (MapKept.heap_alloc _ _).1
theorem set_two {w0 w : World} {rb : Nat} {p q : Value} {t : TypeId} (h : w.heap[rb]? = some (.cells #[p, q] t (0, 0))) (hs : Same w0 w) (hrb : w0.heap.size ≤ rb) (u v : Value) :
    ((w.setCell ⟨rb, 0, none⟩ u).setCell ⟨rb, 1, none⟩ v).cell? ⟨rb, 0, none⟩ = some u ∧ ((w.setCell ⟨rb, 0, none⟩ u).setCell ⟨rb, 1, none⟩ v).cell? ⟨rb, 1, none⟩ = some v ∧ Same w0 ((w.setCell ⟨rb, 0, none⟩ u).setCell ⟨rb, 1, none⟩ v) := by
  have h2 := heap_set (o := 1) (heap_set (o := 0) h u) v
  refine ⟨by rw [cell_at h2]; rfl, by rw [cell_at h2]; rfl, Below.setCell (Below.setCell hs (p := ⟨rb, 0, none⟩) hrb u) (p := ⟨rb, 1, none⟩) hrb v⟩
theorem fetch_any (B ob : Nat) (R : List Rnd) (cnt x y e f : Int) (hR : R.length ≤ 1000) (hy : U64 y) (w : World) (h : OffAt w B ob R cnt) :
    Calls Try.prog 9 #[.pointer (some ⟨ob, 0, none⟩), .int .i64 x, .int .u64 y, .agg #[.int .u64 e, .int .u64 f]] w fun z w' => z = .returned (fetV (fetchR R x y (e, f))) ∧ Same w w' := by
  obtain ⟨W, nb, mb, rb, eW, e1, e2, e3, hS, hrb, n0, m0, m1, hr0⟩ := fetch_boxes w x e f
  obtain ⟨kv, h1, _, hk⟩ := (h.same hS).ex
  obtain ⟨a, cap, hkv, hr⟩ := hk.cells
  subst hkv
  have c0 : W.cell? ⟨ob, 0, none⟩ = some (.slice a R.length cap) := by rw [cell_at h1]; rfl
  have H := Lib.hid hr
  have EW := Lib.hid eW
  have E1 := Lib.hid e1
  have E2 := Lib.hid e2
  have E3 := Lib.hid e3
  have HS := Lib.hid hS
  have HRB := Lib.hid hr0
  have HRS := Lib.hid hrb
  clear h h1 hk hr eW e1 e2 e3 hS hr0 hrb
  go_enter Try.func9, Try.ntmps9
  go_upto_region 1 with fail
  rw [EW.out, E1.out, E2.out, E3.out]
  go_wp2_with fail
  refine (indexFunc_any a cap nb R x hR _ H.out n0).mono ?_
  rintro e1 w2 ⟨rfl, hT⟩
  obtain ⟨k, ek⟩ : ∃ k, idxR R x R.length = k := ⟨_, rfl⟩
  have EK := Lib.hid ek
  have hk1 := idxR_lt R x R.length
  rw [ek] at hk1 ⊢
  have q0 := same_cell hT c0
  have q1 := same_cell hT m0
  have q2 := same_cell hT m1
  have HR2 : w2.heap[rb]? = some (.cells #[.int .u64 0, .int .u64 0] 32 (0, 0)) := by rw [hT.block rb (Array.getElem?_eq_some_iff.1 HRB.out).1]; exact HRB.out
  have H2 := Lib.hid (H.out.same hT)
  have HS2 := Lib.hid (HS.out.trans hT)
  clear ek c0 m0 m1 n0 hT
  have r0 : w2.cell? ⟨rb, 0, none⟩ = some (.int .u64 0) := by rw [cell_at HR2]; rfl
  have r1 : w2.cell? ⟨rb, 1, none⟩ = some (.int .u64 0) := by rw [cell_at HR2]; rfl
  have f0 : w2.frozen? ⟨rb, 0, none⟩ = false := free_at HR2
  have f1 : w2.frozen? ⟨rb, 1, none⟩ = false := free_at HR2
  by_cases hneg : k < 0
  · have HV := Lib.hid (show fetchR R x y (e, f) = none by unfold fetchR; rw [EK.out, if_pos hneg])
    have HZ := Lib.hid (set_two HR2 HS2.out HRS.out (.int .u64 0) (.int .u64 0))
    go_wp2_with fail
    obtain ⟨p0, p1, pS⟩ := HZ.out
    refine bodyPost_ret (by simp [results, Try.results9, go_sem, p0, p1]; try rfl) rfl ?_
    exact ⟨by rw [HV.out]; rfl, pS⟩
  obtain ⟨kk, rfl⟩ := Int.eq_ofNat_of_zero_le (show 0 ≤ k by omega)
  obtain ⟨n, en⟩ : ∃ n, R.length = n := ⟨_, rfl⟩
  have EN := Lib.hid en
  rw [en] at hk1 hR q0
  have hkn : kk < n := by have := hk1.1; simpa using this
  obtain ⟨b, off, ha, hcs⟩ := H2.out.cells (by rw [EN.out]; omega)
  subst ha
  obtain ⟨m, _, g1, hF⟩ := hcs kk (by rw [EN.out]; exact hkn)
  obtain ⟨nn, V, hV, hV2⟩ := hF.ex
  have hlook := hV.lookup hy
  obtain ⟨l, el⟩ : ∃ l, (R.getD kk rd0).2 y = l := ⟨_, rfl⟩
  have hrow := hV2 y hy
  rw [el] at hrow
  obtain ⟨a2, cap2, hv, hp⟩ := hrow.pairs
  rw [hv] at hlook
  have hHF := Lib.hid (show fetchR R x y (e, f) = if l.length ≠ 2 ∨ idxB l (e, f) l.length < 0 then none else some (l.getD (1 - (idxB l (e, f) l.length).toNat) (0, 0)) by
    unfold fetchR
    rw [EK.out, if_neg hneg]
    simp only [Int.toNat_natCast, Int.ofNat_eq_natCast]
    rw [el])
  obtain ⟨ln, eln⟩ : ∃ ln, l.length = ln := ⟨_, rfl⟩
  rw [eln] at hlook hp hHF
  have HP := Lib.hid hp
  have hls := hp.small
  have hi0 : (0 : Int) ≤ kk := by omega
  have hi1 : (kk : Int) < n := by omega
  simp only [Int.ofNat_eq_natCast] at *
  clear hcs hV hV2 hrow hF hv en el hp hneg
  go_wp2_with fail
  refine (index_any a2 ln cap2 l e f _ HP.out).mono ?_
  rintro e1 w3 ⟨rfl, hT⟩
  have HR3 : w3.heap[rb]? = some (.cells #[.int .u64 0, .int .u64 0] 32 (0, 0)) := by rw [hT.block rb (Array.getElem?_eq_some_iff.1 HR2).1]; exact HR2
  have HS3 := Lib.hid (HS2.out.trans hT)
  have HP3 := Lib.hid (HP.out.same hT)
  clear r0 r1 f0 f1 HR2 q0 q1 q2 g1 hlook hT
  have r0 : w3.cell? ⟨rb, 0, none⟩ = some (.int .u64 0) := by rw [cell_at HR3]; rfl
  have r1 : w3.cell? ⟨rb, 1, none⟩ = some (.int .u64 0) := by rw [cell_at HR3]; rfl
  have f0 : w3.frozen? ⟨rb, 0, none⟩ = false := free_at HR3
  have f1 : w3.frozen? ⟨rb, 1, none⟩ = false := free_at HR3
  obtain ⟨j, ej⟩ : ∃ j, idxB l (e, f) ln = j := ⟨_, rfl⟩
  have hj := idxB_lt l (e, f) ln
  rw [ej] at hj hHF ⊢
  by_cases hl2 : ln = 2
  case neg =>
    have d0 : ((ln : Int) != 2) = true := by simp; omega
    have HV := Lib.hid (show fetchR R x y (e, f) = none by rw [hHF.out, if_pos (Or.inl hl2)])
    have HZ := Lib.hid (set_two HR3 HS3.out HRS.out (.int .u64 0) (.int .u64 0))
    go_wp2_with fail
    obtain ⟨p0, p1, pS⟩ := HZ.out
    refine bodyPost_ret (by simp [results, Try.results9, go_sem, p0, p1]; try rfl) rfl ?_
    exact ⟨by rw [HV.out]; rfl, pS⟩
  subst hl2
  by_cases hjn : j < 0
  · have HV := Lib.hid (show fetchR R x y (e, f) = none by rw [hHF.out, if_pos (Or.inr hjn)])
    have HZ := Lib.hid (set_two HR3 HS3.out HRS.out (.int .u64 0) (.int .u64 0))
    go_wp2_with fail
    obtain ⟨p0, p1, pS⟩ := HZ.out
    refine bodyPost_ret (by simp [results, Try.results9, go_sem, p0, p1]; try rfl) rfl ?_
    exact ⟨by rw [HV.out]; rfl, pS⟩
  obtain ⟨b2, off2, ha2, hc2⟩ := HP3.out.cells (by omega)
  subst ha2
  have g00 := (hc2 0 (by omega)).1
  have g01 := (hc2 0 (by omega)).2
  have g10 := (hc2 1 (by omega)).1
  have g11 := (hc2 1 (by omega)).2
  simp only [Nat.zero_mul, Nat.one_mul, Nat.add_zero] at g00 g01 g10 g11
  rcases (show j = 0 ∨ j = 1 by omega) with rfl | rfl
  · obtain ⟨p, ep⟩ : ∃ p, l.getD 1 (0, 0) = p := ⟨_, rfl⟩
    have HV := Lib.hid (show fetchR R x y (e, f) = some p by rw [hHF.out, if_neg (by simp)]; exact congrArg some ep)
    rw [ep] at g10 g11
    have HZ := Lib.hid (set_two HR3 HS3.out HRS.out (.int .u64 p.1) (.int .u64 p.2))
    clear hc2 ep
    go_wp2_with fail
    obtain ⟨p0, p1, pS⟩ := HZ.out
    refine bodyPost_ret (by simp [results, Try.results9, go_sem, p0, p1]; try rfl) rfl ?_
    exact ⟨by rw [HV.out]; rfl, pS⟩
  · obtain ⟨p, ep⟩ : ∃ p, l.getD 0 (0, 0) = p := ⟨_, rfl⟩
    have HV := Lib.hid (show fetchR R x y (e, f) = some p by rw [hHF.out, if_neg (by simp)]; exact congrArg some ep)
    rw [ep] at g00 g01
    have HZ := Lib.hid (set_two HR3 HS3.out HRS.out (.int .u64 p.1) (.int .u64 p.2))
    clear hc2 ep
    go_wp2_with fail
    obtain ⟨p0, p1, pS⟩ := HZ.out
    refine bodyPost_ret (by simp [results, Try.results9, go_sem, p0, p1]; try rfl) rfl ?_
    exact ⟨by rw [HV.out]; rfl, pS⟩
end Go.Proofs.Ytchmhpfccanamaa
