/- Layer 14: a round is delivered. -/
import Derived.Test.YtchmhpfccanamaaDropN
set_option linter.unusedVariables false
set_option linter.unusedSimpArgs false
namespace Go.Proofs.Ytchmhpfccanamaa
open Go.RowKit
def cntD (R : List Rnd) (x cnt : Int) : Int := if okD R x = true then cnt + 1 else cnt
theorem KeptAt.room {w : World} {B g off cap n : Nat} {R : List Rnd} (h : KeptAt w B (.slice (some ⟨g, off, none⟩) n cap) R) : R.length ≤ cap := by
  rcases h.ex with ⟨h1, _⟩ | ⟨_, _, _, _, h1, _, _, h4, _⟩
  · cases h1
  · injection h1 with e1 e2 e3; omega
theorem KeptAt.cut_n {w : World} {B g off cap lo m : Nat} {R : List Rnd} (hm : R.length = m) (h : KeptAt w B (.slice (some ⟨g, off, none⟩) m cap) R) (hlo : lo ≤ m) : KeptAt w B (.slice (some ⟨g, off + lo * 2, none⟩) (m - lo) (cap - lo)) (R.drop lo) := by subst hm; exact h.cut hlo
theorem geq_not (a b : Int) : decide (a ≥ b) = !decide (a < b) := by by_cases h : a < b <;> simp [h] <;> omega
set_option maxRecDepth 100000 in
set_option maxHeartbeats 6400000 in
theorem deliver_any (B ob : Nat) (R : List Rnd) (cnt num : Int) (na : Option Addr) (nn nc : Nat) (l : List NoteD) (hR : R.length ≤ 16) (hcnt : 0 ≤ cnt ∧ cnt ≤ 99999) (hnn : nn ≤ 1000000) (w : World) (h : OffAt w B ob R cnt) (hn : NotesAt w na nn l) :
    Calls Try.prog 8 #[.pointer (some ⟨ob, 0, none⟩), .int .i64 num, .slice na nn nc] w fun z w' => z = .returned (.bool (okD R num)) ∧ OffAt w' B ob (delR R num l) (cntD R num cnt) ∧ Keep w w' ∧ Below B w w' := by
  obtain ⟨w1d, ew1d⟩ : ∃ w1d, w.drew = w1d := ⟨_, rfl⟩
  have hSd : Same w w1d := by rw [← ew1d]; exact drew_same _
  obtain ⟨kv, ho, hBo, hk⟩ := (h.same hSd).ex
  have hobw : ob < w.heap.size := by
    obtain ⟨_, h1, _⟩ := h.ex
    exact (Array.getElem?_eq_some_iff.1 h1).1
  have HN := Lib.hid (hn.same hSd)
  have HLN := Lib.hid hn.len
  have HO := Lib.hid ho
  have HK := Lib.hid hk
  have HWD := Lib.hid hSd
  have HBB := Lib.hid (show B ≤ w.heap.size by omega)
  have HBO := Lib.hid hBo
  have EWD := Lib.hid ew1d
  have HOF := Lib.hid h
  have HCN := Lib.hid hcnt
  obtain ⟨a, cap0, hkv, hcs⟩ := hk.cells
  have HCS := Lib.hid hcs
  have hc0 : w1d.cell? ⟨ob, 0, none⟩ = some kv := by rw [cell_at ho]; rfl
  have HC0 := Lib.hid hc0
  obtain ⟨n, en⟩ : ∃ n, R.length = n := ⟨_, rfl⟩
  have EN := Lib.hid en
  rw [en] at hkv hR
  have EKV := Lib.hid hkv
  have hmm := @run_makeMap Try.prog
  obtain ⟨i0, hi, hz0, hz1, hz2⟩ := info_parts info_body
  have HII := Lib.hid (And.intro hi (And.intro hz0 (And.intro hz1 hz2)))
  clear ew1d hSd ho hk h hn hBo hcs hc0 en hcnt hobw hkv hi hz0 hz1 hz2
  go_enter Try.func8, Try.ntmps8
  go_upto_region 1 with fail
  obtain ⟨okb, eokb⟩ : ∃ okb, okD R num = okb := ⟨_, rfl⟩
  have HOB := Lib.hid eokb
  clear eokb
  go_cut [36] (fun s36 wx => s36 = .bool (!okb) ∧ wx = w1d)
  case first =>
    by_cases hn0 : n = 0
    · subst hn0
      have HOK := Lib.hid (show okb = true by rw [← HOB.out]; unfold okD; rw [EN.out]; rfl)
      have HS1 := Lib.hid (show S1 w1d ob (.slice a 0 cap0) (fun _ => True) w1d by rw [← EKV.out]; exact ⟨HC0.out, trivial, Same.refl _⟩)
      have e0 : ((0 : Nat) : Int) = 0 := rfl
      refine wp_region_held_drew (S := fun w' => S1 w1d ob (.slice a 0 cap0) (fun _ => True) w') (by kernel_rfl) (by rw [EWD.out]; exact HS1.out) (fun hHeld => ?_)
      rw [EWD.out] at hHeld ⊢
      refine wpAnyH_take (i := 0) (v := ?_) rfl (by kernel_rfl) (by kernel_rfl) (by kernel_rfl) (fun _ _ _ h => h) (Or.inl ⟨by rfl, ?_⟩) (by assumption) ?_
      rotate_left
      · intro w hSw; (try dsimp only at hSw); go_simp; try with_reducible rfl
      try simp only [Act.put, List.getElem_toArray, List.getElem_cons_succ, List.getElem_cons_zero, List.setIfInBounds_toArray, List.set_cons_zero, List.set_cons_succ]
      refine wpAnyH_take (i := 1) (v := ?_) rfl (by kernel_rfl) (by kernel_rfl) (by kernel_rfl) (fun _ _ _ h => h) (Or.inl ⟨by rfl, ?_⟩) (by assumption) ?_
      rotate_left
      · intro w hSw; (try dsimp only at hSw); go_simp; try with_reducible rfl
      try simp only [Act.put, List.getElem_toArray, List.getElem_cons_succ, List.getElem_cons_zero, List.setIfInBounds_toArray, List.set_cons_zero, List.set_cons_succ]
      refine wpAnyH_take (i := 2) (v := ?_) rfl (by kernel_rfl) (by kernel_rfl) (by kernel_rfl) (fun _ _ _ h => h) (Or.inl ⟨by rfl, ?_⟩) (by assumption) ?_
      rotate_left
      · intro w hSw; (try dsimp only at hSw); go_simp; try with_reducible rfl
      try simp only [Act.put, List.getElem_toArray, List.getElem_cons_succ, List.getElem_cons_zero, List.setIfInBounds_toArray, List.set_cons_zero, List.set_cons_succ]
      refine wpAnyH_take (i := 3) (v := ?_) rfl (by kernel_rfl) (by kernel_rfl) (by kernel_rfl) (fun _ _ _ h => h) (Or.inl ⟨by rfl, ?_⟩) (by assumption) ?_
      rotate_left
      · intro w hSw; (try dsimp only at hSw); go_simp; try with_reducible rfl
      try simp only [Act.put, List.getElem_toArray, List.getElem_cons_succ, List.getElem_cons_zero, List.setIfInBounds_toArray, List.set_cons_zero, List.set_cons_succ]
      refine wpAnyH_take (i := 4) (v := ?_) rfl (by kernel_rfl) (by kernel_rfl) (by kernel_rfl) (fun _ _ _ h => h) (Or.inl ⟨by rfl, ?_⟩) (by assumption) ?_
      rotate_left
      · intro w hSw; (try dsimp only at hSw); go_simp; try with_reducible rfl
      try simp only [Act.put, List.getElem_toArray, List.getElem_cons_succ, List.getElem_cons_zero, List.setIfInBounds_toArray, List.set_cons_zero, List.set_cons_succ]
      refine wpAnyH_take (i := 5) (v := ?_) rfl (by kernel_rfl) (by kernel_rfl) (by kernel_rfl) (fun _ _ _ h => h) (Or.inl ⟨by rfl, ?_⟩) (by assumption) ?_
      rotate_left
      · intro w hSw; (try dsimp only at hSw); go_simp; try with_reducible rfl
      try simp only [Act.put, List.getElem_toArray, List.getElem_cons_succ, List.getElem_cons_zero, List.setIfInBounds_toArray, List.set_cons_zero, List.set_cons_succ]
      refine wpAnyH_take (i := 6) (v := ?_) rfl (by kernel_rfl) (by kernel_rfl) (by kernel_rfl) (fun _ _ _ h => h) (Or.inl ⟨by rfl, ?_⟩) (by assumption) ?_
      rotate_left
      · intro w hSw; (try dsimp only at hSw); go_simp; try with_reducible rfl
      try simp only [Act.put, List.getElem_toArray, List.getElem_cons_succ, List.getElem_cons_zero, List.setIfInBounds_toArray, List.set_cons_zero, List.set_cons_succ]
      refine wpAnyH_take (i := 7) (v := ?_) rfl (by kernel_rfl) (by kernel_rfl) (by kernel_rfl) (fun _ _ _ h => h) (Or.inl ⟨by rfl, ?_⟩) (by assumption) ?_
      rotate_left
      · intro w hSw; (try dsimp only at hSw); go_simp; try with_reducible rfl
      try simp only [Act.put, List.getElem_toArray, List.getElem_cons_succ, List.getElem_cons_zero, List.setIfInBounds_toArray, List.set_cons_zero, List.set_cons_succ]
      refine wpAnyH_take (i := 8) (v := ?_) rfl (by kernel_rfl) (by kernel_rfl) (by kernel_rfl) (fun _ _ _ h => h) (Or.inl ⟨by rfl, ?_⟩) (by assumption) ?_
      rotate_left
      · intro w hSw; (try dsimp only at hSw); go_simp; try with_reducible rfl
      try simp only [Act.put, List.getElem_toArray, List.getElem_cons_succ, List.getElem_cons_zero, List.setIfInBounds_toArray, List.set_cons_zero, List.set_cons_succ]
      refine wpAnyH_take (i := 9) (v := ?_) rfl (by kernel_rfl) (by kernel_rfl) (by kernel_rfl) (fun _ _ _ h => h) (Or.inl ⟨by rfl, ?_⟩) (by assumption) ?_
      rotate_left
      · intro w hSw; (try dsimp only at hSw); go_simp; try with_reducible rfl
      try simp only [Act.put, List.getElem_toArray, List.getElem_cons_succ, List.getElem_cons_zero, List.setIfInBounds_toArray, List.set_cons_zero, List.set_cons_succ]
      refine wpAnyH_take (i := 10) (v := undef) rfl (by kernel_rfl) (by kernel_rfl) (by kernel_rfl) (fun _ _ _ h => h) (Or.inr ⟨by rfl, rfl⟩) (by assumption) ?_
      try simp only [Act.put, List.getElem_toArray, List.getElem_cons_succ, List.getElem_cons_zero, List.setIfInBounds_toArray, List.set_cons_zero, List.set_cons_succ]
      refine wpAnyH_take (i := 11) (v := undef) rfl (by kernel_rfl) (by kernel_rfl) (by kernel_rfl) (fun _ _ _ h => h) (Or.inr ⟨by rfl, rfl⟩) (by assumption) ?_
      try simp only [Act.put, List.getElem_toArray, List.getElem_cons_succ, List.getElem_cons_zero, List.setIfInBounds_toArray, List.set_cons_zero, List.set_cons_succ]
      refine wpAnyH_take (i := 12) (v := undef) rfl (by kernel_rfl) (by kernel_rfl) (by kernel_rfl) (fun _ _ _ h => h) (Or.inr ⟨by rfl, rfl⟩) (by assumption) ?_
      try simp only [Act.put, List.getElem_toArray, List.getElem_cons_succ, List.getElem_cons_zero, List.setIfInBounds_toArray, List.set_cons_zero, List.set_cons_succ]
      refine wpAnyH_take (i := 13) (v := undef) rfl (by kernel_rfl) (by kernel_rfl) (by kernel_rfl) (fun _ _ _ h => h) (Or.inr ⟨by rfl, rfl⟩) (by assumption) ?_
      try simp only [Act.put, List.getElem_toArray, List.getElem_cons_succ, List.getElem_cons_zero, List.setIfInBounds_toArray, List.set_cons_zero, List.set_cons_succ]
      refine wpAnyH_take (i := 14) (v := undef) rfl (by kernel_rfl) (by kernel_rfl) (by kernel_rfl) (fun _ _ _ h => h) (Or.inr ⟨by rfl, rfl⟩) (by assumption) ?_
      try simp only [Act.put, List.getElem_toArray, List.getElem_cons_succ, List.getElem_cons_zero, List.setIfInBounds_toArray, List.set_cons_zero, List.set_cons_succ]
      refine wpAnyH_take (i := 15) (v := undef) rfl (by kernel_rfl) (by kernel_rfl) (by kernel_rfl) (fun _ _ _ h => h) (Or.inr ⟨by rfl, rfl⟩) (by assumption) ?_
      try simp only [Act.put, List.getElem_toArray, List.getElem_cons_succ, List.getElem_cons_zero, List.setIfInBounds_toArray, List.set_cons_zero, List.set_cons_succ]
      refine wpAnyH_take (i := 16) (v := undef) rfl (by kernel_rfl) (by kernel_rfl) (by kernel_rfl) (fun _ _ _ h => h) (Or.inr ⟨by rfl, rfl⟩) (by assumption) ?_
      try simp only [Act.put, List.getElem_toArray, List.getElem_cons_succ, List.getElem_cons_zero, List.setIfInBounds_toArray, List.set_cons_zero, List.set_cons_succ]
      refine wpAnyH_take (i := 17) (v := undef) rfl (by kernel_rfl) (by kernel_rfl) (by kernel_rfl) (fun _ _ _ h => h) (Or.inr ⟨by rfl, rfl⟩) (by assumption) ?_
      try simp only [Act.put, List.getElem_toArray, List.getElem_cons_succ, List.getElem_cons_zero, List.setIfInBounds_toArray, List.set_cons_zero, List.set_cons_succ]
      refine wpAnyH_take (i := 18) (v := undef) rfl (by kernel_rfl) (by kernel_rfl) (by kernel_rfl) (fun _ _ _ h => h) (Or.inr ⟨by rfl, rfl⟩) (by assumption) ?_
      try simp only [Act.put, List.getElem_toArray, List.getElem_cons_succ, List.getElem_cons_zero, List.setIfInBounds_toArray, List.set_cons_zero, List.set_cons_succ]
      refine wpAnyH_take (i := 19) (v := undef) rfl (by kernel_rfl) (by kernel_rfl) (by kernel_rfl) (fun _ _ _ h => h) (Or.inr ⟨by rfl, rfl⟩) (by assumption) ?_
      try simp only [Act.put, List.getElem_toArray, List.getElem_cons_succ, List.getElem_cons_zero, List.setIfInBounds_toArray, List.set_cons_zero, List.set_cons_succ]
      refine wpAnyH_take (i := 20) (v := undef) rfl (by kernel_rfl) (by kernel_rfl) (by kernel_rfl) (fun _ _ _ h => h) (Or.inr ⟨by rfl, rfl⟩) (by assumption) ?_
      try simp only [Act.put, List.getElem_toArray, List.getElem_cons_succ, List.getElem_cons_zero, List.setIfInBounds_toArray, List.set_cons_zero, List.set_cons_succ]
      refine wpAnyH_take (i := 21) (v := undef) rfl (by kernel_rfl) (by kernel_rfl) (by kernel_rfl) (fun _ _ _ h => h) (Or.inr ⟨by rfl, rfl⟩) (by assumption) ?_
      try simp only [Act.put, List.getElem_toArray, List.getElem_cons_succ, List.getElem_cons_zero, List.setIfInBounds_toArray, List.set_cons_zero, List.set_cons_succ]
      refine wpAnyH_take (i := 22) (v := undef) rfl (by kernel_rfl) (by kernel_rfl) (by kernel_rfl) (fun _ _ _ h => h) (Or.inr ⟨by rfl, rfl⟩) (by assumption) ?_
      try simp only [Act.put, List.getElem_toArray, List.getElem_cons_succ, List.getElem_cons_zero, List.setIfInBounds_toArray, List.set_cons_zero, List.set_cons_succ]
      refine wpAnyH_take (i := 23) (v := undef) rfl (by kernel_rfl) (by kernel_rfl) (by kernel_rfl) (fun _ _ _ h => h) (Or.inr ⟨by rfl, rfl⟩) (by assumption) ?_
      try simp only [Act.put, List.getElem_toArray, List.getElem_cons_succ, List.getElem_cons_zero, List.setIfInBounds_toArray, List.set_cons_zero, List.set_cons_succ]
      refine wpAnyH_take (i := 24) (v := undef) rfl (by kernel_rfl) (by kernel_rfl) (by kernel_rfl) (fun _ _ _ h => h) (Or.inr ⟨by rfl, rfl⟩) (by assumption) ?_
      try simp only [Act.put, List.getElem_toArray, List.getElem_cons_succ, List.getElem_cons_zero, List.setIfInBounds_toArray, List.set_cons_zero, List.set_cons_succ]
      refine wpAnyH_take (i := 25) (v := ?_) rfl (by kernel_rfl) (by kernel_rfl) (by kernel_rfl) (fun _ _ _ h => h) (Or.inl ⟨by rfl, ?_⟩) (by assumption) ?_
      rotate_left
      · intro w hSw; (try dsimp only at hSw); go_simp; try with_reducible rfl
      try simp only [Act.put, List.getElem_toArray, List.getElem_cons_succ, List.getElem_cons_zero, List.setIfInBounds_toArray, List.set_cons_zero, List.set_cons_succ]
      refine wpAnyH_take (i := 26) (v := ?_) rfl (by kernel_rfl) (by kernel_rfl) (by kernel_rfl) (fun _ _ _ h => h) (Or.inl ⟨by rfl, ?_⟩) (by assumption) ?_
      rotate_left
      · intro w hSw; (try dsimp only at hSw); go_simp; try with_reducible rfl
      try simp only [Act.put, List.getElem_toArray, List.getElem_cons_succ, List.getElem_cons_zero, List.setIfInBounds_toArray, List.set_cons_zero, List.set_cons_succ]
      refine wpAnyH_done (by kernel_rfl) ?_ _
      clear hHeld
      go_wp2_with fail
      go_meet
      exact ⟨by rw [HOK.out]; rfl, rfl⟩
    obtain ⟨n1, rfl⟩ : ∃ n1, n = n1 + 1 := ⟨n - 1, by omega⟩
    clear hn0
    obtain ⟨bk, ok, hak, hck⟩ := HCS.out.cells (by rw [EN.out]; omega)
    subst hak
    obtain ⟨mk, hlast, _⟩ := hck n1 (by rw [EN.out]; omega)
    obtain ⟨last, elast⟩ : ∃ z, (R.getD n1 rd0).1 = z := ⟨_, rfl⟩
    rw [elast] at hlast
    have HOK := Lib.hid (show okb = decide (last < num) by rw [← HOB.out]; unfold okD; rw [EN.out, show n1 + 1 - 1 = n1 by omega, elast]; simp)
    have HS1 := Lib.hid (show S1 w1d ob (.slice (some ⟨bk, ok, none⟩) (n1 + 1) cap0) (fun w' => w'.cell? ⟨bk, ok + n1 * 2, none⟩ = some (.int .i64 last)) w1d by rw [← EKV.out]; exact ⟨HC0.out, hlast, Same.refl _⟩)
    clear hck hlast elast
    have hi0 : (0 : Int) ≤ n1 := by omega
    have hi1 : (n1 : Int) < n1 + 1 := by omega
    have hwr : IntKind.i64.wrap (n1 : Int) = n1 := by simp [go_sem, IntKind.wrap_i64, wrap64]; omega
    refine wp_region_held_drew (S := fun w' => S1 w1d ob (.slice (some ⟨bk, ok, none⟩) (n1 + 1) cap0) (fun w' => w'.cell? ⟨bk, ok + n1 * 2, none⟩ = some (.int .i64 last)) w') (by kernel_rfl) (by rw [EWD.out]; exact HS1.out) (fun hHeld => ?_)
    rw [EWD.out] at hHeld ⊢
    refine wpAnyH_take (i := 0) (v := ?_) rfl (by kernel_rfl) (by kernel_rfl) (by kernel_rfl) (fun _ _ _ h => h) (Or.inl ⟨by rfl, ?_⟩) (by assumption) ?_
    rotate_left
    · intro w hSw; (try dsimp only at hSw); go_simp; try with_reducible rfl
    try simp only [Act.put, List.getElem_toArray, List.getElem_cons_succ, List.getElem_cons_zero, List.setIfInBounds_toArray, List.set_cons_zero, List.set_cons_succ]
    refine wpAnyH_take (i := 1) (v := ?_) rfl (by kernel_rfl) (by kernel_rfl) (by kernel_rfl) (fun _ _ _ h => h) (Or.inl ⟨by rfl, ?_⟩) (by assumption) ?_
    rotate_left
    · intro w hSw; (try dsimp only at hSw); go_simp; try with_reducible rfl
    try simp only [Act.put, List.getElem_toArray, List.getElem_cons_succ, List.getElem_cons_zero, List.setIfInBounds_toArray, List.set_cons_zero, List.set_cons_succ]
    refine wpAnyH_take (i := 2) (v := ?_) rfl (by kernel_rfl) (by kernel_rfl) (by kernel_rfl) (fun _ _ _ h => h) (Or.inl ⟨by rfl, ?_⟩) (by assumption) ?_
    rotate_left
    · intro w hSw; (try dsimp only at hSw); go_simp; try with_reducible rfl
    try simp only [Act.put, List.getElem_toArray, List.getElem_cons_succ, List.getElem_cons_zero, List.setIfInBounds_toArray, List.set_cons_zero, List.set_cons_succ]
    refine wpAnyH_take (i := 3) (v := ?_) rfl (by kernel_rfl) (by kernel_rfl) (by kernel_rfl) (fun _ _ _ h => h) (Or.inl ⟨by rfl, ?_⟩) (by assumption) ?_
    rotate_left
    · intro w hSw; (try dsimp only at hSw); go_simp; try with_reducible rfl
    try simp only [Act.put, List.getElem_toArray, List.getElem_cons_succ, List.getElem_cons_zero, List.setIfInBounds_toArray, List.set_cons_zero, List.set_cons_succ]
    refine wpAnyH_take (i := 4) (v := ?_) rfl (by kernel_rfl) (by kernel_rfl) (by kernel_rfl) (fun _ _ _ h => h) (Or.inl ⟨by rfl, ?_⟩) (by assumption) ?_
    rotate_left
    · intro w hSw; (try dsimp only at hSw); go_simp; try with_reducible rfl
    try simp only [Act.put, List.getElem_toArray, List.getElem_cons_succ, List.getElem_cons_zero, List.setIfInBounds_toArray, List.set_cons_zero, List.set_cons_succ]
    refine wpAnyH_take (i := 5) (v := ?_) rfl (by kernel_rfl) (by kernel_rfl) (by kernel_rfl) (fun _ _ _ h => h) (Or.inl ⟨by rfl, ?_⟩) (by assumption) ?_
    rotate_left
    · intro w hSw; (try dsimp only at hSw); go_simp; try with_reducible rfl
    try simp only [Act.put, List.getElem_toArray, List.getElem_cons_succ, List.getElem_cons_zero, List.setIfInBounds_toArray, List.set_cons_zero, List.set_cons_succ]
    refine wpAnyH_take (i := 6) (v := ?_) rfl (by kernel_rfl) (by kernel_rfl) (by kernel_rfl) (fun _ _ _ h => h) (Or.inl ⟨by rfl, ?_⟩) (by assumption) ?_
    rotate_left
    · intro w hSw; (try dsimp only at hSw); go_simp; try with_reducible rfl
    try simp only [Act.put, List.getElem_toArray, List.getElem_cons_succ, List.getElem_cons_zero, List.setIfInBounds_toArray, List.set_cons_zero, List.set_cons_succ]
    refine wpAnyH_take (i := 7) (v := ?_) rfl (by kernel_rfl) (by kernel_rfl) (by kernel_rfl) (fun _ _ _ h => h) (Or.inl ⟨by rfl, ?_⟩) (by assumption) ?_
    rotate_left
    · intro w hSw; (try dsimp only at hSw); go_simp; try with_reducible rfl
    try simp only [Act.put, List.getElem_toArray, List.getElem_cons_succ, List.getElem_cons_zero, List.setIfInBounds_toArray, List.set_cons_zero, List.set_cons_succ]
    refine wpAnyH_take (i := 8) (v := ?_) rfl (by kernel_rfl) (by kernel_rfl) (by kernel_rfl) (fun _ _ _ h => h) (Or.inl ⟨by rfl, ?_⟩) (by assumption) ?_
    rotate_left
    · intro w hSw; (try dsimp only at hSw); go_simp; try with_reducible rfl
    try simp only [Act.put, List.getElem_toArray, List.getElem_cons_succ, List.getElem_cons_zero, List.setIfInBounds_toArray, List.set_cons_zero, List.set_cons_succ]
    refine wpAnyH_take (i := 9) (v := ?_) rfl (by kernel_rfl) (by kernel_rfl) (by kernel_rfl) (fun _ _ _ h => h) (Or.inl ⟨by rfl, ?_⟩) (by assumption) ?_
    rotate_left
    · intro w hSw; (try dsimp only at hSw); go_simp; try with_reducible rfl
    try simp only [Act.put, List.getElem_toArray, List.getElem_cons_succ, List.getElem_cons_zero, List.setIfInBounds_toArray, List.set_cons_zero, List.set_cons_succ]
    refine wpAnyH_take (i := 10) (v := ?_) rfl (by kernel_rfl) (by kernel_rfl) (by kernel_rfl) (fun _ _ _ h => h) (Or.inl ⟨by rfl, ?_⟩) (by assumption) ?_
    rotate_left
    · intro w hSw; (try dsimp only at hSw); go_simp; try with_reducible rfl
    try simp only [Act.put, List.getElem_toArray, List.getElem_cons_succ, List.getElem_cons_zero, List.setIfInBounds_toArray, List.set_cons_zero, List.set_cons_succ]
    refine wpAnyH_take (i := 11) (v := ?_) rfl (by kernel_rfl) (by kernel_rfl) (by kernel_rfl) (fun _ _ _ h => h) (Or.inl ⟨by rfl, ?_⟩) (by assumption) ?_
    rotate_left
    · intro w hSw; (try dsimp only at hSw); go_simp; try with_reducible rfl
    try simp only [Act.put, List.getElem_toArray, List.getElem_cons_succ, List.getElem_cons_zero, List.setIfInBounds_toArray, List.set_cons_zero, List.set_cons_succ]
    refine wpAnyH_take (i := 12) (v := ?_) rfl (by kernel_rfl) (by kernel_rfl) (by kernel_rfl) (fun _ _ _ h => h) (Or.inl ⟨by rfl, ?_⟩) (by assumption) ?_
    rotate_left
    · intro w hSw; (try dsimp only at hSw); go_simp; try with_reducible rfl
    try simp only [Act.put, List.getElem_toArray, List.getElem_cons_succ, List.getElem_cons_zero, List.setIfInBounds_toArray, List.set_cons_zero, List.set_cons_succ]
    refine wpAnyH_take (i := 13) (v := ?_) rfl (by kernel_rfl) (by kernel_rfl) (by kernel_rfl) (fun _ _ _ h => h) (Or.inl ⟨by rfl, ?_⟩) (by assumption) ?_
    rotate_left
    · intro w hSw; (try dsimp only at hSw); go_simp; try with_reducible rfl
    try simp only [Act.put, List.getElem_toArray, List.getElem_cons_succ, List.getElem_cons_zero, List.setIfInBounds_toArray, List.set_cons_zero, List.set_cons_succ]
    refine wpAnyH_take (i := 14) (v := ?_) rfl (by kernel_rfl) (by kernel_rfl) (by kernel_rfl) (fun _ _ _ h => h) (Or.inl ⟨by rfl, ?_⟩) (by assumption) ?_
    rotate_left
    · intro w hSw; (try dsimp only at hSw); go_simp; try with_reducible rfl
    try simp only [Act.put, List.getElem_toArray, List.getElem_cons_succ, List.getElem_cons_zero, List.setIfInBounds_toArray, List.set_cons_zero, List.set_cons_succ]
    refine wpAnyH_take (i := 15) (v := ?_) rfl (by kernel_rfl) (by kernel_rfl) (by kernel_rfl) (fun _ _ _ h => h) (Or.inl ⟨by rfl, ?_⟩) (by assumption) ?_
    rotate_left
    · intro w hSw; (try dsimp only at hSw); go_simp; try with_reducible rfl
    try simp only [Act.put, List.getElem_toArray, List.getElem_cons_succ, List.getElem_cons_zero, List.setIfInBounds_toArray, List.set_cons_zero, List.set_cons_succ]
    refine wpAnyH_take (i := 16) (v := ?_) rfl (by kernel_rfl) (by kernel_rfl) (by kernel_rfl) (fun _ _ _ h => h) (Or.inl ⟨by rfl, ?_⟩) (by assumption) ?_
    rotate_left
    · intro w hSw; (try dsimp only at hSw); go_simp; try with_reducible rfl
    try simp only [Act.put, List.getElem_toArray, List.getElem_cons_succ, List.getElem_cons_zero, List.setIfInBounds_toArray, List.set_cons_zero, List.set_cons_succ]
    refine wpAnyH_take (i := 17) (v := ?_) rfl (by kernel_rfl) (by kernel_rfl) (by kernel_rfl) (fun _ _ _ h => h) (Or.inl ⟨by rfl, ?_⟩) (by assumption) ?_
    rotate_left
    · intro w hSw; (try dsimp only at hSw); go_simp; try with_reducible rfl
    try simp only [Act.put, List.getElem_toArray, List.getElem_cons_succ, List.getElem_cons_zero, List.setIfInBounds_toArray, List.set_cons_zero, List.set_cons_succ]
    refine wpAnyH_take (i := 18) (v := ?_) rfl (by kernel_rfl) (by kernel_rfl) (by kernel_rfl) (fun _ _ _ h => h) (Or.inl ⟨by rfl, ?_⟩) (by assumption) ?_
    rotate_left
    · intro w hSw; (try dsimp only at hSw); go_simp; try with_reducible rfl
    try simp only [Act.put, List.getElem_toArray, List.getElem_cons_succ, List.getElem_cons_zero, List.setIfInBounds_toArray, List.set_cons_zero, List.set_cons_succ]
    refine wpAnyH_take (i := 19) (v := ?_) rfl (by kernel_rfl) (by kernel_rfl) (by kernel_rfl) (fun _ _ _ h => h) (Or.inl ⟨by rfl, ?_⟩) (by assumption) ?_
    rotate_left
    · intro w hSw; (try dsimp only at hSw); go_simp; try with_reducible rfl
    try simp only [Act.put, List.getElem_toArray, List.getElem_cons_succ, List.getElem_cons_zero, List.setIfInBounds_toArray, List.set_cons_zero, List.set_cons_succ]
    refine wpAnyH_take (i := 20) (v := ?_) rfl (by kernel_rfl) (by kernel_rfl) (by kernel_rfl) (fun _ _ _ h => h) (Or.inl ⟨by rfl, ?_⟩) (by assumption) ?_
    rotate_left
    · intro w hSw; (try dsimp only at hSw); go_simp; try with_reducible rfl
    try simp only [Act.put, List.getElem_toArray, List.getElem_cons_succ, List.getElem_cons_zero, List.setIfInBounds_toArray, List.set_cons_zero, List.set_cons_succ]
    refine wpAnyH_take (i := 21) (v := ?_) rfl (by kernel_rfl) (by kernel_rfl) (by kernel_rfl) (fun _ _ _ h => h) (Or.inl ⟨by rfl, ?_⟩) (by assumption) ?_
    rotate_left
    · intro w hSw; (try dsimp only at hSw); go_simp; try with_reducible rfl
    try simp only [Act.put, List.getElem_toArray, List.getElem_cons_succ, List.getElem_cons_zero, List.setIfInBounds_toArray, List.set_cons_zero, List.set_cons_succ]
    refine wpAnyH_take (i := 22) (v := ?_) rfl (by kernel_rfl) (by kernel_rfl) (by kernel_rfl) (fun _ _ _ h => h) (Or.inl ⟨by rfl, ?_⟩) (by assumption) ?_
    rotate_left
    · intro w hSw; (try dsimp only at hSw); go_simp; try with_reducible rfl
    try simp only [Act.put, List.getElem_toArray, List.getElem_cons_succ, List.getElem_cons_zero, List.setIfInBounds_toArray, List.set_cons_zero, List.set_cons_succ]
    refine wpAnyH_take (i := 23) (v := ?_) rfl (by kernel_rfl) (by kernel_rfl) (by kernel_rfl) (fun _ _ _ h => h) (Or.inl ⟨by rfl, ?_⟩) (by assumption) ?_
    rotate_left
    · intro w hSw; (try dsimp only at hSw); go_simp; try with_reducible rfl
    try simp only [Act.put, List.getElem_toArray, List.getElem_cons_succ, List.getElem_cons_zero, List.setIfInBounds_toArray, List.set_cons_zero, List.set_cons_succ]
    refine wpAnyH_take (i := 24) (v := ?_) rfl (by kernel_rfl) (by kernel_rfl) (by kernel_rfl) (fun _ _ _ h => h) (Or.inl ⟨by rfl, ?_⟩) (by assumption) ?_
    rotate_left
    · intro w hSw; (try dsimp only at hSw); go_simp; try with_reducible rfl
    try simp only [Act.put, List.getElem_toArray, List.getElem_cons_succ, List.getElem_cons_zero, List.setIfInBounds_toArray, List.set_cons_zero, List.set_cons_succ]
    refine wpAnyH_take (i := 25) (v := ?_) rfl (by kernel_rfl) (by kernel_rfl) (by kernel_rfl) (fun _ _ _ h => h) (Or.inl ⟨by rfl, ?_⟩) (by assumption) ?_
    rotate_left
    · intro w hSw; (try dsimp only at hSw); go_simp; try with_reducible rfl
    try simp only [Act.put, List.getElem_toArray, List.getElem_cons_succ, List.getElem_cons_zero, List.setIfInBounds_toArray, List.set_cons_zero, List.set_cons_succ]
    refine wpAnyH_take (i := 26) (v := ?_) rfl (by kernel_rfl) (by kernel_rfl) (by kernel_rfl) (fun _ _ _ h => h) (Or.inl ⟨by rfl, ?_⟩) (by assumption) ?_
    rotate_left
    · intro w hSw; (try dsimp only at hSw); go_simp; try with_reducible rfl
    try simp only [Act.put, List.getElem_toArray, List.getElem_cons_succ, List.getElem_cons_zero, List.setIfInBounds_toArray, List.set_cons_zero, List.set_cons_succ]
    refine wpAnyH_done (by kernel_rfl) ?_ _
    clear hHeld
    go_wp2_with fail
    go_meet
    exact ⟨by rw [HOK.out]; exact congrArg Value.bool (geq_not last num), rfl⟩
  case rest =>
    obtain ⟨e36, ew⟩ := hcut
    subst e36 ew
    obtain ⟨wa, rfl⟩ : ∃ wz, wz = wc := ⟨_, rfl⟩
    cases okb
    · go_wp2_with fail
      go_ret
      have hof := HOF.out.same HWD.out
      exact ⟨by rw [HOB.out]; rfl, by unfold delR cntD; rw [HOB.out]; exact hof, Keep.of_same HWD.out, Below.mono HWD.out HBB.out⟩
    go_upto_region 4 with fail
    obtain ⟨mb, emb⟩ : ∃ mb, wa.heap.size = mb := ⟨_, rfl⟩
    obtain ⟨w3, ew3⟩ : ∃ w3, (wa.alloc (.map #[] 0)).alloc (.cells #[.int .i64 num, .map (some mb)] 58) = w3 := ⟨_, rfl⟩
    obtain ⟨rx, erx⟩ : ∃ rx, mb + 1 = rx := ⟨_, rfl⟩
    obtain ⟨base, ebase⟩ : ∃ base, rx + 1 = base := ⟨_, rfl⟩
    have hs3 : w3.heap.size = base := by rw [← ew3, ← ebase, ← erx, ← emb]; simp
    have hM3 : MapB w3 base mb 0 (fun _ => nilS) (fun _ => []) := by rw [← ew3, ← emb]; exact (MapB.made wa base).same ((Same.refl _).alloc _)
    have hsz1 : (wa.alloc (.map #[] 0)).heap.size = rx := by rw [← erx, ← emb]; simp
    have hrx : w3.cell? ⟨rx, 0, none⟩ = some (.int .i64 num) ∧ w3.cell? ⟨rx, 1, none⟩ = some (.map (some mb)) := by rw [← ew3, ← hsz1]; exact ⟨by simp [World.cell?_alloc_new], by simp [World.cell?_alloc_new]⟩
    have hSm3 : Same wa w3 := by rw [← ew3]; exact ((Same.refl _).alloc _).alloc _
    rw [emb, ew3, erx]
    have HM3 := Lib.hid hM3
    have HR3 := Lib.hid (And.intro hrx.1 (And.intro hrx.2 hSm3))
    have HBS := Lib.hid (show base ≤ w3.heap.size ∧ rx < base ∧ mb ≠ rx ∧ wa.heap.size ≤ mb ∧ mb < base ∧ wa.heap.size ≤ base ∧ wa.heap.size ≤ rx by rw [hs3]; omega)
    clear emb ew3 erx ebase hs3 hM3 hsz1 hrx hSm3
    go_wp2_with fail
    go_loopw [42] (fun s42 wr => ∃ (j : Nat), s42 = .int .i64 j ∧ j ≤ nn ∧ Hid (∃ V, MapB wr base mb j V (bodN l j) ∧ (wr.cell? ⟨rx, 0, none⟩ = some (.int .i64 num) ∧ wr.cell? ⟨rx, 1, none⟩ = some (.map (some mb)) ∧ Same wa wr) ∧ w3.heap.size ≤ wr.heap.size)) (fun s42 _ => nn - (intOf s42).toNat)
    case atStart => exact ⟨0, rfl, by omega, Lib.hid ⟨fun _ => nilS, HM3.out, HR3.out, Nat.le_refl _⟩⟩
    case round =>
      obtain ⟨j, rfl, hj, hH⟩ := hrel
      obtain ⟨V, hM0, hRX0, hSZ0⟩ := hH.out
      have hM := Lib.hid hM0
      have hRX := Lib.hid hRX0
      have hSZ := Lib.hid hSZ0
      clear hH hM0 hRX0 hSZ0
      by_cases hltj : j < nn
      · obtain ⟨b, off, ha, hc⟩ := HN.out.cells (by omega)
        subst ha
        have hxs := hc j hltj
        obtain ⟨nt, ent⟩ : ∃ nt, l.getD j nt0 = nt := ⟨_, rfl⟩
        have hux := HN.out.bd j
        rw [ent] at hxs hux
        obtain ⟨x, p, q⟩ := nt
        have HX := Lib.hid hux
        obtain ⟨L, eL⟩ : ∃ L, bodN l j = L := ⟨_, rfl⟩
        have HBN := Lib.hid (show bodN l (j + 1) = upd L x (L x ++ [(p, q)]) by simp only [bodN]; rw [eL, ent])
        rw [eL] at hM
        have k0 := same_cell hRX.out.2.2 hxs.1
        have k1 := same_cell hRX.out.2.2 hxs.2.1
        have k2 := same_cell hRX.out.2.2 hxs.2.2
        have hi0 : (0 : Int) ≤ j := by omega
        have hi1 : (j : Int) < nn := by omega
        clear hc hxs ent hux eL
        go_upto_region 7 with fail
        obtain ⟨nb, enb⟩ : ∃ nb, wr.heap.size = nb := ⟨_, rfl⟩
        obtain ⟨wd, ewd⟩ : ∃ wd, (wr.alloc (.cells #[.int .u64 x, .int .u64 p, .int .u64 q] 25)).drew = wd := ⟨_, rfl⟩
        have hSwd : Same wr wd := by rw [← ewd]; exact ((Same.refl _).alloc _).trans (drew_same _)
        have hszd : wd.heap.size = nb + 1 := by rw [← ewd, ← enb]; simp [World.drew]
        have hnb : wd.cell? ⟨nb, 0, none⟩ = some (.int .u64 x) ∧ wd.cell? ⟨nb, 1, none⟩ = some (.int .u64 p) ∧ wd.cell? ⟨nb, 2, none⟩ = some (.int .u64 q) := by
          rw [← ewd, ← enb]; exact ⟨same_cell (drew_same _) (by simp [World.cell?_alloc_new]), same_cell (drew_same _) (by simp [World.cell?_alloc_new]), same_cell (drew_same _) (by simp [World.cell?_alloc_new])⟩
        have hS7 : S7 wa rx nb (.int .i64 num) (.map (some mb)) x p q wd := ⟨same_cell hSwd hRX.out.1, same_cell hSwd hRX.out.2.1, hnb.1, hnb.2.1, hnb.2.2, hRX.out.2.2.trans hSwd⟩
        have HS7 := Lib.hid hS7
        have HFAR := Lib.hid (MapB.far hM.out (rx := rx) (nb := nb) (W0 := wa) HBS.out.2.1 enb.symm HBS.out.2.2.2.2.2.1)
        have HMB := Lib.hid (show ∀ k, some mb = some k → k ≠ rx ∧ k ≠ nb ∧ wa.heap.size ≤ k by
          intro k hk
          injection hk with hk
          subst hk
          have hb1 := HBS.out
          have hb2 := hSZ.out
          exact ⟨hb1.2.2.1, by omega, hb1.2.2.2.1⟩)
        have HMD := Lib.hid (hM.out.same hSwd)
        have HSZD := Lib.hid (show base ≤ wd.heap.size ∧ w3.heap.size ≤ wd.heap.size by have := HBS.out; have := hSZ.out; omega)
        have EWB := Lib.hid ewd
        rw [enb]
        have hi := HII.out.1
        have hz0 := HII.out.2.1
        have hz1 := HII.out.2.2.1
        have hz2 := HII.out.2.2.2
        clear k0 k1 k2 ewd hSwd hszd hnb hS7 enb
        refine wp_region_held_drew (S := fun w' => S7 wa rx nb (.int .i64 num) (.map (some mb)) x p q w') (by kernel_rfl) (by rw [EWB.out]; exact HS7.out) (fun hHeld => ?_)
        rw [EWB.out] at hHeld ⊢
        refine wpAnyH_take (i := 0) (v := ?_) rfl (by kernel_rfl) (by kernel_rfl) (by kernel_rfl) (fun _ _ _ h => h) (Or.inl ⟨by rfl, ?_⟩) (by assumption) ?_
        rotate_left
        · intro w hSw; (try dsimp only at hSw); go_simp; try with_reducible rfl
        try simp only [Act.put, List.getElem_toArray, List.getElem_cons_succ, List.getElem_cons_zero, List.setIfInBounds_toArray, List.set_cons_zero, List.set_cons_succ]
        refine wpAnyH_take (i := 1) (v := ?_) rfl (by kernel_rfl) (by kernel_rfl) (by kernel_rfl) (fun _ _ _ h => h) (Or.inl ⟨by rfl, ?_⟩) (by assumption) ?_
        rotate_left
        · intro w hSw; (try dsimp only at hSw); go_simp; try with_reducible rfl
        try simp only [Act.put, List.getElem_toArray, List.getElem_cons_succ, List.getElem_cons_zero, List.setIfInBounds_toArray, List.set_cons_zero, List.set_cons_succ]
        refine wpAnyH_take (i := 2) (v := ?_) rfl (by kernel_rfl) (by kernel_rfl) (by kernel_rfl) (fun _ _ _ h => h) (Or.inl ⟨by rfl, ?_⟩) (by assumption) ?_
        rotate_left
        · intro w hSw; (try dsimp only at hSw); go_simp; try with_reducible rfl
        try simp only [Act.put, List.getElem_toArray, List.getElem_cons_succ, List.getElem_cons_zero, List.setIfInBounds_toArray, List.set_cons_zero, List.set_cons_succ]
        refine wpAnyH_take (i := 3) (v := ?_) rfl (by kernel_rfl) (by kernel_rfl) (by kernel_rfl) (fun _ _ _ h => h) (Or.inl ⟨by rfl, ?_⟩) (by assumption) ?_
        rotate_left
        · intro w hSw; (try dsimp only at hSw); go_simp; try with_reducible rfl
        try simp only [Act.put, List.getElem_toArray, List.getElem_cons_succ, List.getElem_cons_zero, List.setIfInBounds_toArray, List.set_cons_zero, List.set_cons_succ]
        refine wpAnyH_take (i := 4) (v := ?_) rfl (by kernel_rfl) (by kernel_rfl) (by kernel_rfl) (fun _ _ _ h => h) (Or.inl ⟨by rfl, ?_⟩) (by assumption) ?_
        rotate_left
        · intro w hSw; (try dsimp only at hSw); go_simp; try with_reducible rfl
        try simp only [Act.put, List.getElem_toArray, List.getElem_cons_succ, List.getElem_cons_zero, List.setIfInBounds_toArray, List.set_cons_zero, List.set_cons_succ]
        refine wpAnyH_take (i := 5) (v := ?_) rfl (by kernel_rfl) (by kernel_rfl) (by kernel_rfl) (fun _ _ _ h => h) (Or.inl ⟨by rfl, ?_⟩) (by assumption) ?_
        rotate_left
        · intro w hSw; (try dsimp only at hSw); go_simp; try with_reducible rfl
        try simp only [Act.put, List.getElem_toArray, List.getElem_cons_succ, List.getElem_cons_zero, List.setIfInBounds_toArray, List.set_cons_zero, List.set_cons_succ]
        refine wpAnyH_take (i := 6) (v := ?_) rfl (by kernel_rfl) (by kernel_rfl) (by kernel_rfl) (fun _ _ _ h => h) (Or.inl ⟨by rfl, ?_⟩) (by assumption) ?_
        rotate_left
        · intro w hSw; (try dsimp only at hSw); go_simp; try with_reducible rfl
        try simp only [Act.put, List.getElem_toArray, List.getElem_cons_succ, List.getElem_cons_zero, List.setIfInBounds_toArray, List.set_cons_zero, List.set_cons_succ]
        refine wpAnyH_take (i := 7) (v := ?_) rfl (by kernel_rfl) (by kernel_rfl) (by kernel_rfl) (fun _ _ _ h => h) (Or.inl ⟨by rfl, ?_⟩) (by assumption) ?_
        rotate_left
        · intro w hSw; (try dsimp only at hSw); go_simp; try with_reducible rfl
        try simp only [Act.put, List.getElem_toArray, List.getElem_cons_succ, List.getElem_cons_zero, List.setIfInBounds_toArray, List.set_cons_zero, List.set_cons_succ]
        refine wpAnyH_take (i := 9) (v := ?_) rfl (by kernel_rfl) (by kernel_rfl) (by kernel_rfl) (fun _ _ _ h => h) (Or.inl ⟨by rfl, ?_⟩) (by assumption) ?_
        rotate_left
        · intro w hSw; (try dsimp only at hSw); go_simp; try with_reducible rfl
        try simp only [Act.put, List.getElem_toArray, List.getElem_cons_succ, List.getElem_cons_zero, List.setIfInBounds_toArray, List.set_cons_zero, List.set_cons_succ]
        refine wpAnyH_take (i := 10) (v := ?_) rfl (by kernel_rfl) (by kernel_rfl) (by kernel_rfl) (fun _ _ _ h => h) (Or.inl ⟨by rfl, ?_⟩) (by assumption) ?_
        rotate_left
        · intro w hSw; (try dsimp only at hSw); go_simp; try with_reducible rfl
        try simp only [Act.put, List.getElem_toArray, List.getElem_cons_succ, List.getElem_cons_zero, List.setIfInBounds_toArray, List.set_cons_zero, List.set_cons_succ]
        refine wpAnyH_take (i := 11) (v := ?_) rfl (by kernel_rfl) (by kernel_rfl) (by kernel_rfl) (fun _ _ _ h => h) (Or.inl ⟨by rfl, ?_⟩) (by assumption) ?_
        rotate_left
        · intro w hSw; (try dsimp only at hSw); go_simp; try with_reducible rfl
        try simp only [Act.put, List.getElem_toArray, List.getElem_cons_succ, List.getElem_cons_zero, List.setIfInBounds_toArray, List.set_cons_zero, List.set_cons_succ]
        refine wpAnyH_take (i := 12) (v := ?_) rfl (by kernel_rfl) (by kernel_rfl) (by kernel_rfl) (fun _ _ _ h => h) (Or.inl ⟨by rfl, ?_⟩) (by assumption) ?_
        rotate_left
        · intro w hSw; (try dsimp only at hSw); go_simp; try with_reducible rfl
        try simp only [Act.put, List.getElem_toArray, List.getElem_cons_succ, List.getElem_cons_zero, List.setIfInBounds_toArray, List.set_cons_zero, List.set_cons_succ]
        refine wpAnyH_take (i := 13) (v := ?_) rfl (by kernel_rfl) (by kernel_rfl) (by kernel_rfl) (fun _ _ _ h => h) (Or.inl ⟨by rfl, ?_⟩) (by assumption) ?_
        rotate_left
        · intro w hSw; (try dsimp only at hSw); go_simp; try with_reducible rfl
        try simp only [Act.put, List.getElem_toArray, List.getElem_cons_succ, List.getElem_cons_zero, List.setIfInBounds_toArray, List.set_cons_zero, List.set_cons_succ]
        refine wpAnyH_ready (rs := [8, 14]) (by kernel_rfl) (by simp) ?_
        refine AllReadyH.cons rfl (fun K hK => ?_) (AllReadyH.cons rfl (fun K hK => ?_) AllReadyH.nil)
        · rw [if_pos (by rfl)]
          refine wp_lookup _ _ _ rfl rfl rfl (HMD.out.map.lookup HX.out) ?_
          refine hK.out _ _ ?_ (fun hHeld => ?_)
          · exact hHeld
          clear hK K
          try simp only [Act.put, List.getElem_toArray, List.getElem_cons_succ, List.getElem_cons_zero, List.setIfInBounds_toArray, List.set_cons_zero, List.set_cons_succ]
          refine wpAnyH_ready (rs := [14]) (by kernel_rfl) (by simp) ?_
          refine AllReadyH.cons rfl (fun K hK => ?_) AllReadyH.nil
          go_simp
          refine hK.out _ _ ?_ (fun hHeld => ?_)
          · exact S7.same (by with_reducible assumption) ((Same.refl _).alloc _)
          clear hK K
          try simp only [Act.put, List.getElem_toArray, List.getElem_cons_succ, List.getElem_cons_zero, List.setIfInBounds_toArray, List.set_cons_zero, List.set_cons_succ]
          refine wpAnyH_ready (rs := [15]) (by kernel_rfl) (by simp) ?_
          refine AllReadyH.cons rfl (fun K hK => ?_) AllReadyH.nil
          obtain ⟨v1, w7, hr7, ho7, hg7, _, hl7⟩ := run_append_own_at (P := Try.prog) (wd.alloc (.cells #[.int .u64 p, .int .u64 q] 32)) base 59 59 32 i0 _ 2 16 Try.underlying59 hi hz0 hz1 hz2 rfl (by decide) (V x) (L x).length (cellsOf (L x)) ((HMD.out.row x HX.out).alloc _) ⟨wd.heap.size, 0, none⟩ 1 1 [.int .u64 p, .int .u64 q] rfl (two_new _ _ _ _) (two_cell _ _) (by have := HMD.out.len x; unfold maxLen; omega) (by have := HMD.out.len x; omega) (by have := HBS.out.1; have := HSZD.out; simp; omega)
          have hS7 := S7.grown hHeld hg7 (HFAR.out x HX.out)
          have hg8 := (World.grownBy_alloc wd (.cells #[.int .u64 p, .int .u64 q] 32) (V x).ownBlock).trans hg7
          rw [if_pos (by rfl)]
          refine wp_append_run _ _ _ rfl _ rfl _ rfl hr7 ?_
          refine hK.out _ _ ?_ (fun hHeld => ?_)
          · exact hS7
          clear hK K
          try simp only [Act.put, List.getElem_toArray, List.getElem_cons_succ, List.getElem_cons_zero, List.setIfInBounds_toArray, List.set_cons_zero, List.set_cons_succ]
          refine wpAnyH_ready (rs := [16]) (by kernel_rfl) (by simp) ?_
          refine AllReadyH.cons rfl (fun K hK => ?_) AllReadyH.nil
          obtain ⟨w8, hr8, hM8, hg9⟩ := HMD.out.step (p := (p, q)) (by unfold maxLen; omega) HX.out hg8 ho7 (hl7.imp id (fun h => ⟨_, h, by simp⟩))
          have hS8 := S7.grown hHeld hg9 HMB.out
          have HM8 := Lib.hid hM8
          clear hM8
          rw [if_pos (by rfl)]
          refine wp_mapUpdate _ _ _ _ rfl rfl rfl rfl hr8 ?_
          refine hK.out _ _ ?_ (fun hHeld => ?_)
          · exact hS8
          clear hK K
          try simp only [Act.put, List.getElem_toArray, List.getElem_cons_succ, List.getElem_cons_zero, List.setIfInBounds_toArray, List.set_cons_zero, List.set_cons_succ]
          refine wpAnyH_done (by kernel_rfl) ?_ _
          have HH := Lib.hid (And.intro hHeld.1 (And.intro hHeld.2.1 hHeld.2.2.2.2.2))
          have HZ8 := Lib.hid (show w3.heap.size ≤ w8.heap.size by have s1 := hg7.size; have s2 := hg9.size; have s3 := HSZD.out.2; simp at s1 s2; omega)
          clear hHeld hg7 hg8 hg9 hS7 hS8 hr7 hr8 ho7 hl7
          go_wp2_with fail
          go_roundw
          case rel => exact ⟨j + 1, by go_num, by omega, Lib.hid ⟨⟨_, by rw [HBN.out]; exact HM8.out⟩, HH.out, HZ8.out⟩⟩
          case measure => simp [intOf]; omega
        · go_simp
          refine hK.out _ _ ?_ (fun hHeld => ?_)
          · exact S7.same (by with_reducible assumption) ((Same.refl _).alloc _)
          clear hK K
          try simp only [Act.put, List.getElem_toArray, List.getElem_cons_succ, List.getElem_cons_zero, List.setIfInBounds_toArray, List.set_cons_zero, List.set_cons_succ]
          refine wpAnyH_ready (rs := [8]) (by kernel_rfl) (by simp) ?_
          refine AllReadyH.cons rfl (fun K hK => ?_) AllReadyH.nil
          rw [if_pos (by rfl)]
          refine wp_lookup _ _ _ rfl rfl rfl ((HMD.out.same ((Same.refl wd).alloc _)).map.lookup HX.out) ?_
          refine hK.out _ _ ?_ (fun hHeld => ?_)
          · exact hHeld
          clear hK K
          try simp only [Act.put, List.getElem_toArray, List.getElem_cons_succ, List.getElem_cons_zero, List.setIfInBounds_toArray, List.set_cons_zero, List.set_cons_succ]
          refine wpAnyH_ready (rs := [15]) (by kernel_rfl) (by simp) ?_
          refine AllReadyH.cons rfl (fun K hK => ?_) AllReadyH.nil
          obtain ⟨v1, w7, hr7, ho7, hg7, _, hl7⟩ := run_append_own_at (P := Try.prog) (wd.alloc (.cells #[.int .u64 p, .int .u64 q] 32)) base 59 59 32 i0 _ 2 16 Try.underlying59 hi hz0 hz1 hz2 rfl (by decide) (V x) (L x).length (cellsOf (L x)) ((HMD.out.row x HX.out).alloc _) ⟨wd.heap.size, 0, none⟩ 1 1 [.int .u64 p, .int .u64 q] rfl (two_new _ _ _ _) (two_cell _ _) (by have := HMD.out.len x; unfold maxLen; omega) (by have := HMD.out.len x; omega) (by have := HBS.out.1; have := HSZD.out; simp; omega)
          have hS7 := S7.grown hHeld hg7 (HFAR.out x HX.out)
          have hg8 := (World.grownBy_alloc wd (.cells #[.int .u64 p, .int .u64 q] 32) (V x).ownBlock).trans hg7
          rw [if_pos (by rfl)]
          refine wp_append_run _ _ _ rfl _ rfl _ rfl hr7 ?_
          refine hK.out _ _ ?_ (fun hHeld => ?_)
          · exact hS7
          clear hK K
          try simp only [Act.put, List.getElem_toArray, List.getElem_cons_succ, List.getElem_cons_zero, List.setIfInBounds_toArray, List.set_cons_zero, List.set_cons_succ]
          refine wpAnyH_ready (rs := [16]) (by kernel_rfl) (by simp) ?_
          refine AllReadyH.cons rfl (fun K hK => ?_) AllReadyH.nil
          obtain ⟨w8, hr8, hM8, hg9⟩ := HMD.out.step (p := (p, q)) (by unfold maxLen; omega) HX.out hg8 ho7 (hl7.imp id (fun h => ⟨_, h, by simp⟩))
          have hS8 := S7.grown hHeld hg9 HMB.out
          have HM8 := Lib.hid hM8
          clear hM8
          rw [if_pos (by rfl)]
          refine wp_mapUpdate _ _ _ _ rfl rfl rfl rfl hr8 ?_
          refine hK.out _ _ ?_ (fun hHeld => ?_)
          · exact hS8
          clear hK K
          try simp only [Act.put, List.getElem_toArray, List.getElem_cons_succ, List.getElem_cons_zero, List.setIfInBounds_toArray, List.set_cons_zero, List.set_cons_succ]
          refine wpAnyH_done (by kernel_rfl) ?_ _
          have HH := Lib.hid (And.intro hHeld.1 (And.intro hHeld.2.1 hHeld.2.2.2.2.2))
          have HZ8 := Lib.hid (show w3.heap.size ≤ w8.heap.size by have s1 := hg7.size; have s2 := hg9.size; have s3 := HSZD.out.2; simp at s1 s2; omega)
          clear hHeld hg7 hg8 hg9 hS7 hS8 hr7 hr8 ho7 hl7
          go_wp2_with fail
          go_roundw
          case rel => exact ⟨j + 1, by go_num, by omega, Lib.hid ⟨⟨_, by rw [HBN.out]; exact HM8.out⟩, HH.out, HZ8.out⟩⟩
          case measure => simp [intOf]; omega
      · obtain rfl : nn = j := by omega
        have hEO : wr.heap[ob]? = some (.cells #[kv, .int .i64 cnt] 55 (0, 0)) := by rw [hRX.out.2.2.block ob (Array.getElem?_eq_some_iff.1 HO.out).1]; exact HO.out
        obtain ⟨wd9, ewd9⟩ : ∃ wd9, wr.drew = wd9 := ⟨_, rfl⟩
        have hSr : Same wr wd9 := by rw [← ewd9]; exact drew_same _
        have HO9 := Lib.hid (show wd9.heap[ob]? = some (.cells #[kv, .int .i64 cnt] 55 (0, 0)) by rw [hSr.block ob (Array.getElem?_eq_some_iff.1 hEO).1]; exact hEO)
        have HK9 := Lib.hid (HK.out.keep (hRX.out.2.2.trans hSr))
        have HF9 := Lib.hid ((hM.out.same hSr).fin)
        have HS9 := Lib.hid (show S9 rx (.int .i64 num) (.map (some mb)) wd9 from ⟨same_cell hSr hRX.out.1, same_cell hSr hRX.out.2.1⟩)
        have HGX := Lib.hid (show some rx ≠ kv.ownBlock by
          intro e
          rcases HK.out.ex with ⟨h1, _⟩ | ⟨g, off, cap, cur, h1, h2, h3, _⟩
          · rw [h1] at e; cases e
          · rw [h1] at e
            simp [Value.ownBlock] at e
            have h4 := (Array.getElem?_eq_some_iff.1 h3).1
            have h5 := HBS.out
            omega)
        have HOX := Lib.hid (show ob ≠ rx by
          have h4 := (Array.getElem?_eq_some_iff.1 HO.out).1
          have h5 := HBS.out
          omega)
        have HB9 := Lib.hid (show B ≤ wd9.heap.size by
          have h4 := (Array.getElem?_eq_some_iff.1 HO9.out).1
          have h5 := HBO.out
          omega)
        have hBc : B ≤ wa.heap.size := by
          have h4 := (Array.getElem?_eq_some_iff.1 HO.out).1
          have h5 := HBO.out
          omega
        have HKP9 := Lib.hid (Keep.of_same (hRX.out.2.2.trans hSr))
        have HBL9 := Lib.hid (Below.mono (hRX.out.2.2.trans hSr) hBc)
        have EW9 := Lib.hid ewd9
        clear ewd9 hSr hEO hBc
        go_upto_region 9 with fail
        go_cut [7] (fun s7 wx => s7 = .pointer (some ⟨rx, 0, none⟩) ∧ Hid (∃ g off cap, wx.heap[ob]? = some (.cells #[.slice (some ⟨g, off, none⟩) (n + 1) cap, .int .i64 cnt] 55 (0, 0)) ∧ KeptAt wx B (.slice (some ⟨g, off, none⟩) (n + 1) cap) (R ++ [(num, bodN l nn)]) ∧ Keep wa wx ∧ Below B wa wx))
        case first =>
          refine wp_region_held_drew (S := fun w' => S9 rx (.int .i64 num) (.map (some mb)) w') (by kernel_rfl) (by rw [EW9.out]; exact HS9.out) (fun hHeld => ?_)
          rw [EW9.out] at hHeld ⊢
          refine wpAnyH_take (i := 0) (v := ?_) rfl (by kernel_rfl) (by kernel_rfl) (by kernel_rfl) (fun _ _ _ h => h) (Or.inl ⟨by rfl, ?_⟩) (by assumption) ?_
          rotate_left
          · intro w hSw; (try dsimp only at hSw); go_simp; try with_reducible rfl
          try simp only [Act.put, List.getElem_toArray, List.getElem_cons_succ, List.getElem_cons_zero, List.setIfInBounds_toArray, List.set_cons_zero, List.set_cons_succ]
          refine wpAnyH_take (i := 1) (v := ?_) rfl (by kernel_rfl) (by kernel_rfl) (by kernel_rfl) (fun _ _ _ h => h) (Or.inl ⟨by rfl, ?_⟩) (by assumption) ?_
          rotate_left
          · intro w hSw; (try dsimp only at hSw); go_simp; try with_reducible rfl
          try simp only [Act.put, List.getElem_toArray, List.getElem_cons_succ, List.getElem_cons_zero, List.setIfInBounds_toArray, List.set_cons_zero, List.set_cons_succ]
          refine wpAnyH_take (i := 2) (v := ?_) rfl (by kernel_rfl) (by kernel_rfl) (by kernel_rfl) (fun _ _ _ h => h) (Or.inl ⟨by rfl, ?_⟩) (by assumption) ?_
          rotate_left
          · intro w hSw; (try dsimp only at hSw); go_simp; try with_reducible rfl
          try simp only [Act.put, List.getElem_toArray, List.getElem_cons_succ, List.getElem_cons_zero, List.setIfInBounds_toArray, List.set_cons_zero, List.set_cons_succ]
          refine wpAnyH_take (i := 3) (v := ?_) rfl (by kernel_rfl) (by kernel_rfl) (by kernel_rfl) (fun _ _ _ h => h) (Or.inl ⟨by rfl, ?_⟩) (by assumption) ?_
          rotate_left
          · intro w hSw; (try dsimp only at hSw); go_simp; try with_reducible rfl
          try simp only [Act.put, List.getElem_toArray, List.getElem_cons_succ, List.getElem_cons_zero, List.setIfInBounds_toArray, List.set_cons_zero, List.set_cons_succ]
          refine wpAnyH_take (i := 5) (v := ?_) rfl (by kernel_rfl) (by kernel_rfl) (by kernel_rfl) (fun _ _ _ h => h) (Or.inl ⟨by rfl, ?_⟩) (by assumption) ?_
          rotate_left
          · intro w hSw; (try dsimp only at hSw); go_simp; try with_reducible rfl
          try simp only [Act.put, List.getElem_toArray, List.getElem_cons_succ, List.getElem_cons_zero, List.setIfInBounds_toArray, List.set_cons_zero, List.set_cons_succ]
          refine wpAnyH_ready (rs := [4, 6]) (by kernel_rfl) (by simp) ?_
          refine AllReadyH.cons rfl (fun K hK => ?_) (AllReadyH.cons rfl (fun K hK => ?_) AllReadyH.nil)
          · have hc9 : wd9.cell? ⟨ob, 0, none⟩ = some kv := by rw [cell_at HO9.out]; rfl
            go_simp
            clear hc9
            refine hK.out _ _ ?_ (fun hHeld => ?_)
            · exact hHeld
            clear hK K
            try simp only [Act.put, List.getElem_toArray, List.getElem_cons_succ, List.getElem_cons_zero, List.setIfInBounds_toArray, List.set_cons_zero, List.set_cons_succ]
            refine wpAnyH_ready (rs := [6]) (by kernel_rfl) (by simp) ?_
            refine AllReadyH.cons rfl (fun K hK => ?_) AllReadyH.nil
            go_simp
            refine hK.out _ _ ?_ (fun hHeld => ?_)
            · exact S9.same (by with_reducible assumption) ((Same.refl _).alloc _)
            clear hK K
            try simp only [Act.put, List.getElem_toArray, List.getElem_cons_succ, List.getElem_cons_zero, List.setIfInBounds_toArray, List.set_cons_zero, List.set_cons_succ]
            refine wpAnyH_ready (rs := [7]) (by kernel_rfl) (by simp) ?_
            refine AllReadyH.cons rfl (fun K hK => ?_) AllReadyH.nil
            have hp := KeptAt.push (HK9.out.keep ((Same.refl wd9).alloc (.cells #[.int .i64 num, .map (some mb)] 58))) (by have := HB9.out; simp; omega) (by rw [EN.out]; omega) (a := ⟨wd9.heap.size, 0, none⟩) (c := 1) (two_new _ _ _ _ 0 _ rfl) (two_new _ _ _ _ 1 _ rfl) (HF9.out.keep (Keep.of_same ((Same.refl wd9).alloc _))) 48
            rw [EN.out] at hp
            obtain ⟨g, off, cap, w10, hr10, hk10, ho10, hgr10⟩ := hp
            have hS10 := S9.grown hHeld hgr10 HGX.out
            rw [if_pos (by rfl)]
            refine wp_append_run _ _ _ rfl _ rfl _ rfl hr10 ?_
            refine hK.out _ _ ?_ (fun hHeld => ?_)
            · exact hS10
            clear hK K
            try simp only [Act.put, List.getElem_toArray, List.getElem_cons_succ, List.getElem_cons_zero, List.setIfInBounds_toArray, List.set_cons_zero, List.set_cons_succ]
            refine wpAnyH_take (i := 8) (v := ?_) rfl (by kernel_rfl) (by kernel_rfl) (by kernel_rfl) (fun _ _ _ h => h) (Or.inl ⟨by rfl, ?_⟩) (by assumption) ?_
            rotate_left
            · intro w hSw; (try dsimp only at hSw); go_simp; try with_reducible rfl
            try simp only [Act.put, List.getElem_toArray, List.getElem_cons_succ, List.getElem_cons_zero, List.setIfInBounds_toArray, List.set_cons_zero, List.set_cons_succ]
            refine wpAnyH_take (i := 9) (v := ?_) rfl (by kernel_rfl) (by kernel_rfl) (by kernel_rfl) (fun _ _ _ h => h) (Or.inl ⟨by rfl, ?_⟩) (by assumption) ?_
            rotate_left
            · intro w hSw; (try dsimp only at hSw); go_simp; try with_reducible rfl
            try simp only [Act.put, List.getElem_toArray, List.getElem_cons_succ, List.getElem_cons_zero, List.setIfInBounds_toArray, List.set_cons_zero, List.set_cons_succ]
            refine wpAnyH_ready (rs := [10]) (by kernel_rfl) (by simp) ?_
            refine AllReadyH.cons rfl (fun K hK => ?_) AllReadyH.nil
            have ho11 : w10.heap[ob]? = some (.cells #[kv, .int .i64 cnt] 55 (0, 0)) := ho10.keep ob _ (by rw [(Same.alloc (Same.refl wd9) _).block ob (Array.getElem?_eq_some_iff.1 HO9.out).1]; exact HO9.out) (fun _ _ e => by cases e)
            have hc11 : w10.cell? ⟨ob, 0, none⟩ = some kv := by rw [cell_at ho11]; rfl
            have hf11 : w10.frozen? ⟨ob, 0, none⟩ = false := free_at ho11
            have hS11 := S9.far (o := 0) hHeld HOX.out (.slice (some ⟨g, off, none⟩) (n + 1) cap)
            have HO11 := Lib.hid ho11
            have HK10 := Lib.hid hk10
            have HO10 := Lib.hid ho10
            go_simp
            clear hc11 hf11
            refine hK.out _ _ ?_ (fun hHeld => ?_)
            · exact hS11
            clear hK K
            try simp only [Act.put, List.getElem_toArray, List.getElem_cons_succ, List.getElem_cons_zero, List.setIfInBounds_toArray, List.set_cons_zero, List.set_cons_succ]
            refine wpAnyH_done (by kernel_rfl) ?_ _
            clear hHeld hk10 ho10 hr10 hgr10 hS10 hS11 ho11
            go_wp2_with fail
            go_meet
            exact ⟨rfl, Lib.hid ⟨g, off, cap, heap_set HO11.out _, HK10.out.far HO11.out _, (HKP9.out.trans ((Keep.of_same ((Same.refl wd9).alloc _)).trans HO10.out.toKeep)).trans (Keep.far HO11.out _), Below.setCell ((HBL9.out.trans (Below.mono ((Same.refl wd9).alloc _) HB9.out)).trans HO10.out.below) (p := ⟨ob, 0, none⟩) HBO.out _⟩⟩
          · go_simp
            refine hK.out _ _ ?_ (fun hHeld => ?_)
            · exact S9.same (by with_reducible assumption) ((Same.refl _).alloc _)
            clear hK K
            try simp only [Act.put, List.getElem_toArray, List.getElem_cons_succ, List.getElem_cons_zero, List.setIfInBounds_toArray, List.set_cons_zero, List.set_cons_succ]
            refine wpAnyH_ready (rs := [4]) (by kernel_rfl) (by simp) ?_
            refine AllReadyH.cons rfl (fun K hK => ?_) AllReadyH.nil
            have hc9 : (wd9.alloc (.cells #[.int .i64 num, .map (some mb)] 58)).cell? ⟨ob, 0, none⟩ = some kv := same_cell ((Same.refl wd9).alloc _) (by rw [cell_at HO9.out]; rfl)
            go_simp
            clear hc9
            refine hK.out _ _ ?_ (fun hHeld => ?_)
            · exact hHeld
            clear hK K
            try simp only [Act.put, List.getElem_toArray, List.getElem_cons_succ, List.getElem_cons_zero, List.setIfInBounds_toArray, List.set_cons_zero, List.set_cons_succ]
            refine wpAnyH_ready (rs := [7]) (by kernel_rfl) (by simp) ?_
            refine AllReadyH.cons rfl (fun K hK => ?_) AllReadyH.nil
            have hp := KeptAt.push (HK9.out.keep ((Same.refl wd9).alloc (.cells #[.int .i64 num, .map (some mb)] 58))) (by have := HB9.out; simp; omega) (by rw [EN.out]; omega) (a := ⟨wd9.heap.size, 0, none⟩) (c := 1) (two_new _ _ _ _ 0 _ rfl) (two_new _ _ _ _ 1 _ rfl) (HF9.out.keep (Keep.of_same ((Same.refl wd9).alloc _))) 48
            rw [EN.out] at hp
            obtain ⟨g, off, cap, w10, hr10, hk10, ho10, hgr10⟩ := hp
            have hS10 := S9.grown hHeld hgr10 HGX.out
            rw [if_pos (by rfl)]
            refine wp_append_run _ _ _ rfl _ rfl _ rfl hr10 ?_
            refine hK.out _ _ ?_ (fun hHeld => ?_)
            · exact hS10
            clear hK K
            try simp only [Act.put, List.getElem_toArray, List.getElem_cons_succ, List.getElem_cons_zero, List.setIfInBounds_toArray, List.set_cons_zero, List.set_cons_succ]
            refine wpAnyH_take (i := 8) (v := ?_) rfl (by kernel_rfl) (by kernel_rfl) (by kernel_rfl) (fun _ _ _ h => h) (Or.inl ⟨by rfl, ?_⟩) (by assumption) ?_
            rotate_left
            · intro w hSw; (try dsimp only at hSw); go_simp; try with_reducible rfl
            try simp only [Act.put, List.getElem_toArray, List.getElem_cons_succ, List.getElem_cons_zero, List.setIfInBounds_toArray, List.set_cons_zero, List.set_cons_succ]
            refine wpAnyH_take (i := 9) (v := ?_) rfl (by kernel_rfl) (by kernel_rfl) (by kernel_rfl) (fun _ _ _ h => h) (Or.inl ⟨by rfl, ?_⟩) (by assumption) ?_
            rotate_left
            · intro w hSw; (try dsimp only at hSw); go_simp; try with_reducible rfl
            try simp only [Act.put, List.getElem_toArray, List.getElem_cons_succ, List.getElem_cons_zero, List.setIfInBounds_toArray, List.set_cons_zero, List.set_cons_succ]
            refine wpAnyH_ready (rs := [10]) (by kernel_rfl) (by simp) ?_
            refine AllReadyH.cons rfl (fun K hK => ?_) AllReadyH.nil
            have ho11 : w10.heap[ob]? = some (.cells #[kv, .int .i64 cnt] 55 (0, 0)) := ho10.keep ob _ (by rw [(Same.alloc (Same.refl wd9) _).block ob (Array.getElem?_eq_some_iff.1 HO9.out).1]; exact HO9.out) (fun _ _ e => by cases e)
            have hc11 : w10.cell? ⟨ob, 0, none⟩ = some kv := by rw [cell_at ho11]; rfl
            have hf11 : w10.frozen? ⟨ob, 0, none⟩ = false := free_at ho11
            have hS11 := S9.far (o := 0) hHeld HOX.out (.slice (some ⟨g, off, none⟩) (n + 1) cap)
            have HO11 := Lib.hid ho11
            have HK10 := Lib.hid hk10
            have HO10 := Lib.hid ho10
            go_simp
            clear hc11 hf11
            refine hK.out _ _ ?_ (fun hHeld => ?_)
            · exact hS11
            clear hK K
            try simp only [Act.put, List.getElem_toArray, List.getElem_cons_succ, List.getElem_cons_zero, List.setIfInBounds_toArray, List.set_cons_zero, List.set_cons_succ]
            refine wpAnyH_done (by kernel_rfl) ?_ _
            clear hHeld hk10 ho10 hr10 hgr10 hS10 hS11 ho11
            go_wp2_with fail
            go_meet
            exact ⟨rfl, Lib.hid ⟨g, off, cap, heap_set HO11.out _, HK10.out.far HO11.out _, (HKP9.out.trans ((Keep.of_same ((Same.refl wd9).alloc _)).trans HO10.out.toKeep)).trans (Keep.far HO11.out _), Below.setCell ((HBL9.out.trans (Below.mono ((Same.refl wd9).alloc _) HB9.out)).trans HO10.out.below) (p := ⟨ob, 0, none⟩) HBO.out _⟩⟩
        case rest =>
          obtain ⟨e7, hC⟩ := hcut
          subst e7
          obtain ⟨wb, rfl⟩ : ∃ wz, wz = wc := ⟨_, rfl⟩
          obtain ⟨g, off, cap, hC1, hC2, hC3, hC4⟩ := hC.out
          obtain ⟨wd, ewd⟩ : ∃ wd, wb.drew = wd := ⟨_, rfl⟩
          have hSd : Same wb wd := by rw [← ewd]; exact drew_same _
          have HO12 := Lib.hid (show wd.heap[ob]? = some (.cells #[.slice (some ⟨g, off, none⟩) (n + 1) cap, .int .i64 cnt] 55 (0, 0)) by rw [hSd.block ob (Array.getElem?_eq_some_iff.1 hC1).1]; exact hC1)
          have HK12 := Lib.hid (hC2.keep hSd)
          have HKP12 := Lib.hid (hC3.trans (Keep.of_same hSd))
          have HBL12 := Lib.hid (hC4.trans (Below.mono hSd (by
            have h4 := (Array.getElem?_eq_some_iff.1 hC1).1
            have h5 := HBO.out
            omega)))
          have EWB := Lib.hid ewd
          obtain ⟨lo, elo⟩ : ∃ lo, n + 1 - 16 = lo := ⟨_, rfl⟩
          have hlo1 : lo ≤ n + 1 := by omega
          have hlo3 : (0 : Int) ≤ lo := by omega
          have hlo4 : (lo : Int) ≤ (n : Int) + 1 := by omega
          have hwl : IntKind.i64.wrap ((n : Int) + 1 - 16) = (n : Int) + 1 - 16 := by simp [go_sem, IntKind.wrap_i64, wrap64]; omega
          have hmx : (if 16 < (n : Int) + 1 then (n : Int) + 1 - 16 else 0) = (lo : Int) := by split <;> omega
          have hcl : ¬ cap = lo := by have := hC2.room; rw [List.length_append, EN.out] at this; simp at this; omega
          have ELO := Lib.hid elo
          clear hC hC1 hC2 hC3 hC4 ewd hSd elo
          go_upto_region 10 with fail
          go_cut [7] (fun s7 wx => s7 = .pointer (some ⟨rx, 0, none⟩) ∧ Hid (∃ kv2, wx.heap[ob]? = some (.cells #[kv2, .int .i64 cnt] 55 (0, 0)) ∧ KeptAt wx B kv2 ((R ++ [(num, bodN l nn)]).drop (R.length + 1 - 16)) ∧ Keep wa wx ∧ Below B wa wx))
          case first =>
            refine wp_region_held_drew (S := fun _ => True) (by kernel_rfl) trivial (fun hHeld => ?_)
            rw [EWB.out]
            refine wpAnyH_take (i := 0) (v := ?_) rfl (by kernel_rfl) (by kernel_rfl) (by kernel_rfl) (fun _ _ _ h => h) (Or.inl ⟨by rfl, ?_⟩) trivial ?_
            rotate_left
            · intro w hSw; (try dsimp only at hSw); go_simp; try with_reducible rfl
            try simp only [Act.put, List.getElem_toArray, List.getElem_cons_succ, List.getElem_cons_zero, List.setIfInBounds_toArray, List.set_cons_zero, List.set_cons_succ]
            refine wpAnyH_take (i := 1) (v := ?_) rfl (by kernel_rfl) (by kernel_rfl) (by kernel_rfl) (fun _ _ _ h => h) (Or.inl ⟨by rfl, ?_⟩) trivial ?_
            rotate_left
            · intro w hSw; (try dsimp only at hSw); go_simp; try with_reducible rfl
            try simp only [Act.put, List.getElem_toArray, List.getElem_cons_succ, List.getElem_cons_zero, List.setIfInBounds_toArray, List.set_cons_zero, List.set_cons_succ]
            refine wpAnyH_take (i := 2) (v := ?_) rfl (by kernel_rfl) (by kernel_rfl) (by kernel_rfl) (fun _ _ _ h => h) (Or.inl ⟨by rfl, ?_⟩) trivial ?_
            rotate_left
            · intro w hSw; (try dsimp only at hSw); go_simp; try with_reducible rfl
            try simp only [Act.put, List.getElem_toArray, List.getElem_cons_succ, List.getElem_cons_zero, List.setIfInBounds_toArray, List.set_cons_zero, List.set_cons_succ]
            refine wpAnyH_take (i := 3) (v := ?_) rfl (by kernel_rfl) (by kernel_rfl) (by kernel_rfl) (fun _ _ _ h => h) (Or.inl ⟨by rfl, ?_⟩) trivial ?_
            rotate_left
            · intro w hSw; (try dsimp only at hSw); go_simp; try with_reducible rfl
            try simp only [Act.put, List.getElem_toArray, List.getElem_cons_succ, List.getElem_cons_zero, List.setIfInBounds_toArray, List.set_cons_zero, List.set_cons_succ]
            refine wpAnyH_take (i := 5) (v := ?_) rfl (by kernel_rfl) (by kernel_rfl) (by kernel_rfl) (fun _ _ _ h => h) (Or.inl ⟨by rfl, ?_⟩) trivial ?_
            rotate_left
            · intro w hSw; (try dsimp only at hSw); go_simp; try with_reducible rfl
            try simp only [Act.put, List.getElem_toArray, List.getElem_cons_succ, List.getElem_cons_zero, List.setIfInBounds_toArray, List.set_cons_zero, List.set_cons_succ]
            refine wpAnyH_take (i := 6) (v := ?_) rfl (by kernel_rfl) (by kernel_rfl) (by kernel_rfl) (fun _ _ _ h => h) (Or.inl ⟨by rfl, ?_⟩) trivial ?_
            rotate_left
            · intro w hSw; (try dsimp only at hSw); go_simp; try with_reducible rfl
            try simp only [Act.put, List.getElem_toArray, List.getElem_cons_succ, List.getElem_cons_zero, List.setIfInBounds_toArray, List.set_cons_zero, List.set_cons_succ]
            refine wpAnyH_take (i := 7) (v := ?_) rfl (by kernel_rfl) (by kernel_rfl) (by kernel_rfl) (fun _ _ _ h => h) (Or.inl ⟨by rfl, ?_⟩) trivial ?_
            rotate_left
            · intro w hSw; (try dsimp only at hSw); go_simp; try with_reducible rfl
            try simp only [Act.put, List.getElem_toArray, List.getElem_cons_succ, List.getElem_cons_zero, List.setIfInBounds_toArray, List.set_cons_zero, List.set_cons_succ]
            refine wpAnyH_ready (rs := [4, 8]) (by kernel_rfl) (by simp) ?_
            refine AllReadyH.cons rfl (fun K hK => ?_) (AllReadyH.cons rfl (fun K hK => ?_) AllReadyH.nil)
            · have hc12 : wd.cell? ⟨ob, 0, none⟩ = some (.slice (some ⟨g, off, none⟩) (n + 1) cap) := by rw [cell_at HO12.out]; rfl
              go_simp
              clear hc12
              refine hK.out _ _ ?_ (fun hHeld => ?_)
              · exact trivial
              clear hK K
              try simp only [Act.put, List.getElem_toArray, List.getElem_cons_succ, List.getElem_cons_zero, List.setIfInBounds_toArray, List.set_cons_zero, List.set_cons_succ]
              refine wpAnyH_ready (rs := [8]) (by kernel_rfl) (by simp) ?_
              refine AllReadyH.cons rfl (fun K hK => ?_) AllReadyH.nil
              have hc12 : wd.cell? ⟨ob, 0, none⟩ = some (.slice (some ⟨g, off, none⟩) (n + 1) cap) := by rw [cell_at HO12.out]; rfl
              go_simp
              clear hc12
              refine hK.out _ _ ?_ (fun hHeld => ?_)
              · exact trivial
              clear hK K
              try simp only [Act.put, List.getElem_toArray, List.getElem_cons_succ, List.getElem_cons_zero, List.setIfInBounds_toArray, List.set_cons_zero, List.set_cons_succ]
              refine wpAnyH_take (i := 9) (v := ?_) rfl (by kernel_rfl) (by kernel_rfl) (by kernel_rfl) (fun _ _ _ h => h) (Or.inl ⟨by rfl, ?_⟩) trivial ?_
              rotate_left
              · intro w hSw; (try dsimp only at hSw); go_simp; try with_reducible rfl
              try simp only [Act.put, List.getElem_toArray, List.getElem_cons_succ, List.getElem_cons_zero, List.setIfInBounds_toArray, List.set_cons_zero, List.set_cons_succ]
              refine wpAnyH_take (i := 10) (v := ?_) rfl (by kernel_rfl) (by kernel_rfl) (by kernel_rfl) (fun _ _ _ h => h) (Or.inl ⟨by rfl, ?_⟩) trivial ?_
              rotate_left
              · intro w hSw; (try dsimp only at hSw); go_simp; try with_reducible rfl
              try simp only [Act.put, List.getElem_toArray, List.getElem_cons_succ, List.getElem_cons_zero, List.setIfInBounds_toArray, List.set_cons_zero, List.set_cons_succ]
              refine wpAnyH_ready (rs := [11]) (by kernel_rfl) (by simp) ?_
              refine AllReadyH.cons rfl (fun K hK => ?_) AllReadyH.nil
              go_simp
              try rw [hmx]
              refine hK.out _ _ ?_ (fun hHeld => ?_)
              · exact trivial
              clear hK K
              try simp only [Act.put, List.getElem_toArray, List.getElem_cons_succ, List.getElem_cons_zero, List.setIfInBounds_toArray, List.set_cons_zero, List.set_cons_succ]
              refine wpAnyH_take (i := 12) (v := ?_) rfl (by kernel_rfl) (by kernel_rfl) (by kernel_rfl) (fun _ _ _ h => h) (Or.inl ⟨by rfl, ?_⟩) trivial ?_
              rotate_left
              · intro w hSw; (try dsimp only at hSw); go_simp; try with_reducible rfl
              try simp only [Act.put, List.getElem_toArray, List.getElem_cons_succ, List.getElem_cons_zero, List.setIfInBounds_toArray, List.set_cons_zero, List.set_cons_succ]
              refine wpAnyH_take (i := 13) (v := ?_) rfl (by kernel_rfl) (by kernel_rfl) (by kernel_rfl) (fun _ _ _ h => h) (Or.inl ⟨by rfl, ?_⟩) trivial ?_
              rotate_left
              · intro w hSw; (try dsimp only at hSw); go_simp; try with_reducible rfl
              try simp only [Act.put, List.getElem_toArray, List.getElem_cons_succ, List.getElem_cons_zero, List.setIfInBounds_toArray, List.set_cons_zero, List.set_cons_succ]
              refine wpAnyH_take (i := 14) (v := ?_) rfl (by kernel_rfl) (by kernel_rfl) (by kernel_rfl) (fun _ _ _ h => h) (Or.inl ⟨by rfl, ?_⟩) trivial ?_
              rotate_left
              · intro w hSw; (try dsimp only at hSw); go_simp; try with_reducible rfl
              try simp only [Act.put, List.getElem_toArray, List.getElem_cons_succ, List.getElem_cons_zero, List.setIfInBounds_toArray, List.set_cons_zero, List.set_cons_succ]
              refine wpAnyH_ready (rs := [15]) (by kernel_rfl) (by simp) ?_
              refine AllReadyH.cons rfl (fun K hK => ?_) AllReadyH.nil
              have hf12 : wd.frozen? ⟨ob, 0, none⟩ = false := free_at HO12.out
              have hc12 : wd.cell? ⟨ob, 0, none⟩ = some (.slice (some ⟨g, off, none⟩) (n + 1) cap) := by rw [cell_at HO12.out]; rfl
              go_simp
              clear hc12 hf12
              refine hK.out _ _ ?_ (fun hHeld => ?_)
              · exact trivial
              clear hK K
              try simp only [Act.put, List.getElem_toArray, List.getElem_cons_succ, List.getElem_cons_zero, List.setIfInBounds_toArray, List.set_cons_zero, List.set_cons_succ]
              refine wpAnyH_done (by kernel_rfl) ?_ _
              clear hHeld
              go_wp2_with fail
              go_meet
              exact ⟨rfl, Lib.hid ⟨_, heap_set HO12.out _, by rw [EN.out, ELO.out]; exact (KeptAt.cut_n (by simp [EN.out]) HK12.out hlo1).far HO12.out _, HKP12.out.trans (Keep.far HO12.out _), Below.setCell HBL12.out (p := ⟨ob, 0, none⟩) HBO.out _⟩⟩
            · have hc12 : wd.cell? ⟨ob, 0, none⟩ = some (.slice (some ⟨g, off, none⟩) (n + 1) cap) := by rw [cell_at HO12.out]; rfl
              go_simp
              clear hc12
              refine hK.out _ _ ?_ (fun hHeld => ?_)
              · exact trivial
              clear hK K
              try simp only [Act.put, List.getElem_toArray, List.getElem_cons_succ, List.getElem_cons_zero, List.setIfInBounds_toArray, List.set_cons_zero, List.set_cons_succ]
              refine wpAnyH_take (i := 9) (v := ?_) rfl (by kernel_rfl) (by kernel_rfl) (by kernel_rfl) (fun _ _ _ h => h) (Or.inl ⟨by rfl, ?_⟩) trivial ?_
              rotate_left
              · intro w hSw; (try dsimp only at hSw); go_simp; try with_reducible rfl
              try simp only [Act.put, List.getElem_toArray, List.getElem_cons_succ, List.getElem_cons_zero, List.setIfInBounds_toArray, List.set_cons_zero, List.set_cons_succ]
              refine wpAnyH_take (i := 10) (v := ?_) rfl (by kernel_rfl) (by kernel_rfl) (by kernel_rfl) (fun _ _ _ h => h) (Or.inl ⟨by rfl, ?_⟩) trivial ?_
              rotate_left
              · intro w hSw; (try dsimp only at hSw); go_simp; try with_reducible rfl
              try simp only [Act.put, List.getElem_toArray, List.getElem_cons_succ, List.getElem_cons_zero, List.setIfInBounds_toArray, List.set_cons_zero, List.set_cons_succ]
              refine wpAnyH_ready (rs := [4, 11]) (by kernel_rfl) (by simp) ?_
              refine AllReadyH.cons rfl (fun K hK => ?_) (AllReadyH.cons rfl (fun K hK => ?_) AllReadyH.nil)
              · have hc12 : wd.cell? ⟨ob, 0, none⟩ = some (.slice (some ⟨g, off, none⟩) (n + 1) cap) := by rw [cell_at HO12.out]; rfl
                go_simp
                clear hc12
                refine hK.out _ _ ?_ (fun hHeld => ?_)
                · exact trivial
                clear hK K
                try simp only [Act.put, List.getElem_toArray, List.getElem_cons_succ, List.getElem_cons_zero, List.setIfInBounds_toArray, List.set_cons_zero, List.set_cons_succ]
                refine wpAnyH_ready (rs := [11]) (by kernel_rfl) (by simp) ?_
                refine AllReadyH.cons rfl (fun K hK => ?_) AllReadyH.nil
                go_simp
                try rw [hmx]
                refine hK.out _ _ ?_ (fun hHeld => ?_)
                · exact trivial
                clear hK K
                try simp only [Act.put, List.getElem_toArray, List.getElem_cons_succ, List.getElem_cons_zero, List.setIfInBounds_toArray, List.set_cons_zero, List.set_cons_succ]
                refine wpAnyH_take (i := 12) (v := ?_) rfl (by kernel_rfl) (by kernel_rfl) (by kernel_rfl) (fun _ _ _ h => h) (Or.inl ⟨by rfl, ?_⟩) trivial ?_
                rotate_left
                · intro w hSw; (try dsimp only at hSw); go_simp; try with_reducible rfl
                try simp only [Act.put, List.getElem_toArray, List.getElem_cons_succ, List.getElem_cons_zero, List.setIfInBounds_toArray, List.set_cons_zero, List.set_cons_succ]
                refine wpAnyH_take (i := 13) (v := ?_) rfl (by kernel_rfl) (by kernel_rfl) (by kernel_rfl) (fun _ _ _ h => h) (Or.inl ⟨by rfl, ?_⟩) trivial ?_
                rotate_left
                · intro w hSw; (try dsimp only at hSw); go_simp; try with_reducible rfl
                try simp only [Act.put, List.getElem_toArray, List.getElem_cons_succ, List.getElem_cons_zero, List.setIfInBounds_toArray, List.set_cons_zero, List.set_cons_succ]
                refine wpAnyH_take (i := 14) (v := ?_) rfl (by kernel_rfl) (by kernel_rfl) (by kernel_rfl) (fun _ _ _ h => h) (Or.inl ⟨by rfl, ?_⟩) trivial ?_
                rotate_left
                · intro w hSw; (try dsimp only at hSw); go_simp; try with_reducible rfl
                try simp only [Act.put, List.getElem_toArray, List.getElem_cons_succ, List.getElem_cons_zero, List.setIfInBounds_toArray, List.set_cons_zero, List.set_cons_succ]
                refine wpAnyH_ready (rs := [15]) (by kernel_rfl) (by simp) ?_
                refine AllReadyH.cons rfl (fun K hK => ?_) AllReadyH.nil
                have hf12 : wd.frozen? ⟨ob, 0, none⟩ = false := free_at HO12.out
                have hc12 : wd.cell? ⟨ob, 0, none⟩ = some (.slice (some ⟨g, off, none⟩) (n + 1) cap) := by rw [cell_at HO12.out]; rfl
                go_simp
                clear hc12 hf12
                refine hK.out _ _ ?_ (fun hHeld => ?_)
                · exact trivial
                clear hK K
                try simp only [Act.put, List.getElem_toArray, List.getElem_cons_succ, List.getElem_cons_zero, List.setIfInBounds_toArray, List.set_cons_zero, List.set_cons_succ]
                refine wpAnyH_done (by kernel_rfl) ?_ _
                clear hHeld
                go_wp2_with fail
                go_meet
                exact ⟨rfl, Lib.hid ⟨_, heap_set HO12.out _, by rw [EN.out, ELO.out]; exact (KeptAt.cut_n (by simp [EN.out]) HK12.out hlo1).far HO12.out _, HKP12.out.trans (Keep.far HO12.out _), Below.setCell HBL12.out (p := ⟨ob, 0, none⟩) HBO.out _⟩⟩
              · go_simp
                try rw [hmx]
                refine hK.out _ _ ?_ (fun hHeld => ?_)
                · exact trivial
                clear hK K
                try simp only [Act.put, List.getElem_toArray, List.getElem_cons_succ, List.getElem_cons_zero, List.setIfInBounds_toArray, List.set_cons_zero, List.set_cons_succ]
                refine wpAnyH_ready (rs := [4]) (by kernel_rfl) (by simp) ?_
                refine AllReadyH.cons rfl (fun K hK => ?_) AllReadyH.nil
                have hc12 : wd.cell? ⟨ob, 0, none⟩ = some (.slice (some ⟨g, off, none⟩) (n + 1) cap) := by rw [cell_at HO12.out]; rfl
                go_simp
                clear hc12
                refine hK.out _ _ ?_ (fun hHeld => ?_)
                · exact trivial
                clear hK K
                try simp only [Act.put, List.getElem_toArray, List.getElem_cons_succ, List.getElem_cons_zero, List.setIfInBounds_toArray, List.set_cons_zero, List.set_cons_succ]
                refine wpAnyH_take (i := 12) (v := ?_) rfl (by kernel_rfl) (by kernel_rfl) (by kernel_rfl) (fun _ _ _ h => h) (Or.inl ⟨by rfl, ?_⟩) trivial ?_
                rotate_left
                · intro w hSw; (try dsimp only at hSw); go_simp; try with_reducible rfl
                try simp only [Act.put, List.getElem_toArray, List.getElem_cons_succ, List.getElem_cons_zero, List.setIfInBounds_toArray, List.set_cons_zero, List.set_cons_succ]
                refine wpAnyH_take (i := 13) (v := ?_) rfl (by kernel_rfl) (by kernel_rfl) (by kernel_rfl) (fun _ _ _ h => h) (Or.inl ⟨by rfl, ?_⟩) trivial ?_
                rotate_left
                · intro w hSw; (try dsimp only at hSw); go_simp; try with_reducible rfl
                try simp only [Act.put, List.getElem_toArray, List.getElem_cons_succ, List.getElem_cons_zero, List.setIfInBounds_toArray, List.set_cons_zero, List.set_cons_succ]
                refine wpAnyH_take (i := 14) (v := ?_) rfl (by kernel_rfl) (by kernel_rfl) (by kernel_rfl) (fun _ _ _ h => h) (Or.inl ⟨by rfl, ?_⟩) trivial ?_
                rotate_left
                · intro w hSw; (try dsimp only at hSw); go_simp; try with_reducible rfl
                try simp only [Act.put, List.getElem_toArray, List.getElem_cons_succ, List.getElem_cons_zero, List.setIfInBounds_toArray, List.set_cons_zero, List.set_cons_succ]
                refine wpAnyH_ready (rs := [15]) (by kernel_rfl) (by simp) ?_
                refine AllReadyH.cons rfl (fun K hK => ?_) AllReadyH.nil
                have hf12 : wd.frozen? ⟨ob, 0, none⟩ = false := free_at HO12.out
                have hc12 : wd.cell? ⟨ob, 0, none⟩ = some (.slice (some ⟨g, off, none⟩) (n + 1) cap) := by rw [cell_at HO12.out]; rfl
                go_simp
                clear hc12 hf12
                refine hK.out _ _ ?_ (fun hHeld => ?_)
                · exact trivial
                clear hK K
                try simp only [Act.put, List.getElem_toArray, List.getElem_cons_succ, List.getElem_cons_zero, List.setIfInBounds_toArray, List.set_cons_zero, List.set_cons_succ]
                refine wpAnyH_done (by kernel_rfl) ?_ _
                clear hHeld
                go_wp2_with fail
                go_meet
                exact ⟨rfl, Lib.hid ⟨_, heap_set HO12.out _, by rw [EN.out, ELO.out]; exact (KeptAt.cut_n (by simp [EN.out]) HK12.out hlo1).far HO12.out _, HKP12.out.trans (Keep.far HO12.out _), Below.setCell HBL12.out (p := ⟨ob, 0, none⟩) HBO.out _⟩⟩
          case rest =>
            obtain ⟨e7, hC⟩ := hcut
            subst e7
            obtain ⟨we, rfl⟩ : ∃ wz, wz = wc := ⟨_, rfl⟩
            obtain ⟨kv2, hC1, hC2, hC3, hC4⟩ := hC.out
            have hcc : we.cell? ⟨ob, 1, none⟩ = some (.int .i64 cnt) := by rw [cell_at hC1]; rfl
            have hff : we.frozen? ⟨ob, 1, none⟩ = false := free_at hC1
            have HC1 := Lib.hid hC1
            have HC2 := Lib.hid hC2
            have HC3 := Lib.hid hC3
            have HC4 := Lib.hid hC4
            clear hC1 hC2 hC3 hC4 hC
            go_upto_region 11 with fail
            go_wp2_with fail
            refine (add_any ob 1 cnt _ hcc hff (by have := HCN.out; omega)).mono ?_
            rintro e1 w1 ⟨rfl, rfl⟩
            go_wp2_with fail
            go_ret
            have hset := heap_set (o := 1) HC1.out (.int .i64 (cnt + 1))
            exact ⟨by rw [HOB.out]; rfl, ⟨⟨kv2, by unfold cntD; rw [HOB.out]; exact hset, HBO.out, by unfold delR; rw [HOB.out, HLN.out]; exact HC2.out.far HC1.out _⟩⟩, (Keep.of_same HWD.out).trans (HC3.out.trans (Keep.far HC1.out _)), Below.setCell ((Below.mono HWD.out HBB.out).trans HC4.out) (p := ⟨ob, 1, none⟩) HBO.out _⟩
end Go.Proofs.Ytchmhpfccanamaa
