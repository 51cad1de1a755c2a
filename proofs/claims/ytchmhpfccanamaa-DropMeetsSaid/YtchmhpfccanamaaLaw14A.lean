/- Layer 14: DropMeets, walked. -/
import Derived.Test.YtchmhpfccanamaaDropM
set_option linter.unusedVariables false
set_option linter.unusedSimpArgs false
namespace Go.Proofs.Ytchmhpfccanamaa
open Go.RowKit
def set3 (w : World) (b : Nat) (x y z : Value) : World := ((w.setCell ⟨b, 0, none⟩ x).setCell ⟨b, 1, none⟩ y).setCell ⟨b, 2, none⟩ z
theorem set_three {w : World} {b : Nat} {p q r : Value} {t : TypeId} (h : w.heap[b]? = some (.cells #[p, q, r] t (0, 0))) (x y z : Value) :
    (set3 w b x y z).heap[b]? = some (.cells #[x, y, z] t (0, 0)) ∧ ∀ k, k ≠ b → (set3 w b x y z).heap[k]? = w.heap[k]? := by
  have h3 := heap_set (o := 2) (heap_set (o := 1) (heap_set (o := 0) h x) y) z
  refine ⟨by unfold set3; rw [h3]; rfl, fun k hk => ?_⟩
  unfold set3
  rw [heap_far _ hk, heap_far _ hk, heap_far _ hk]
theorem new_two (w : World) (x y : Value) (t : TypeId) : (w.alloc (.cells #[x, y] t)).cell? ⟨w.heap.size, 0, none⟩ = some x ∧ (w.alloc (.cells #[x, y] t)).cell? ⟨w.heap.size, 1, none⟩ = some y := ⟨by simp [World.cell?_alloc_new], by simp [World.cell?_alloc_new]⟩
theorem Same.trans_below {w w1 w2 : World} (h : Same w w1) (k : Below w.heap.size w1 w2) : Same w w2 := Below.trans h k
/-- the boxes of a, b, at -/
structure MeS (w0 : World) (B ax bx cx : Nat) (a0 a1 a2 b0 b1 b2 z0 z1 : Int) (w : World) : Prop where
  a0 : w.cell? ⟨ax, 0, none⟩ = some (.int .u64 a0)
  a1 : w.cell? ⟨ax, 1, none⟩ = some (.int .u64 a1)
  a2 : w.cell? ⟨ax, 2, none⟩ = some (.int .u64 a2)
  b0 : w.cell? ⟨bx, 0, none⟩ = some (.int .u64 b0)
  b1 : w.cell? ⟨bx, 1, none⟩ = some (.int .u64 b1)
  b2 : w.cell? ⟨bx, 2, none⟩ = some (.int .u64 b2)
  z0 : w.cell? ⟨cx, 0, none⟩ = some (.int .i64 z0)
  z1 : w.cell? ⟨cx, 1, none⟩ = some (.int .i64 z1)
  fr : FromB B w0 w
theorem MeS.same {w0 w w' : World} {B ax bx cx : Nat} {a0 a1 a2 b0 b1 b2 z0 z1 : Int} (h : MeS w0 B ax bx cx a0 a1 a2 b0 b1 b2 z0 z1 w) (k : Same w w') : MeS w0 B ax bx cx a0 a1 a2 b0 b1 b2 z0 z1 w' :=
  ⟨same_cell k h.a0, same_cell k h.a1, same_cell k h.a2, same_cell k h.b0, same_cell k h.b1, same_cell k h.b2, same_cell k h.z0, same_cell k h.z1, h.fr.same k⟩
theorem row_new (w : World) (x p q : Int) {B : Nat} (hB : B ≤ w.heap.size) : RowN (w.alloc (.cells #[.int .u64 x, .int .u64 p, .int .u64 q] 25)) B (.slice (some ⟨w.heap.size, 0, none⟩) 1 1) [(x, (p, q))] :=
  ⟨rfl, Or.inr ⟨_, _, _, rfl, hB, (MapKept.heap_alloc _ _).1, Nat.le_refl _, by decide, rfl, rfl⟩⟩
theorem RowN.of {w : World} {B m : Nat} {v : Value} {l : List NoteD} (h : l.length = m) (k : w.ownsRow B 25 3 v m (cellsN l)) : RowN w B v l := by subst h; exact k
def thirdS (l : List NoteD) (p : Int) : Nat → Bool
  | 0 => false
  | j + 1 => thirdS l p j || ((l.getD j nt0).1 == p)
theorem thirdS_atP (l : List NoteD) (p : Int) : ∀ n, n ≤ l.length → (thirdS l p n = true ↔ atP (l.take n) p ≠ [])
  | 0, _ => by simp [thirdS, atP]
  | n + 1, h => by
    have ih := thirdS_atP l p n (by omega)
    rw [take_snocN l n (by omega), atP_app]
    simp only [thirdS, Bool.or_eq_true, ih]
    obtain ⟨q, hq⟩ : ∃ q, l.getD n nt0 = q := ⟨_, rfl⟩
    rw [hq]
    by_cases hp : q.1 = p
    · simp [atP, hp]
    · have : (q.1 == p) = false := by simpa using hp
      simp [atP, this, hp]
theorem bd_all {l : List NoteD} : (∀ j, U64 (l.getD j nt0).1) ↔ ∀ n ∈ l, U64 n.1 := by
  constructor
  · intro h n hn
    obtain ⟨j, hj, e⟩ := List.getElem_of_mem hn
    have := h j
    rw [show l.getD j nt0 = n by simp [List.getD, List.getElem?_eq_getElem hj, e]] at this
    exact this
  · intro h j
    by_cases hj : j < l.length
    · have := h l[j] (List.getElem_mem hj)
      simpa [List.getD, List.getElem?_eq_getElem hj] using this
    · rw [show l.getD j nt0 = nt0 by simp [List.getD, List.getElem?_eq_none (by omega : l.length ≤ j)]]
      exact ⟨by decide, by decide⟩
theorem bd_ins {l : List NoteD} {k : Nat} {n : NoteD} (h : ∀ n ∈ l, U64 n.1) (hn : U64 n.1) : ∀ m ∈ ins l k n, U64 m.1 := by
  intro m hm
  unfold ins at hm
  rw [List.mem_append, List.mem_cons] at hm
  rcases hm with hm | rfl | hm
  · exact h m (List.mem_of_mem_take hm)
  · exact hn
  · exact h m (List.mem_of_mem_drop hm)
theorem RowN.slice {w : World} {base : Nat} {v : Value} {l : List NoteD} (h : RowN w base v l) (hb : ∀ n ∈ l, U64 n.1) : ∃ a cap, v = .slice a l.length cap ∧ NotesAt w a l.length l := by
  have h' := h
  obtain ⟨hl, h1 | ⟨g, cap', cur, hv, _⟩⟩ := h
  · obtain ⟨rfl, h0⟩ := h1
    rw [h0]
    have := h'.notes (bd_all.2 hb)
    exact ⟨none, 0, rfl, by have h2 := this.1; exact h2⟩
  · subst hv
    exact ⟨_, cap', rfl, (h'.notes (bd_all.2 hb)).1⟩
def kOf (z : Int) (n : Nat) : Nat := (min (max z 0) n).toNat
theorem kOf_le (z : Int) (n : Nat) : kOf z n ≤ n := by unfold kOf; omega
def insN (l : List NoteD) (A C : NoteD) (z0 z1 : Int) : Nat → List NoteD
  | 0 => l
  | 1 => ins l (kOf z0 l.length) A
  | _ + 2 => ins (ins l (kOf z0 l.length) A) (kOf z1 (l.length + 1)) C
theorem insN_step (l : List NoteD) (A C : NoteD) (z0 z1 : Int) {i : Nat} (h : i < 2) : insN l A C z0 z1 (i + 1) = ins (insN l A C z0 z1 i) (kOf (if i = 0 then z0 else z1) (insN l A C z0 z1 i).length) (if i = 0 then A else C) := by
  match i, h with
  | 0, _ => rfl
  | 1, _ => simp [insN, ins_len]
theorem insN_len (l : List NoteD) (A C : NoteD) (z0 z1 : Int) : ∀ i, i ≤ 2 → (insN l A C z0 z1 i).length = l.length + i
  | 0, _ => rfl
  | 1, _ => by simp [insN, ins_len]
  | 2, _ => by simp [insN, ins_len]
/-- the two boxes that the law lays first -/
structure TwB (w0 : World) (B tx cx : Nat) (a0 a1 a2 b0 b1 b2 z0 z1 : Int) (w : World) : Prop where
  t0 : w.cell? ⟨tx, 0, none⟩ = some (.int .u64 a0)
  t1 : w.cell? ⟨tx, 1, none⟩ = some (.int .u64 a1)
  t2 : w.cell? ⟨tx, 2, none⟩ = some (.int .u64 a2)
  t3 : w.cell? ⟨tx, 3, none⟩ = some (.int .u64 b0)
  t4 : w.cell? ⟨tx, 4, none⟩ = some (.int .u64 b1)
  t5 : w.cell? ⟨tx, 5, none⟩ = some (.int .u64 b2)
  z0 : w.cell? ⟨cx, 0, none⟩ = some (.int .i64 z0)
  z1 : w.cell? ⟨cx, 1, none⟩ = some (.int .i64 z1)
  fr : FromB B w0 w
theorem TwB.same {w0 w w' : World} {B tx cx : Nat} {a0 a1 a2 b0 b1 b2 z0 z1 : Int} (h : TwB w0 B tx cx a0 a1 a2 b0 b1 b2 z0 z1 w) (k : Same w w') : TwB w0 B tx cx a0 a1 a2 b0 b1 b2 z0 z1 w' :=
  ⟨same_cell k h.t0, same_cell k h.t1, same_cell k h.t2, same_cell k h.t3, same_cell k h.t4, same_cell k h.t5, same_cell k h.z0, same_cell k h.z1, h.fr.same k⟩
theorem TwB.set {w0 w : World} {B tx cx b : Nat} {a0 a1 a2 b0 b1 b2 z0 z1 : Int} (h : TwB w0 B tx cx a0 a1 a2 b0 b1 b2 z0 z1 w) (h1 : tx < b) (h2 : cx < b) (h3 : B ≤ b) (x y z : Value) : TwB w0 B tx cx a0 a1 a2 b0 b1 b2 z0 z1 (set3 w b x y z) := by
  have e : ∀ {k o : Nat} {v : Value}, k < b → w.cell? ⟨k, o, none⟩ = some v → (set3 w b x y z).cell? ⟨k, o, none⟩ = some v := by
    intro k o v hk hc
    unfold set3
    rw [World.cell?_setCell_far _ _ _ _ (by simp; omega), World.cell?_setCell_far _ _ _ _ (by simp; omega), World.cell?_setCell_far _ _ _ _ (by simp; omega)]
    exact hc
  refine ⟨e h1 h.t0, e h1 h.t1, e h1 h.t2, e h1 h.t3, e h1 h.t4, e h1 h.t5, e h2 h.z0, e h2 h.z1, ⟨?_, ?_⟩⟩
  · exact Below.setCell (Below.setCell (Below.setCell h.fr.below (p := ⟨b, 0, none⟩) h3 x) (p := ⟨b, 1, none⟩) h3 y) (p := ⟨b, 2, none⟩) h3 z
  · have := h.fr.le; simp [set3, World.setCell]; exact this
theorem MeS.of {w0 w : World} {B tx cx ax bx : Nat} {a0 a1 a2 b0 b1 b2 z0 z1 : Int} {t : TypeId} (h : TwB w0 B tx cx a0 a1 a2 b0 b1 b2 z0 z1 w) (ha : w.heap[ax]? = some (.cells #[.int .u64 a0, .int .u64 a1, .int .u64 a2] t (0, 0))) (hb : w.heap[bx]? = some (.cells #[.int .u64 b0, .int .u64 b1, .int .u64 b2] t (0, 0))) :
    MeS w0 B ax bx cx a0 a1 a2 b0 b1 b2 z0 z1 w :=
  ⟨by rw [cell_at ha]; rfl, by rw [cell_at ha]; rfl, by rw [cell_at ha]; rfl, by rw [cell_at hb]; rfl, by rw [cell_at hb]; rfl, by rw [cell_at hb]; rfl, h.z0, h.z1, h.fr⟩
theorem par_meets (w : World) (a0 a1 a2 b0 b1 b2 z0 z1 : Int) : ∃ W B tx cx, w.heap.size = B ∧ B = tx ∧ tx + 1 = cx ∧ (w.alloc (.cells #[.int .u64 a0, .int .u64 a1, .int .u64 a2, .int .u64 b0, .int .u64 b1, .int .u64 b2] 26)).alloc (.cells #[.int .i64 z0, .int .i64 z1] 27) = W ∧
    TwB w B tx cx a0 a1 a2 b0 b1 b2 z0 z1 W := by
  refine ⟨_, _, _, _, rfl, rfl, rfl, rfl, ?_⟩
  have s1 : (w.alloc (.cells #[.int .u64 a0, .int .u64 a1, .int .u64 a2, .int .u64 b0, .int .u64 b1, .int .u64 b2] 26)).heap.size = w.heap.size + 1 := by simp
  have hS := (Same.refl (w.alloc (.cells #[.int .u64 a0, .int .u64 a1, .int .u64 a2, .int .u64 b0, .int .u64 b1, .int .u64 b2] 26))).alloc (.cells #[.int .i64 z0, .int .i64 z1] 27)
  refine ⟨same_cell hS ?_, same_cell hS ?_, same_cell hS ?_, same_cell hS ?_, same_cell hS ?_, same_cell hS ?_, ?_, ?_, ((FromB.refl w).alloc _).alloc _⟩
  · simp [World.cell?_alloc_new]
  · simp [World.cell?_alloc_new]
  · simp [World.cell?_alloc_new]
  · simp [World.cell?_alloc_new]
  · simp [World.cell?_alloc_new]
  · simp [World.cell?_alloc_new]
  · rw [← s1]; simp [World.cell?_alloc_new]
  · rw [← s1]; simp [World.cell?_alloc_new]
theorem MeS.put {w0 w : World} {B ax bx cx : Nat} {a0 a1 a2 b0 b1 b2 z0 z1 : Int} (h : MeS w0 B ax bx cx a0 a1 a2 b0 b1 b2 z0 z1 w) {t : TypeId} (hb : w.heap[bx]? = some (.cells #[.int .u64 b0, .int .u64 b1, .int .u64 b2] t (0, 0))) (h1 : ax ≠ bx) (h2 : cx ≠ bx) (h3 : B ≤ bx) (x : Int) :
    MeS w0 B ax bx cx a0 a1 a2 x b1 b2 z0 z1 (w.setCell ⟨bx, 0, none⟩ (.int .u64 x)) := by
  have e : ∀ {k o : Nat} {v : Value}, k ≠ bx → w.cell? ⟨k, o, none⟩ = some v → (w.setCell ⟨bx, 0, none⟩ (.int .u64 x)).cell? ⟨k, o, none⟩ = some v := by
    intro k o v hk hc
    rw [World.cell?_setCell_far _ _ _ _ (by simp; omega)]
    exact hc
  have hs := heap_set (o := 0) hb (.int .u64 x)
  refine ⟨e h1 h.a0, e h1 h.a1, e h1 h.a2, by rw [cell_at hs]; rfl, by rw [cell_at hs]; rfl, by rw [cell_at hs]; rfl, e h2 h.z0, e h2 h.z1, ⟨Below.setCell h.fr.below (p := ⟨bx, 0, none⟩) h3 _, ?_⟩⟩
  have := h.fr.le; simp [World.setCell]; exact this
theorem note_new (w : World) (x p q : Int) : ∀ (j : Nat) (u : Value), [Value.int .u64 x, .int .u64 p, .int .u64 q][j]? = some u → (w.alloc (.cells #[.int .u64 x, .int .u64 p, .int .u64 q] 25)).cell? ((⟨w.heap.size, 0, none⟩ : Addr).add j) = some u := by
  intro j u hj
  match j, hj with
  | 0, hj => simp at hj; subst hj; simp [Addr.add, World.cell?_alloc_new]
  | 1, hj => simp at hj; subst hj; simp [Addr.add, World.cell?_alloc_new]
  | 2, hj => simp at hj; subst hj; simp [Addr.add, World.cell?_alloc_new]
theorem note_cell (x p q : Int) : ∀ u ∈ [Value.int .u64 x, .int .u64 p, .int .u64 q], u.oneCell' = true := by
  intro u hu; simp at hu; rcases hu with rfl | rfl | rfl <;> rfl
set_option maxRecDepth 100000 in
set_option maxHeartbeats 6400000 in
theorem lawMeets (na : Option Addr) (nn nc : Nat) (l : List NoteD) (a0 a1 a2 b0 b1 b2 z0 z1 : Int) (w : World) (hn : NotesAt w na nn l) (hnn : nn ≤ 9223372036854775807) (ha : U64 a0) (hz0 : -9223372036854775808 ≤ z0 ∧ z0 ≤ 9223372036854775807) (hz1 : -9223372036854775808 ≤ z1 ∧ z1 ≤ 9223372036854775807) :
    Calls Try.prog 3 #[.slice na nn nc, .agg #[.int .u64 a0, .int .u64 a1, .int .u64 a2, .int .u64 b0, .int .u64 b1, .int .u64 b2], .agg #[.int .i64 z0, .int .i64 z1]] w fun e w' => e = .returned (.bool true) ∧ Same w w' := by
  obtain ⟨W, B, tx, cx, eB, et, ec, eW, hT⟩ := par_meets w a0 a1 a2 b0 b1 b2 z0 z1
  have hS : Same w W := hT.fr.out eB
  have HN := Lib.hid hn
  have EB := Lib.hid eB
  have ET := Lib.hid et
  have EC := Lib.hid ec
  have EW := Lib.hid eW
  have HT := Lib.hid hT
  have HA := Lib.hid ha
  have HZ := Lib.hid (And.intro hz0 hz1)
  have HNW := Lib.hid (hn.same hS)
  have HLN := Lib.hid hn.len
  clear eB et ec eW hT hS hn ha hz0 hz1
  go_enter Try.func3, Try.ntmps3
  go_upto_region 1 with fail
  rw [EW.out, EB.out, ET.out, EC.out]
  go_wp2_with fail
  refine (awake14 _).mono ?_
  rintro e1 w1 ⟨rfl, hS1⟩
  have HS1 := Lib.hid ((HT.out.same hS1).fr.out EB.out)
  replace HT := Lib.hid ((HT.out.same hS1).same (drew_same w1))
  replace HNW := Lib.hid ((HNW.out.same hS1).same (drew_same w1))
  clear hS1
  by_cases h200 : 200 < nn
  · go_wp2_with fail
    go_ret
    exact ⟨rfl, HS1.out⟩
  go_upto_region 5 with fail
  go_cut [7, 8] (fun s7 s8 wx => ∃ ax bx, s7 = .pointer (some ⟨ax, 0, none⟩) ∧ s8 = .pointer (some ⟨bx, 0, none⟩) ∧ Hid (MeS w B ax bx cx a0 a1 a2 b0 b1 b2 z0 z1 wx ∧ wx.heap[bx]? = some (.cells #[.int .u64 b0, .int .u64 b1, .int .u64 b2] 25 (0, 0)) ∧ ax ≠ bx ∧ cx ≠ bx ∧ B ≤ bx))
  case first =>
    refine wp_region_held_drew (S := fun w' => TwB w B tx cx a0 a1 a2 b0 b1 b2 z0 z1 w') (by kernel_rfl) HT.out (fun hHeld => ?_)
    obtain ⟨wd, ewd⟩ : ∃ wd, w1.drew = wd := ⟨_, rfl⟩
    rw [ewd] at hHeld ⊢
    obtain ⟨nb, enb⟩ : ∃ nb, wd.heap.size = nb := ⟨_, rfl⟩
    obtain ⟨w3, ew3⟩ : ∃ w3, (wd.alloc (.cells #[.int .u64 0, .int .u64 0, .int .u64 0] 25)).alloc (.cells #[.int .u64 0, .int .u64 0, .int .u64 0] 25) = w3 := ⟨_, rfl⟩
    have hn2 : (wd.alloc (.cells #[.int .u64 0, .int .u64 0, .int .u64 0] 25)).heap.size = nb + 1 := by rw [← enb]; simp
    have h3a : w3.heap[nb]? = some (.cells #[.int .u64 0, .int .u64 0, .int .u64 0] 25 (0, 0)) := by
      rw [← ew3, ((Same.refl _).alloc _).block nb (by rw [hn2]; omega), ← enb]; exact (MapKept.heap_alloc _ _).1
    have h3b : w3.heap[nb + 1]? = some (.cells #[.int .u64 0, .int .u64 0, .int .u64 0] 25 (0, 0)) := by
      rw [← ew3, ← hn2]; exact (MapKept.heap_alloc _ _).1
    have hT3 : TwB w B tx cx a0 a1 a2 b0 b1 b2 z0 z1 w3 := by rw [← ew3]; exact hHeld.same (((Same.refl _).alloc _).alloc _)
    have hlt := hHeld.fr.le
    rw [enb] at hlt
    have hz0l := World.block_lt_of_cell? wd _ hHeld.z0
    have ht0l := World.block_lt_of_cell? wd _ hHeld.t0
    rw [enb] at hz0l ht0l
    simp only at hz0l ht0l
    have HNB := Lib.hid enb
    have HNB2 := Lib.hid hn2
    have HW3 := Lib.hid ew3
    have H3a := Lib.hid h3a
    have H3b := Lib.hid h3b
    have HT3 := Lib.hid hT3
    clear ewd enb ew3 hn2 h3a h3b hT3
    refine wpAnyH_take (i := 0) (v := ?_) rfl (by kernel_rfl) (by kernel_rfl) (by kernel_rfl) (fun _ _ _ h => h) (Or.inl ⟨by rfl, ?_⟩) (by assumption) ?_
    rotate_left
    · intro w hSw; obtain ⟨q0, q1, q2, q3, q4, q5, q6, q7, q8⟩ := hSw; go_simp; try with_reducible rfl
    try simp only [Act.put, List.getElem_toArray, List.getElem_cons_succ, List.getElem_cons_zero, List.setIfInBounds_toArray, List.set_cons_zero, List.set_cons_succ]
    refine wpAnyH_take (i := 1) (v := ?_) rfl (by kernel_rfl) (by kernel_rfl) (by kernel_rfl) (fun _ _ _ h => h) (Or.inl ⟨by rfl, ?_⟩) (by assumption) ?_
    rotate_left
    · intro w hSw; obtain ⟨q0, q1, q2, q3, q4, q5, q6, q7, q8⟩ := hSw; go_simp; try with_reducible rfl
    try simp only [Act.put, List.getElem_toArray, List.getElem_cons_succ, List.getElem_cons_zero, List.setIfInBounds_toArray, List.set_cons_zero, List.set_cons_succ]
    refine wpAnyH_take (i := 2) (v := ?_) rfl (by kernel_rfl) (by kernel_rfl) (by kernel_rfl) (fun _ _ _ h => h) (Or.inl ⟨by rfl, ?_⟩) (by assumption) ?_
    rotate_left
    · intro w hSw; obtain ⟨q0, q1, q2, q3, q4, q5, q6, q7, q8⟩ := hSw; go_simp; try with_reducible rfl
    try simp only [Act.put, List.getElem_toArray, List.getElem_cons_succ, List.getElem_cons_zero, List.setIfInBounds_toArray, List.set_cons_zero, List.set_cons_succ]
    refine wpAnyH_take (i := 3) (v := ?_) rfl (by kernel_rfl) (by kernel_rfl) (by kernel_rfl) (fun _ _ _ h => h) (Or.inl ⟨by rfl, ?_⟩) (by assumption) ?_
    rotate_left
    · intro w hSw; obtain ⟨q0, q1, q2, q3, q4, q5, q6, q7, q8⟩ := hSw; go_simp; try with_reducible rfl
    try simp only [Act.put, List.getElem_toArray, List.getElem_cons_succ, List.getElem_cons_zero, List.setIfInBounds_toArray, List.set_cons_zero, List.set_cons_succ]
    refine wpAnyH_ready (rs := [4, 5]) (by kernel_rfl) (by simp) ?_
    refine AllReadyH.cons rfl (fun K hK => ?_) (AllReadyH.cons rfl (fun K hK => ?_) AllReadyH.nil)
    · go_simp
      rw [HNB.out]
      refine hK.out _ _ ?_ (fun hHeld => ?_)
      · exact TwB.same (by with_reducible assumption) ((Same.refl _).alloc _)
      clear hK K
      try simp only [Act.put, List.getElem_toArray, List.getElem_cons_succ, List.getElem_cons_zero, List.setIfInBounds_toArray, List.set_cons_zero, List.set_cons_succ]
      refine wpAnyH_ready (rs := [5]) (by kernel_rfl) (by simp) ?_
      refine AllReadyH.cons rfl (fun K hK => ?_) AllReadyH.nil
      go_simp
      rw [HNB.out, HW3.out]
      refine hK.out _ _ ?_ (fun hHeld => ?_)
      · exact HT3.out
      clear hK K
      try simp only [Act.put, List.getElem_toArray, List.getElem_cons_succ, List.getElem_cons_zero, List.setIfInBounds_toArray, List.set_cons_zero, List.set_cons_succ]
      refine wpAnyH_ready (rs := [6]) (by kernel_rfl) (by simp) ?_
      refine AllReadyH.cons rfl (fun K hK => ?_) AllReadyH.nil
      have c0 : w3.cell? ⟨nb, 0, none⟩ = some (.int .u64 0) := by rw [cell_at H3a.out]; rfl
      have c1 : w3.cell? ⟨nb, 1, none⟩ = some (.int .u64 0) := by rw [cell_at H3a.out]; rfl
      have c2 : w3.cell? ⟨nb, 2, none⟩ = some (.int .u64 0) := by rw [cell_at H3a.out]; rfl
      have f0 : w3.frozen? ⟨nb, 0, none⟩ = false := free_at H3a.out
      have f1 : w3.frozen? ⟨nb, 1, none⟩ = false := free_at H3a.out
      have f2 : w3.frozen? ⟨nb, 2, none⟩ = false := free_at H3a.out
      have hz := set_three H3a.out (.int .u64 a0) (.int .u64 a1) (.int .u64 a2)
      have HTn := Lib.hid (TwB.set hHeld (b := nb) (by omega) (by omega) (by omega) (.int .u64 a0) (.int .u64 a1) (.int .u64 a2))
      go_simp
      clear c0 c1 c2 f0 f1 f2
      obtain ⟨w4, ew4⟩ : ∃ w4, set3 w3 nb (.int .u64 a0) (.int .u64 a1) (.int .u64 a2) = w4 := ⟨_, rfl⟩
      unfold set3 at ew4 HTn hz
      rw [ew4] at HTn hz ⊢
      have H4a := Lib.hid hz.1
      have H4b := Lib.hid ((hz.2 (nb + 1) (by omega)).trans H3b.out)
      clear ew4 hz
      refine hK.out _ _ ?_ (fun hHeld => ?_)
      · exact HTn.out
      clear hK K
      try simp only [Act.put, List.getElem_toArray, List.getElem_cons_succ, List.getElem_cons_zero, List.setIfInBounds_toArray, List.set_cons_zero, List.set_cons_succ]
      refine wpAnyH_ready (rs := [7]) (by kernel_rfl) (by simp) ?_
      refine AllReadyH.cons rfl (fun K hK => ?_) AllReadyH.nil
      have c0 : w4.cell? ⟨(nb + 1), 0, none⟩ = some (.int .u64 0) := by rw [cell_at H4b.out]; rfl
      have c1 : w4.cell? ⟨(nb + 1), 1, none⟩ = some (.int .u64 0) := by rw [cell_at H4b.out]; rfl
      have c2 : w4.cell? ⟨(nb + 1), 2, none⟩ = some (.int .u64 0) := by rw [cell_at H4b.out]; rfl
      have f0 : w4.frozen? ⟨(nb + 1), 0, none⟩ = false := free_at H4b.out
      have f1 : w4.frozen? ⟨(nb + 1), 1, none⟩ = false := free_at H4b.out
      have f2 : w4.frozen? ⟨(nb + 1), 2, none⟩ = false := free_at H4b.out
      have hz := set_three H4b.out (.int .u64 b0) (.int .u64 b1) (.int .u64 b2)
      have HTn := Lib.hid (TwB.set hHeld (b := (nb + 1)) (by omega) (by omega) (by omega) (.int .u64 b0) (.int .u64 b1) (.int .u64 b2))
      go_simp
      clear c0 c1 c2 f0 f1 f2
      obtain ⟨w5, ew5⟩ : ∃ w5, set3 w4 (nb + 1) (.int .u64 b0) (.int .u64 b1) (.int .u64 b2) = w5 := ⟨_, rfl⟩
      unfold set3 at ew5 HTn hz
      rw [ew5] at HTn hz ⊢
      have H5b := Lib.hid hz.1
      have H5a := Lib.hid ((hz.2 nb (by omega)).trans H4a.out)
      clear ew5 hz
      refine hK.out _ _ ?_ (fun hHeld => ?_)
      · exact HTn.out
      clear hK K
      try simp only [Act.put, List.getElem_toArray, List.getElem_cons_succ, List.getElem_cons_zero, List.setIfInBounds_toArray, List.set_cons_zero, List.set_cons_succ]
      refine wpAnyH_done (by kernel_rfl) ?_ _
      have HTT := Lib.hid hHeld
      clear hHeld
      go_wp2_with fail
      go_meet
      exact ⟨nb, (nb + 1), rfl, rfl, Lib.hid ⟨MeS.of HTT.out H5a.out H5b.out, H5b.out, by omega, by omega, by omega⟩⟩
    · go_simp
      rw [HNB.out]
      refine hK.out _ _ ?_ (fun hHeld => ?_)
      · exact TwB.same (by with_reducible assumption) ((Same.refl _).alloc _)
      clear hK K
      try simp only [Act.put, List.getElem_toArray, List.getElem_cons_succ, List.getElem_cons_zero, List.setIfInBounds_toArray, List.set_cons_zero, List.set_cons_succ]
      refine wpAnyH_ready (rs := [4]) (by kernel_rfl) (by simp) ?_
      refine AllReadyH.cons rfl (fun K hK => ?_) AllReadyH.nil
      go_simp
      rw [HNB.out, HW3.out]
      refine hK.out _ _ ?_ (fun hHeld => ?_)
      · exact HT3.out
      clear hK K
      try simp only [Act.put, List.getElem_toArray, List.getElem_cons_succ, List.getElem_cons_zero, List.setIfInBounds_toArray, List.set_cons_zero, List.set_cons_succ]
      refine wpAnyH_ready (rs := [6]) (by kernel_rfl) (by simp) ?_
      refine AllReadyH.cons rfl (fun K hK => ?_) AllReadyH.nil
      have c0 : w3.cell? ⟨(nb + 1), 0, none⟩ = some (.int .u64 0) := by rw [cell_at H3b.out]; rfl
      have c1 : w3.cell? ⟨(nb + 1), 1, none⟩ = some (.int .u64 0) := by rw [cell_at H3b.out]; rfl
      have c2 : w3.cell? ⟨(nb + 1), 2, none⟩ = some (.int .u64 0) := by rw [cell_at H3b.out]; rfl
      have f0 : w3.frozen? ⟨(nb + 1), 0, none⟩ = false := free_at H3b.out
      have f1 : w3.frozen? ⟨(nb + 1), 1, none⟩ = false := free_at H3b.out
      have f2 : w3.frozen? ⟨(nb + 1), 2, none⟩ = false := free_at H3b.out
      have hz := set_three H3b.out (.int .u64 a0) (.int .u64 a1) (.int .u64 a2)
      have HTn := Lib.hid (TwB.set hHeld (b := (nb + 1)) (by omega) (by omega) (by omega) (.int .u64 a0) (.int .u64 a1) (.int .u64 a2))
      go_simp
      clear c0 c1 c2 f0 f1 f2
      obtain ⟨w4, ew4⟩ : ∃ w4, set3 w3 (nb + 1) (.int .u64 a0) (.int .u64 a1) (.int .u64 a2) = w4 := ⟨_, rfl⟩
      unfold set3 at ew4 HTn hz
      rw [ew4] at HTn hz ⊢
      have H4a := Lib.hid hz.1
      have H4b := Lib.hid ((hz.2 nb (by omega)).trans H3a.out)
      clear ew4 hz
      refine hK.out _ _ ?_ (fun hHeld => ?_)
      · exact HTn.out
      clear hK K
      try simp only [Act.put, List.getElem_toArray, List.getElem_cons_succ, List.getElem_cons_zero, List.setIfInBounds_toArray, List.set_cons_zero, List.set_cons_succ]
      refine wpAnyH_ready (rs := [7]) (by kernel_rfl) (by simp) ?_
      refine AllReadyH.cons rfl (fun K hK => ?_) AllReadyH.nil
      have c0 : w4.cell? ⟨nb, 0, none⟩ = some (.int .u64 0) := by rw [cell_at H4b.out]; rfl
      have c1 : w4.cell? ⟨nb, 1, none⟩ = some (.int .u64 0) := by rw [cell_at H4b.out]; rfl
      have c2 : w4.cell? ⟨nb, 2, none⟩ = some (.int .u64 0) := by rw [cell_at H4b.out]; rfl
      have f0 : w4.frozen? ⟨nb, 0, none⟩ = false := free_at H4b.out
      have f1 : w4.frozen? ⟨nb, 1, none⟩ = false := free_at H4b.out
      have f2 : w4.frozen? ⟨nb, 2, none⟩ = false := free_at H4b.out
      have hz := set_three H4b.out (.int .u64 b0) (.int .u64 b1) (.int .u64 b2)
      have HTn := Lib.hid (TwB.set hHeld (b := nb) (by omega) (by omega) (by omega) (.int .u64 b0) (.int .u64 b1) (.int .u64 b2))
      go_simp
      clear c0 c1 c2 f0 f1 f2
      obtain ⟨w5, ew5⟩ : ∃ w5, set3 w4 nb (.int .u64 b0) (.int .u64 b1) (.int .u64 b2) = w5 := ⟨_, rfl⟩
      unfold set3 at ew5 HTn hz
      rw [ew5] at HTn hz ⊢
      have H5b := Lib.hid hz.1
      have H5a := Lib.hid ((hz.2 (nb + 1) (by omega)).trans H4a.out)
      clear ew5 hz
      refine hK.out _ _ ?_ (fun hHeld => ?_)
      · exact HTn.out
      clear hK K
      try simp only [Act.put, List.getElem_toArray, List.getElem_cons_succ, List.getElem_cons_zero, List.setIfInBounds_toArray, List.set_cons_zero, List.set_cons_succ]
      refine wpAnyH_done (by kernel_rfl) ?_ _
      have HTT := Lib.hid hHeld
      clear hHeld
      go_wp2_with fail
      go_meet
      exact ⟨(nb + 1), nb, rfl, rfl, Lib.hid ⟨MeS.of HTT.out H5a.out H5b.out, H5b.out, by omega, by omega, by omega⟩⟩
  case rest =>
    obtain ⟨ax, bx, e7, e8, hC⟩ := hcut
    subst e7 e8
    obtain ⟨w2, rfl⟩ : ∃ wz, wz = wc := ⟨_, rfl⟩
    obtain ⟨hM, hb, hab, hcb, hBb⟩ := hC.out
    have hb0 := hM.b0
    have ha0 := hM.a0
    have hfb : w2.frozen? ⟨bx, 0, none⟩ = false := free_at hb
    have HMA := Lib.hid (hM.put hb hab hcb hBb a0)
    obtain ⟨w3, ew3⟩ : ∃ w3, w2.setCell ⟨bx, 0, none⟩ (.int .u64 a0) = w3 := ⟨_, rfl⟩
    rw [ew3] at HMA
    have EW3 := Lib.hid ew3
    have HNW3 := Lib.hid (HN.out.same (HMA.out.fr.out EB.out))
    have hw3 := HMA.out.a0
    clear hC hM hb hab hcb hBb ew3 HNW HT
    obtain ⟨i0, hi, hz0, hz1, hz2⟩ := info_parts info_note
    go_upto_region 7 with fail
    rw [EW3.out]
    clear hb0 ha0 hfb EW3
    have hni : (0 : Int) ≤ nn := by omega
    go_wp2_with fail
    go_loopw [9, 10, 35] (fun s9 s10 s35 wr => ∃ j : Nat, s35 = .int .i64 j ∧ s10 = .bool (thirdS l a0 j) ∧ j ≤ nn ∧ Hid (wr.ownsRow w3.heap.size 25 3 s9 j (cellsN (l.take j))) ∧ Hid (Same w3 wr)) (fun _ _ s35 _ => nn - (intOf s35).toNat)
    case atStart => exact ⟨0, rfl, rfl, by omega, Lib.hid (World.ownsRow_nil _ _ _ _), Lib.hid (Same.refl _)⟩
    case round =>
      obtain ⟨j, rfl, rfl, hj, HO, hD⟩ := hrel
      by_cases hlt : j < nn
      · obtain ⟨b, off, ha, hc⟩ := HNW3.out.cells (by omega)
        subst ha
        have hxs := hc j hlt
        obtain ⟨nt, ent⟩ : ∃ nt, l.getD j nt0 = nt := ⟨_, rfl⟩
        rw [ent] at hxs
        obtain ⟨x, p, q⟩ := nt
        have HX := Lib.hid (show cellsN (l.take (j + 1)) = cellsN (l.take j) ++ [.int .u64 x, .int .u64 p, .int .u64 q] by rw [take_snocN l j (by rw [HLN.out]; exact hlt), cellsN_app, ent]; rfl)
        have HTH := Lib.hid (show thirdS l a0 (j + 1) = (thirdS l a0 j || (x == a0)) by simp only [thirdS]; rw [ent])
        have k0 := same_cell hD.out hxs.1
        have k1 := same_cell hD.out hxs.2.1
        have k2 := same_cell hD.out hxs.2.2
        have hi0 : (0 : Int) ≤ j := by omega
        have hi1 : (j : Int) < nn := by omega
        clear hc hxs ent
        go_upto_region 12 with fail
        obtain ⟨nb, enb⟩ : ∃ nb, wr.heap.size = nb := ⟨_, rfl⟩
        obtain ⟨wn, ewn⟩ : ∃ wn, wr.alloc (.cells #[.int .u64 x, .int .u64 p, .int .u64 q] 25) = wn := ⟨_, rfl⟩
        have n0 : wn.cell? ⟨nb, 0, none⟩ = some (.int .u64 x) := by rw [← ewn, ← enb]; simp [World.cell?_alloc_new]
        have n1 : wn.cell? ⟨nb, 1, none⟩ = some (.int .u64 p) := by rw [← ewn, ← enb]; simp [World.cell?_alloc_new]
        have n2 : wn.cell? ⟨nb, 2, none⟩ = some (.int .u64 q) := by rw [← ewn, ← enb]; simp [World.cell?_alloc_new]
        have hDn := Lib.hid (show Same w3 wn by rw [← ewn]; exact hD.out.alloc _)
        have HOn := Lib.hid (show wn.ownsRow w3.heap.size 25 3 u9 j (cellsN (l.take j)) by rw [← ewn]; exact HO.out.alloc _)
        have na0 := same_cell hDn.out hw3
        rw [enb, ewn]
        clear k0 k1 k2 enb ewn
        obtain ⟨t, et⟩ : ∃ t, thirdS l a0 j = t := ⟨_, rfl⟩
        rw [et] at HTH ⊢
        clear et
        go_cut [10] (fun s10 wx => s10 = .bool (thirdS l a0 (j + 1)) ∧ wx = wn)
        case first =>
          cases t
          · go_wp2_with fail
            go_meet
            exact ⟨by rw [HTH.out]; rfl, rfl⟩
          · go_wp2_with fail
            go_meet
            exact ⟨by rw [HTH.out]; rfl, rfl⟩
        case rest =>
          obtain ⟨e10, ewc⟩ := hcut
          subst e10 ewc
          have hlj : j < 200 := by omega
          clear hw3 na0
          have hown := HOn.out
          go_wp2_with (first
            | (at_builtin; refine wpList_append_own _ rfl _ _ 22 rfl w3.heap.size 25 i0 _ 3 24 Try.underlying22 hi hz0 hz1 hz2 rfl (by decide) _ _ _ rfl (hown.alloc _) ⟨wc.heap.size, 0, none⟩ 1 1 [.int .u64 x, .int .u64 p, .int .u64 q] rfl rfl (note_new _ _ _ _) (note_cell _ _ _) (by unfold maxLen; omega) (by omega) (by have := hDn.out.size; simp; omega) ?_; intro v' w7 hown' hgrow _; have hb2 := Lib.hid (show Same w3 w7 from Below.grown (hDn.out.alloc _) hgrow (by have := hDn.out.size; simp; omega) (fun k hk => (hown.lt k hk).1)); have HN7 := Lib.hid hown'; clear hown' hgrow))
          go_roundw
          case rel => exact ⟨j + 1, by go_num, rfl, by omega, Lib.hid (by rw [HX.out]; exact HN7.out), hb2⟩
          case measure => simp [intOf]; omega
      · obtain rfl : nn = j := by omega
        have HO1 := Lib.hid (show RowN wr w3.heap.size u9 l by have h := HO.out; rw [← HLN.out, List.take_length] at h; exact h)
        have HMr := Lib.hid (HMA.out.same hD.out)
        obtain ⟨q0, q1, q2, q3, q4, q5, _, _, _⟩ := HMr.out
        obtain ⟨t, et⟩ : ∃ t, thirdS l a0 nn = t := ⟨_, rfl⟩
        have HTH := Lib.hid et
        rw [et]
        clear et HO hw3 HNW3
        go_upto_region 15 with fail
        obtain ⟨yb, eyb⟩ : ∃ yb, wr.heap.size = yb := ⟨_, rfl⟩
        obtain ⟨w5, ew5⟩ : ∃ w5, wr.alloc (.cells #[.int .u64 a0, .int .u64 a1, .int .u64 a2, .int .u64 a0, .int .u64 b1, .int .u64 b2] 25) = w5 := ⟨_, rfl⟩
        have hs5 : Same wr w5 := by rw [← ew5]; exact (Same.refl _).alloc _
        have hy5 : w5.heap[yb]? = some (.cells #[.int .u64 a0, .int .u64 a1, .int .u64 a2, .int .u64 a0, .int .u64 b1, .int .u64 b2] 25 (0, 0)) := by rw [← ew5, ← eyb]; exact (MapKept.heap_alloc _ _).1
        have HY := Lib.hid (show RowN w5 w3.heap.size u9 (insN l (a0, (a1, a2)) (a0, (b1, b2)) z0 z1 0) ∧ (∀ k, u9.ownBlock = some k → k ≠ yb) ∧ w5.heap[yb]? = some (.cells #[.int .u64 a0, .int .u64 a1, .int .u64 a2, .int .u64 a0, .int .u64 b1, .int .u64 b2] 25 (0, 0)) ∧ Same w3 w5 ∧ w3.heap.size ≤ w5.heap.size from
          ⟨by rw [← ew5]; exact HO1.out.alloc _, fun k hk => by have := (HO1.out.lt k hk).2; omega, hy5, hD.out.trans hs5, by have := hD.out.size; have := hs5.size; omega⟩)
        have EY := Lib.hid eyb
        have EW5 := Lib.hid ew5
        clear hs5 hy5 eyb ew5
        go_upto_block 2 with fail
        rw [EY.out, EW5.out]
        clear q0 q1 q2 q3 q4 q5
        go_wp2_with fail
        go_loopw [9, 56] (fun s9 s56 wq => ∃ i : Nat, s56 = .int .i64 i ∧ i ≤ 2 ∧ Hid (RowN wq w3.heap.size s9 (insN l (a0, (a1, a2)) (a0, (b1, b2)) z0 z1 i) ∧ (∀ k, s9.ownBlock = some k → k ≠ yb) ∧ wq.heap[yb]? = some (.cells #[.int .u64 a0, .int .u64 a1, .int .u64 a2, .int .u64 a0, .int .u64 b1, .int .u64 b2] 25 (0, 0)) ∧ Same w3 wq ∧ w3.heap.size ≤ wq.heap.size)) (fun _ s56 _ => 2 - (intOf s56).toNat)
        case atStart => exact ⟨0, rfl, by omega, HY⟩
        case round =>
          obtain ⟨i, rfl, hi2, hH⟩ := hrel
          obtain ⟨hrow, hby, hyq, hsq, hlq⟩ := hH.out
          by_cases hlt : i < 2
          · have hMq := HMA.out.same hsq
            have hp : ∃ x p q z, (x, (p, q)) = (if i = 0 then (a0, (a1, a2)) else (a0, (b1, b2)) : NoteD) ∧ z = (if i = 0 then z0 else z1) ∧ wr.cell? ⟨yb, i * 3, none⟩ = some (.int .u64 x) ∧ wr.cell? ⟨yb, i * 3 + 1, none⟩ = some (.int .u64 p) ∧ wr.cell? ⟨yb, i * 3 + 2, none⟩ = some (.int .u64 q) ∧ wr.cell? ⟨cx, i, none⟩ = some (.int .i64 z) ∧ (-9223372036854775808 ≤ z ∧ z ≤ 9223372036854775807) := by
              rcases (show i = 0 ∨ i = 1 by omega) with rfl | rfl
              · exact ⟨a0, a1, a2, z0, rfl, rfl, by rw [cell_at hyq]; rfl, by rw [cell_at hyq]; rfl, by rw [cell_at hyq]; rfl, hMq.z0, HZ.out.1⟩
              · exact ⟨a0, b1, b2, z1, rfl, rfl, by rw [cell_at hyq]; rfl, by rw [cell_at hyq]; rfl, by rw [cell_at hyq]; rfl, hMq.z1, HZ.out.2⟩
            obtain ⟨x, p, q, z, ex, ez, k0, k1, k2, kz, hz⟩ := hp
            obtain ⟨l', el'⟩ : ∃ l', insN l (a0, (a1, a2)) (a0, (b1, b2)) z0 z1 i = l' := ⟨_, rfl⟩
            obtain ⟨m, em⟩ : ∃ m, l'.length = m := ⟨_, rfl⟩
            have hm : m ≤ 300 := by rw [← em, ← el', insN_len _ _ _ _ _ i (by omega), HLN.out]; omega
            have HST := Lib.hid (show insN l (a0, (a1, a2)) (a0, (b1, b2)) z0 z1 (i + 1) = ins l' (kOf z m) (x, (p, q)) by rw [insN_step _ _ _ _ _ hlt, el', em, ex, ez])
            have hkl := kOf_le z m
            have hkv : (if (m : Int) < (if z < 0 then 0 else z) then (m : Int) else if z < 0 then 0 else z) = (kOf z m : Int) := by
              unfold kOf
              by_cases h1 : z < 0 <;> simp only [h1, if_true, if_false] <;> split <;> omega
            obtain ⟨k, ek⟩ : ∃ k, kOf z m = k := ⟨_, rfl⟩
            rw [ek] at hkl hkv HST
            have HKV := Lib.hid hkv
            have hk0 : (0 : Int) ≤ k := by omega
            have hk1 : (k : Int) ≤ m := by omega
            rw [el'] at hrow
            unfold RowN at hrow
            rw [em] at hrow
            have HROW := Lib.hid hrow
            have HBY := Lib.hid hby
            have HYQ := Lib.hid hyq
            have HSQ := Lib.hid hsq
            have HLQ := Lib.hid hlq
            have EM := Lib.hid em
            have hi0 : (0 : Int) ≤ i := by omega
            have hi2' : (i : Int) < 2 := by omega
            clear hH hrow hby hyq hsq hlq hMq ex ez el' em ek hkv
            obtain ⟨hl9, h1 | ⟨g, cap, cur, hv, hgb, hgh, hmc, hcm, hcs, htk⟩⟩ := HROW.out
            · obtain ⟨hv, hm0⟩ := h1
              subst hv hm0
              obtain rfl : k = 0 := by omega
              have HKV0 := Lib.hid (show (if (0 : Int) < (if z < 0 then 0 else z) then (0 : Int) else if z < 0 then 0 else z) = (0 : Int) from HKV.out)
              have hl0 : l' = [] := List.eq_nil_of_length_eq_zero EM.out
              subst hl0
              go_upto_region 18 with fail
              obtain ⟨nb, enb⟩ : ∃ nb, wr.heap.size = nb := ⟨_, rfl⟩
              obtain ⟨wn, ewn⟩ : ∃ wn, wr.alloc (.cells #[.int .u64 x, .int .u64 p, .int .u64 q] 25) = wn := ⟨_, rfl⟩
              have hsn : Same wr wn := by rw [← ewn]; exact (Same.refl _).alloc _
              have kzn := same_cell hsn kz
              have n0 : wn.cell? ⟨nb, 0, none⟩ = some (.int .u64 x) := by rw [← ewn, ← enb]; simp [World.cell?_alloc_new]
              have n1 : wn.cell? ⟨nb, 1, none⟩ = some (.int .u64 p) := by rw [← ewn, ← enb]; simp [World.cell?_alloc_new]
              have n2 : wn.cell? ⟨nb, 2, none⟩ = some (.int .u64 q) := by rw [← ewn, ← enb]; simp [World.cell?_alloc_new]
              have HSN := Lib.hid hsn
              have HNS := Lib.hid (And.intro n0 (And.intro n1 n2))
              have HBN := Lib.hid enb
              have HWN := Lib.hid ewn
              rw [enb, ewn]
              clear enb ewn hsn n0 n1 n2 k0 k1 k2 kz
              obtain ⟨wd, ewd⟩ : ∃ wd, wn.drew = wd := ⟨_, rfl⟩
              have hsd : Same wn wd := by rw [← ewd]; exact drew_same _
              have HND := Lib.hid (And.intro (same_cell hsd HNS.out.1) (And.intro (same_cell hsd HNS.out.2.1) (same_cell hsd HNS.out.2.2)))
              have hrd := HSN.out.trans hsd
              have HLD := Lib.hid (show w3.heap.size ≤ wd.heap.size by have := HLQ.out; have := hrd.size; omega)
              have HYD := Lib.hid (show wd.heap[yb]? = some (.cells #[.int .u64 a0, .int .u64 a1, .int .u64 a2, .int .u64 a0, .int .u64 b1, .int .u64 b2] 25 (0, 0)) by rw [hrd.block yb (Array.getElem?_eq_some_iff.1 HYQ.out).1]; exact HYQ.out)
              have HSD := Lib.hid (HSQ.out.trans hrd)
              have EWD := Lib.hid ewd
              clear ewd hsd hrd
              go_upto_region 19 with fail
              rw [HKV0.out]
              refine wp_region_held_drew (S := fun _ => True) (by kernel_rfl) trivial (fun hHeld => ?_)
              rw [EWD.out]
              refine wpAnyH_take (i := 0) (v := ?_) rfl (by kernel_rfl) (by kernel_rfl) (by kernel_rfl) (fun _ _ _ h => h) (Or.inl ⟨by rfl, ?_⟩) trivial ?_
              rotate_left
              · intro w hSw; (try dsimp only at hSw); go_simp; try with_reducible rfl
              try simp only [Act.put, List.getElem_toArray, List.getElem_cons_succ, List.getElem_cons_zero, List.setIfInBounds_toArray, List.set_cons_zero, List.set_cons_succ]
              refine wpAnyH_take (i := 1) (v := ?_) rfl (by kernel_rfl) (by kernel_rfl) (by kernel_rfl) (fun _ _ _ h => h) (Or.inl ⟨by rfl, ?_⟩) trivial ?_
              rotate_left
              · intro w hSw; (try dsimp only at hSw); go_simp; try with_reducible rfl
              try simp only [Act.put, List.getElem_toArray, List.getElem_cons_succ, List.getElem_cons_zero, List.setIfInBounds_toArray, List.set_cons_zero, List.set_cons_succ]
              refine wpAnyH_take (i := 2) (v := ?_) rfl (by kernel_rfl) (by kernel_rfl) (by kernel_rfl) (fun _ _ _ h => h) (Or.inl ⟨by rfl, ?_⟩) trivial ?_
              rotate_left
              · intro w hSw; (try dsimp only at hSw); go_simp; try with_reducible rfl
              try simp only [Act.put, List.getElem_toArray, List.getElem_cons_succ, List.getElem_cons_zero, List.setIfInBounds_toArray, List.set_cons_zero, List.set_cons_succ]
              refine wpAnyH_take (i := 5) (v := ?_) rfl (by kernel_rfl) (by kernel_rfl) (by kernel_rfl) (fun _ _ _ h => h) (Or.inl ⟨by rfl, ?_⟩) trivial ?_
              rotate_left
              · intro w hSw; (try dsimp only at hSw); go_simp; try with_reducible rfl
              try simp only [Act.put, List.getElem_toArray, List.getElem_cons_succ, List.getElem_cons_zero, List.setIfInBounds_toArray, List.set_cons_zero, List.set_cons_succ]
              refine wpAnyH_take (i := 6) (v := ?_) rfl (by kernel_rfl) (by kernel_rfl) (by kernel_rfl) (fun _ _ _ h => h) (Or.inl ⟨by rfl, ?_⟩) trivial ?_
              rotate_left
              · intro w hSw; (try dsimp only at hSw); go_simp; try with_reducible rfl
              try simp only [Act.put, List.getElem_toArray, List.getElem_cons_succ, List.getElem_cons_zero, List.setIfInBounds_toArray, List.set_cons_zero, List.set_cons_succ]
              refine wpAnyH_take (i := 7) (v := ?_) rfl (by kernel_rfl) (by kernel_rfl) (by kernel_rfl) (fun _ _ _ h => h) (Or.inl ⟨by rfl, ?_⟩) trivial ?_
              rotate_left
              · intro w hSw; (try dsimp only at hSw); go_simp; try with_reducible rfl
              try simp only [Act.put, List.getElem_toArray, List.getElem_cons_succ, List.getElem_cons_zero, List.setIfInBounds_toArray, List.set_cons_zero, List.set_cons_succ]
              refine wpAnyH_ready (rs := [3]) (by kernel_rfl) (by simp) ?_
              refine AllReadyH.cons rfl (fun K hK => ?_) AllReadyH.nil
              have c0 := HND.out.1
              have c1 := HND.out.2.1
              have c2 := HND.out.2.2
              go_simp
              clear c0 c1 c2
              refine hK.out _ _ ?_ (fun hHeld => ?_)
              · exact trivial
              clear hK K
              try simp only [Act.put, List.getElem_toArray, List.getElem_cons_succ, List.getElem_cons_zero, List.setIfInBounds_toArray, List.set_cons_zero, List.set_cons_succ]
              refine wpAnyH_ready (rs := [4]) (by kernel_rfl) (by simp) ?_
              refine AllReadyH.cons rfl (fun K hK => ?_) AllReadyH.nil
              go_simp
              refine hK.out _ _ ?_ (fun hHeld => ?_)
              · exact trivial
              clear hK K
              try simp only [Act.put, List.getElem_toArray, List.getElem_cons_succ, List.getElem_cons_zero, List.setIfInBounds_toArray, List.set_cons_zero, List.set_cons_succ]
              refine wpAnyH_ready (rs := [8]) (by kernel_rfl) (by simp) ?_
              refine AllReadyH.cons rfl (fun K hK => ?_) AllReadyH.nil
              obtain ⟨v2, wo, hr1, hr2, hrow2, hbel2, hbk2, hsz2, hown2⟩ := ins_nil (wd.alloc (.cells #[.int .u64 x, .int .u64 p, .int .u64 q] 25)) w3.heap.size wd.heap.size (x, (p, q)) 22 (row_new wd x p q HLD.out) (by have := HLD.out; simp; omega)
              rw [if_pos (by rfl)]
              refine wp_append_run _ _ _ rfl _ rfl _ rfl hr1 ?_
              refine hK.out _ _ ?_ (fun hHeld => ?_)
              · exact trivial
              clear hK K
              try simp only [Act.put, List.getElem_toArray, List.getElem_cons_succ, List.getElem_cons_zero, List.setIfInBounds_toArray, List.set_cons_zero, List.set_cons_succ]
              refine wpAnyH_ready (rs := [9]) (by kernel_rfl) (by simp) ?_
              refine AllReadyH.cons rfl (fun K hK => ?_) AllReadyH.nil
              rw [if_pos (by rfl)]
              refine wp_append_run _ _ _ rfl _ rfl _ rfl hr2 ?_
              refine hK.out _ _ ?_ (fun hHeld => ?_)
              · exact trivial
              clear hK K
              try simp only [Act.put, List.getElem_toArray, List.getElem_cons_succ, List.getElem_cons_zero, List.setIfInBounds_toArray, List.set_cons_zero, List.set_cons_succ]
              refine wpAnyH_take (i := 10) (v := ?_) rfl (by kernel_rfl) (by kernel_rfl) (by kernel_rfl) (fun _ _ _ h => h) (Or.inl ⟨by rfl, ?_⟩) trivial ?_
              rotate_left
              · intro w hSw; (try dsimp only at hSw); go_simp; try with_reducible rfl
              try simp only [Act.put, List.getElem_toArray, List.getElem_cons_succ, List.getElem_cons_zero, List.setIfInBounds_toArray, List.set_cons_zero, List.set_cons_succ]
              refine wpAnyH_done (by kernel_rfl) ?_ _
              clear hHeld
              have hyl := (Array.getElem?_eq_some_iff.1 HYD.out).1
              have hys : (wd.alloc (.cells #[.int .u64 x, .int .u64 p, .int .u64 q] 25)).heap[yb]? = some (.cells #[.int .u64 a0, .int .u64 a1, .int .u64 a2, .int .u64 a0, .int .u64 b1, .int .u64 b2] 25 (0, 0)) := (((Same.refl wd).alloc _).block yb hyl).trans HYD.out
              have HZ9 := Lib.hid (show RowN wo w3.heap.size v2 (insN l (a0, (a1, a2)) (a0, (b1, b2)) z0 z1 (i + 1)) ∧ (∀ k, v2.ownBlock = some k → k ≠ yb) ∧ wo.heap[yb]? = some (.cells #[.int .u64 a0, .int .u64 a1, .int .u64 a2, .int .u64 a0, .int .u64 b1, .int .u64 b2] 25 (0, 0)) ∧ Same w3 wo ∧ w3.heap.size ≤ wo.heap.size from
                ⟨by rw [HST.out]; exact hrow2, fun k hk => by
                  have := hown2 k hk; simp at this; omega, (hbk2 yb (by simp; omega)).trans hys, Below.trans (HSD.out.alloc _) hbel2, by have := HLD.out; simp at hsz2; omega⟩)
              clear hrow2 hbel2 hbk2 hsz2 hown2 hyl hys hr1 hr2
              go_wp2_with fail
              go_roundw
              case rel => exact ⟨i + 1, by go_num, by omega, HZ9⟩
              case measure => simp [intOf]; omega
            · subst hv
              have hm0 : (0 : Int) ≤ m := by omega
              have hk2 : (k : Int) ≤ cap := by omega
              clear hgb hgh hcm hcs htk hl9
              go_upto_region 18 with fail
              obtain ⟨nb, enb⟩ : ∃ nb, wr.heap.size = nb := ⟨_, rfl⟩
              obtain ⟨wn, ewn⟩ : ∃ wn, wr.alloc (.cells #[.int .u64 x, .int .u64 p, .int .u64 q] 25) = wn := ⟨_, rfl⟩
              have hsn : Same wr wn := by rw [← ewn]; exact (Same.refl _).alloc _
              have kzn := same_cell hsn kz
              have n0 : wn.cell? ⟨nb, 0, none⟩ = some (.int .u64 x) := by rw [← ewn, ← enb]; simp [World.cell?_alloc_new]
              have n1 : wn.cell? ⟨nb, 1, none⟩ = some (.int .u64 p) := by rw [← ewn, ← enb]; simp [World.cell?_alloc_new]
              have n2 : wn.cell? ⟨nb, 2, none⟩ = some (.int .u64 q) := by rw [← ewn, ← enb]; simp [World.cell?_alloc_new]
              have HSN := Lib.hid hsn
              have HNS := Lib.hid (And.intro n0 (And.intro n1 n2))
              have HBN := Lib.hid enb
              have HWN := Lib.hid ewn
              rw [enb, ewn]
              clear enb ewn hsn n0 n1 n2 k0 k1 k2 kz
              obtain ⟨wd, ewd⟩ : ∃ wd, wn.drew = wd := ⟨_, rfl⟩
              have hsd : Same wn wd := by rw [← ewd]; exact drew_same _
              have HND := Lib.hid (And.intro (same_cell hsd HNS.out.1) (And.intro (same_cell hsd HNS.out.2.1) (same_cell hsd HNS.out.2.2)))
              have hrd := HSN.out.trans hsd
              have HLD := Lib.hid (show w3.heap.size ≤ wd.heap.size by have := HLQ.out; have := hrd.size; omega)
              have HYD := Lib.hid (show wd.heap[yb]? = some (.cells #[.int .u64 a0, .int .u64 a1, .int .u64 a2, .int .u64 a0, .int .u64 b1, .int .u64 b2] 25 (0, 0)) by rw [hrd.block yb (Array.getElem?_eq_some_iff.1 HYQ.out).1]; exact HYQ.out)
              have HSD := Lib.hid (HSQ.out.trans hrd)
              have HRD := Lib.hid (show RowN wd w3.heap.size (.slice (some ⟨g, 0, none⟩) m cap) l' from RowN.of EM.out (by rw [← ewd, ← HWN.out]; exact World.ownsRow.drew (HROW.out.alloc _)))
              have HGN := Lib.hid (show wd.heap.size ≠ g by have h1 := (HROW.out.lt g rfl).2; have h2 := hrd.size; omega)
              have HGY := Lib.hid (show g ≠ yb from HBY.out g rfl)
              have EWD := Lib.hid ewd
              clear ewd hsd hrd
              go_upto_region 19 with fail
              rw [HKV.out]
              refine wp_region_held_drew (S := fun _ => True) (by kernel_rfl) trivial (fun hHeld => ?_)
              rw [EWD.out]
              refine wpAnyH_take (i := 0) (v := ?_) rfl (by kernel_rfl) (by kernel_rfl) (by kernel_rfl) (fun _ _ _ h => h) (Or.inl ⟨by rfl, ?_⟩) trivial ?_
              rotate_left
              · intro w hSw; (try dsimp only at hSw); go_simp; try with_reducible rfl
              try simp only [Act.put, List.getElem_toArray, List.getElem_cons_succ, List.getElem_cons_zero, List.setIfInBounds_toArray, List.set_cons_zero, List.set_cons_succ]
              refine wpAnyH_take (i := 1) (v := ?_) rfl (by kernel_rfl) (by kernel_rfl) (by kernel_rfl) (fun _ _ _ h => h) (Or.inl ⟨by rfl, ?_⟩) trivial ?_
              rotate_left
              · intro w hSw; (try dsimp only at hSw); go_simp; try with_reducible rfl
              try simp only [Act.put, List.getElem_toArray, List.getElem_cons_succ, List.getElem_cons_zero, List.setIfInBounds_toArray, List.set_cons_zero, List.set_cons_succ]
              refine wpAnyH_take (i := 2) (v := ?_) rfl (by kernel_rfl) (by kernel_rfl) (by kernel_rfl) (fun _ _ _ h => h) (Or.inl ⟨by rfl, ?_⟩) trivial ?_
              rotate_left
              · intro w hSw; (try dsimp only at hSw); go_simp; try with_reducible rfl
              try simp only [Act.put, List.getElem_toArray, List.getElem_cons_succ, List.getElem_cons_zero, List.setIfInBounds_toArray, List.set_cons_zero, List.set_cons_succ]
              refine wpAnyH_take (i := 5) (v := ?_) rfl (by kernel_rfl) (by kernel_rfl) (by kernel_rfl) (fun _ _ _ h => h) (Or.inl ⟨by rfl, ?_⟩) trivial ?_
              rotate_left
              · intro w hSw; (try dsimp only at hSw); go_simp; try with_reducible rfl
              try simp only [Act.put, List.getElem_toArray, List.getElem_cons_succ, List.getElem_cons_zero, List.setIfInBounds_toArray, List.set_cons_zero, List.set_cons_succ]
              refine wpAnyH_take (i := 6) (v := ?_) rfl (by kernel_rfl) (by kernel_rfl) (by kernel_rfl) (fun _ _ _ h => h) (Or.inl ⟨by rfl, ?_⟩) trivial ?_
              rotate_left
              · intro w hSw; (try dsimp only at hSw); go_simp; try with_reducible rfl
              try simp only [Act.put, List.getElem_toArray, List.getElem_cons_succ, List.getElem_cons_zero, List.setIfInBounds_toArray, List.set_cons_zero, List.set_cons_succ]
              refine wpAnyH_take (i := 7) (v := ?_) rfl (by kernel_rfl) (by kernel_rfl) (by kernel_rfl) (fun _ _ _ h => h) (Or.inl ⟨by rfl, ?_⟩) trivial ?_
              rotate_left
              · intro w hSw; (try dsimp only at hSw); go_simp; try with_reducible rfl
              try simp only [Act.put, List.getElem_toArray, List.getElem_cons_succ, List.getElem_cons_zero, List.setIfInBounds_toArray, List.set_cons_zero, List.set_cons_succ]
              refine wpAnyH_ready (rs := [3]) (by kernel_rfl) (by simp) ?_
              refine AllReadyH.cons rfl (fun K hK => ?_) AllReadyH.nil
              have c0 := HND.out.1
              have c1 := HND.out.2.1
              have c2 := HND.out.2.2
              go_simp
              clear c0 c1 c2
              refine hK.out _ _ ?_ (fun hHeld => ?_)
              · exact trivial
              clear hK K
              try simp only [Act.put, List.getElem_toArray, List.getElem_cons_succ, List.getElem_cons_zero, List.setIfInBounds_toArray, List.set_cons_zero, List.set_cons_succ]
              refine wpAnyH_ready (rs := [4]) (by kernel_rfl) (by simp) ?_
              refine AllReadyH.cons rfl (fun K hK => ?_) AllReadyH.nil
              go_simp
              refine hK.out _ _ ?_ (fun hHeld => ?_)
              · exact trivial
              clear hK K
              try simp only [Act.put, List.getElem_toArray, List.getElem_cons_succ, List.getElem_cons_zero, List.setIfInBounds_toArray, List.set_cons_zero, List.set_cons_succ]
              refine wpAnyH_ready (rs := [8]) (by kernel_rfl) (by simp) ?_
              refine AllReadyH.cons rfl (fun K hK => ?_) AllReadyH.nil
              obtain ⟨v1, wi, v2, wo, hr1, hr2, hrow2, hbel2, hbk2, hsz2, hown2⟩ := ins_some (wd.alloc (.cells #[.int .u64 x, .int .u64 p, .int .u64 q] 25)) w3.heap.size wd.heap.size g m cap k l' (x, (p, q)) 22 EM.out hkl (by omega) (HRD.out.alloc _) (row_new wd x p q HLD.out) HGN.out (by have := HLD.out; simp; omega)
              rw [if_pos (by rfl)]
              refine wp_append_run _ _ _ rfl _ rfl _ rfl hr1 ?_
              refine hK.out _ _ ?_ (fun hHeld => ?_)
              · exact trivial
              clear hK K
              try simp only [Act.put, List.getElem_toArray, List.getElem_cons_succ, List.getElem_cons_zero, List.setIfInBounds_toArray, List.set_cons_zero, List.set_cons_succ]
              refine wpAnyH_ready (rs := [9]) (by kernel_rfl) (by simp) ?_
              refine AllReadyH.cons rfl (fun K hK => ?_) AllReadyH.nil
              rw [if_pos (by rfl)]
              refine wp_append_run _ _ _ rfl _ rfl _ rfl hr2 ?_
              refine hK.out _ _ ?_ (fun hHeld => ?_)
              · exact trivial
              clear hK K
              try simp only [Act.put, List.getElem_toArray, List.getElem_cons_succ, List.getElem_cons_zero, List.setIfInBounds_toArray, List.set_cons_zero, List.set_cons_succ]
              refine wpAnyH_take (i := 10) (v := ?_) rfl (by kernel_rfl) (by kernel_rfl) (by kernel_rfl) (fun _ _ _ h => h) (Or.inl ⟨by rfl, ?_⟩) trivial ?_
              rotate_left
              · intro w hSw; (try dsimp only at hSw); go_simp; try with_reducible rfl
              try simp only [Act.put, List.getElem_toArray, List.getElem_cons_succ, List.getElem_cons_zero, List.setIfInBounds_toArray, List.set_cons_zero, List.set_cons_succ]
              refine wpAnyH_done (by kernel_rfl) ?_ _
              clear hHeld
              have hyl := (Array.getElem?_eq_some_iff.1 HYD.out).1
              have hys : (wd.alloc (.cells #[.int .u64 x, .int .u64 p, .int .u64 q] 25)).heap[yb]? = some (.cells #[.int .u64 a0, .int .u64 a1, .int .u64 a2, .int .u64 a0, .int .u64 b1, .int .u64 b2] 25 (0, 0)) := (((Same.refl wd).alloc _).block yb hyl).trans HYD.out
              have HZ9 := Lib.hid (show RowN wo w3.heap.size v2 (insN l (a0, (a1, a2)) (a0, (b1, b2)) z0 z1 (i + 1)) ∧ (∀ k, v2.ownBlock = some k → k ≠ yb) ∧ wo.heap[yb]? = some (.cells #[.int .u64 a0, .int .u64 a1, .int .u64 a2, .int .u64 a0, .int .u64 b1, .int .u64 b2] 25 (0, 0)) ∧ Same w3 wo ∧ w3.heap.size ≤ wo.heap.size from
                ⟨by rw [HST.out]; exact hrow2, fun k hk => by
                  rcases hown2 k hk with e | e
                  · rw [e]; exact HGY.out
                  · simp at e; omega, (hbk2 yb (by simp; omega) (by omega) (fun e => HGY.out e.symm)).trans hys, Below.trans (HSD.out.alloc _) hbel2, by have := HLD.out; simp at hsz2; omega⟩)
              clear hrow2 hbel2 hbk2 hsz2 hown2 hyl hys hr1 hr2
              go_wp2_with fail
              go_roundw
              case rel => exact ⟨i + 1, by go_num, by omega, HZ9⟩
              case measure => simp [intOf]; omega
          · obtain rfl : i = 2 := by omega
            have hall : ∀ n ∈ insN l (a0, (a1, a2)) (a0, (b1, b2)) z0 z1 2, U64 n.1 := bd_ins (bd_ins (bd_all.1 HN.out.bd) HA.out) HA.out
            have hll := insN_len l (a0, (a1, a2)) (a0, (b1, b2)) z0 z1 2 (by omega)
            obtain ⟨a9, c9, hv9, hn9⟩ := hrow.slice hall
            subst hv9
            obtain ⟨l2, el2⟩ : ∃ l2, insN l (a0, (a1, a2)) (a0, (b1, b2)) z0 z1 2 = l2 := ⟨_, rfl⟩
            have HP := Lib.hid (show (t = false → pickB (atP l2 a0) (a1, a2) = some (b1, b2) ∧ pickB (atP l2 a0) (b1, b2) = some (a1, a2)) ∧ (t = true → pickB (atP l2 a0) (a1, a2) = none ∧ pickB (atP l2 a0) (b1, b2) = none) by
              have h3 := thirdS_atP l a0 nn (by rw [HLN.out]; omega)
              rw [← HLN.out, List.take_length, HLN.out, HTH.out] at h3
              rw [← el2]
              constructor
              · intro e
                subst e
                have h4 : atP l a0 = [] := by
                  by_cases h : atP l a0 = []
                  · exact h
                  · exact absurd (h3.2 h) (by decide)
                exact meets_alone l _ _ a0 (a1, a2) (b1, b2) h4
              · intro e
                have h4 := h3.1 e
                exact ⟨meets_third l _ _ a0 (a1, a2) (b1, b2) (a1, a2) h4, meets_third l _ _ a0 (a1, a2) (b1, b2) (b1, b2) h4⟩)
            rw [el2] at hn9 hll ⊢
            obtain ⟨m, em⟩ : ∃ m, l2.length = m := ⟨_, rfl⟩
            rw [em] at hn9 hll ⊢
            have hm : m ≤ 300 := by rw [hll, HLN.out]; omega
            have HN9 := Lib.hid hn9
            have EM := Lib.hid em
            have HM9 := Lib.hid (HMA.out.same hsq)
            clear hH hrow hby hyq hsq hlq hall hll el2 hn9 em
            go_wp2_with fail
            refine (new_any _).mono ?_
            rintro e wN ⟨rfl, rfl⟩
            obtain ⟨wN, ewN⟩ : ∃ wN, wr.alloc (.cells #[.slice none 0 0, .int .i64 0] 55) = wN := ⟨_, rfl⟩
            obtain ⟨ob, eob⟩ : ∃ ob, wr.heap.size = ob := ⟨_, rfl⟩
            have hON := OffAt.new wr
            have hsN : Same wr wN := by rw [← ewN]; exact (Same.refl _).alloc _
            have hlN : ob ≤ wN.heap.size := by rw [← eob]; exact hsN.size
            rw [eob, ewN] at hON
            rw [eob, ewN]
            have HON := Lib.hid hON
            have HN10 := Lib.hid (HN9.out.same hsN)
            have HSN := Lib.hid hsN
            have HOB := Lib.hid eob
            clear ewN eob hON hsN
            go_wp2_with fail
            refine (deliver_any ob ob [] 0 7 a9 m c9 l2 (by simp) (by omega) (by omega) _ HON.out HN10.out).mono ?_
            rintro e w7 ⟨rfl, hO7, hK7, hB7⟩
            rw [okD_new]
            rw [cntD_new, delR_new] at hO7
            have HO7 := Lib.hid hO7
            have hs7 : Same wr w7 := HSN.out.trans_below (by rw [HOB.out]; exact hB7)
            have HM7 := Lib.hid (HM9.out.same hs7)
            obtain ⟨q0, q1, q2, q3, q4, q5, _, _, _⟩ := HM7.out
            clear hO7 hK7 hB7 hs7 hlN
            go_wp2_with fail
            refine (fetch_any ob ob _ _ 7 a0 a1 a2 (by simp) HA.out _ HO7.out).mono ?_
            rintro e w8 ⟨rfl, hs8⟩
            rw [fetchR_one, bodN_all]
            cases t
            · have hp := HP.out.1 rfl
              have HP2 := Lib.hid hp.2
              rw [hp.1]
              unfold fetV bodyV
              obtain ⟨wA, ewA⟩ : ∃ wA, w8.alloc (.cells #[.int .u64 b1, .int .u64 b2] 32) = wA := ⟨_, rfl⟩
              obtain ⟨xb, exb⟩ : ∃ xb, w8.heap.size = xb := ⟨_, rfl⟩
              have hsA : Same w8 wA := by rw [← ewA]; exact (Same.refl w8).alloc _
              have HM8 := Lib.hid ((HM7.out.same hs8).same hsA)
              have HO8 := Lib.hid ((HO7.out.same hs8).same hsA)
              obtain ⟨r0, r1, r2, r3, r4, r5, _, _, _⟩ := HM8.out
              have hxb := new_two w8 (.int .u64 b1) (.int .u64 b2) 32
              rw [ewA, exb] at hxb
              have HXB := Lib.hid hxb
              have EWA := Lib.hid ewA
              have EXB := Lib.hid exb
              clear hp q0 q1 q2 q3 q4 q5 hs8 hsA ewA exb hxb
              go_upto_region 25 with fail
              rw [EWA.out, EXB.out]
              go_wp2_with fail
              refine (fetch_any ob ob _ _ 7 a0 b1 b2 (by simp) HA.out _ HO8.out).mono ?_
              rintro e w9 ⟨rfl, hs9⟩
              rw [fetchR_one, bodN_all, HP2.out]
              unfold fetV bodyV
              obtain ⟨wC, ewC⟩ : ∃ wC, w9.alloc (.cells #[.int .u64 a1, .int .u64 a2] 32) = wC := ⟨_, rfl⟩
              obtain ⟨yx, eyx⟩ : ∃ yx, w9.heap.size = yx := ⟨_, rfl⟩
              have hsB : Same w9 wC := by rw [← ewC]; exact (Same.refl w9).alloc _
              have HM9 := Lib.hid ((HM8.out.same hs9).same hsB)
              obtain ⟨p0, p1, p2, p3, p4, p5, _, _, pf⟩ := HM9.out
              have HSF := Lib.hid (pf.out EB.out)
              have x0 := same_cell hsB (same_cell hs9 HXB.out.1)
              have x1 := same_cell hsB (same_cell hs9 HXB.out.2)
              have hyx := new_two w9 (.int .u64 a1) (.int .u64 a2) 32
              rw [ewC, eyx] at hyx
              have y0 := hyx.1
              have y1 := hyx.2
              have EWC := Lib.hid ewC
              have EYX := Lib.hid eyx
              clear r0 r1 r2 r3 r4 r5 hs9 hsB ewC eyx hyx pf
              go_upto_region 26 with fail
              rw [EWC.out, EYX.out]
              have he1 := equal_body b1 b2 b1 b2
              have he2 := equal_body a1 a2 a1 a2
              go_wp2_with fail
              go_ret
              exact ⟨by simp, HSF.out⟩
            · have hp := HP.out.2 rfl
              have HP2 := Lib.hid hp.2
              rw [hp.1]
              unfold fetV bodyV
              obtain ⟨wA, ewA⟩ : ∃ wA, w8.alloc (.cells #[.int .u64 0, .int .u64 0] 32) = wA := ⟨_, rfl⟩
              obtain ⟨xb, exb⟩ : ∃ xb, w8.heap.size = xb := ⟨_, rfl⟩
              have hsA : Same w8 wA := by rw [← ewA]; exact (Same.refl w8).alloc _
              have HM8 := Lib.hid ((HM7.out.same hs8).same hsA)
              have HO8 := Lib.hid ((HO7.out.same hs8).same hsA)
              obtain ⟨r0, r1, r2, r3, r4, r5, _, _, _⟩ := HM8.out
              have hxb := new_two w8 (.int .u64 0) (.int .u64 0) 32
              rw [ewA, exb] at hxb
              have HXB := Lib.hid hxb
              have EWA := Lib.hid ewA
              have EXB := Lib.hid exb
              clear hp q0 q1 q2 q3 q4 q5 hs8 hsA ewA exb hxb
              go_upto_region 25 with fail
              rw [EWA.out, EXB.out]
              go_wp2_with fail
              refine (fetch_any ob ob _ _ 7 a0 b1 b2 (by simp) HA.out _ HO8.out).mono ?_
              rintro e w9 ⟨rfl, hs9⟩
              rw [fetchR_one, bodN_all, HP2.out]
              unfold fetV bodyV
              obtain ⟨wC, ewC⟩ : ∃ wC, w9.alloc (.cells #[.int .u64 0, .int .u64 0] 32) = wC := ⟨_, rfl⟩
              obtain ⟨yx, eyx⟩ : ∃ yx, w9.heap.size = yx := ⟨_, rfl⟩
              have hsB : Same w9 wC := by rw [← ewC]; exact (Same.refl w9).alloc _
              have HM9 := Lib.hid ((HM8.out.same hs9).same hsB)
              obtain ⟨p0, p1, p2, p3, p4, p5, _, _, pf⟩ := HM9.out
              have HSF := Lib.hid (pf.out EB.out)
              have x0 := same_cell hsB (same_cell hs9 HXB.out.1)
              have x1 := same_cell hsB (same_cell hs9 HXB.out.2)
              have hyx := new_two w9 (.int .u64 0) (.int .u64 0) 32
              rw [ewC, eyx] at hyx
              have y0 := hyx.1
              have y1 := hyx.2
              have EWC := Lib.hid ewC
              have EYX := Lib.hid eyx
              clear r0 r1 r2 r3 r4 r5 hs9 hsB ewC eyx hyx pf
              go_upto_region 26 with fail
              rw [EWC.out, EYX.out]
              have he1 := equal_body 0 0 0 0
              skip
              go_wp2_with fail
              go_ret
              exact ⟨by simp, HSF.out⟩
end Go.Proofs.Ytchmhpfccanamaa
