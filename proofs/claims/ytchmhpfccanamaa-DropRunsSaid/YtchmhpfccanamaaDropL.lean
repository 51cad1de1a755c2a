/- Layer 14: a new office, two notes, the law's awake. -/
import Derived.Test.YtchmhpfccanamaaDropW4
set_option linter.unusedVariables false
set_option linter.unusedSimpArgs false
namespace Go.Proofs.Ytchmhpfccanamaa
open Go.RowKit
/-- as it was below B; and B is no more than the blocks there are -/
structure FromB (B : Nat) (w w' : World) : Prop where
  below : Below B w w'
  le : B ≤ w'.heap.size
theorem FromB.refl (w : World) : FromB w.heap.size w w := ⟨Below.refl _ _, Nat.le_refl _⟩
theorem FromB.alloc {B : Nat} {a w : World} (h : FromB B a w) (o : Obj) : FromB B a (w.alloc o) := ⟨h.below.alloc h.le o, by have := h.le; simp; omega⟩
theorem FromB.same {B : Nat} {a w w' : World} (h : FromB B a w) (k : Same w w') : FromB B a w' := ⟨h.below.trans (Below.mono k h.le), Nat.le_trans h.le k.size⟩
theorem FromB.more {B : Nat} {a w w' : World} (h : FromB B a w) (k : Below B w w') : FromB B a w' := ⟨h.below.trans k, Nat.le_trans h.le k.size⟩
theorem FromB.grown {B : Nat} {a w w' : World} {row : Option Nat} (h : FromB B a w) (hg : w.grownBy w' row) (hr : ∀ k, row = some k → B ≤ k) : FromB B a w' := ⟨h.below.grown hg h.le hr, Nat.le_trans h.le hg.size⟩
theorem FromB.out {B : Nat} {w w' : World} (h : FromB B w w') (e : w.heap.size = B) : Same w w' := by subst e; exact h.below
theorem OffAt.new (w : World) : OffAt (w.alloc (.cells #[.slice none 0 0, .int .i64 0] 55)) w.heap.size w.heap.size [] 0 :=
  ⟨⟨_, (MapKept.heap_alloc _ _).1, Nat.le_refl _, ⟨Or.inl ⟨rfl, rfl⟩⟩⟩⟩
theorem OffAt.down {w : World} {B B' ob : Nat} {R : List Rnd} {cnt : Int} (h : OffAt w B ob R cnt) (hb : B' ≤ B) : OffAt w B' ob R cnt := by
  obtain ⟨kv, h1, h2, ⟨h3⟩⟩ := h.ex
  refine ⟨⟨kv, h1, by omega, ⟨?_⟩⟩⟩
  rcases h3 with h3 | ⟨g, off, cap, cur, k1, k2, k3⟩
  · exact Or.inl h3
  · exact Or.inr ⟨g, off, cap, cur, k1, by omega, k3⟩
theorem notes_two (w : World) {x1 p1 q1 x2 p2 q2 : Int} (h1 : U64 x1) (h2 : U64 x2) : NotesAt (w.alloc (.cells #[.int .u64 x1, .int .u64 p1, .int .u64 q1, .int .u64 x2, .int .u64 p2, .int .u64 q2] 25)) (some ⟨w.heap.size, 0, none⟩) 2 [(x1, (p1, q1)), (x2, (p2, q2))] := by
  refine ⟨rfl, fun _ => ⟨w.heap.size, 0, rfl, fun j hj => ?_⟩, fun j => ?_⟩
  · match j, hj with
    | 0, _ => simp [World.cell?_alloc_new]
    | 1, _ => simp [World.cell?_alloc_new]
  · match j with
    | 0 => exact h1
    | 1 => exact h2
    | _ + 2 => exact ⟨by simp, by simp⟩
theorem notes_none (w : World) : NotesAt w none 0 [] := ⟨rfl, fun h => by omega, fun j => ⟨by simp, by simp⟩⟩
theorem okD_new (x : Int) : okD [] x = true := rfl
theorem cntD_new (x c : Int) : cntD [] x c = c + 1 := rfl
theorem delR_new (x : Int) (l : List NoteD) : delR [] x l = [(x, bodN l l.length)] := rfl
theorem fetch_awake : fetchR (delR [] 1 [(5, (1, 1)), (5, (2, 2))]) 1 5 (1, 1) = some (2, 2) := by
  rw [delR_new]; simp [fetchR, idxR, bodN, upd, idxB]
theorem awake14 (w : World) : Calls Try.prog 6 #[] w fun e w' => e = .returned (.bool true) ∧ Same w w' := by
  obtain ⟨B, eB⟩ : ∃ B, w.heap.size = B := ⟨_, rfl⟩
  obtain ⟨W, eW⟩ : ∃ W, w.alloc (.cells #[.slice none 0 0, .int .i64 0] 55) = W := ⟨_, rfl⟩
  have hO := OffAt.new w
  have hS : FromB B w W := by rw [← eW, ← eB]; exact (FromB.refl w).alloc _
  rw [eB, eW] at hO
  have EB := Lib.hid eB
  have EW := Lib.hid eW
  have HO := Lib.hid hO
  have HS := Lib.hid hS
  clear eB eW hO hS
  go_enter Try.func6, Try.ntmps6
  go_wp2_with fail
  refine (new_any _).mono ?_
  rintro e w1 ⟨rfl, rfl⟩
  rw [EW.out, EB.out]
  go_wp2_with fail
  have hN := notes_two W (x1 := 5) (p1 := 1) (q1 := 1) (x2 := 5) (p2 := 2) (q2 := 2) ⟨by decide, by decide⟩ ⟨by decide, by decide⟩
  refine (deliver_any B B [] 0 1 _ 2 2 _ (by simp) (by omega) (by omega) _ (HO.out.same ((Same.refl W).alloc _)) hN).mono ?_
  rintro e w2 ⟨rfl, hO2, hK2, hB2⟩
  rw [okD_new]
  rw [cntD_new] at hO2
  obtain ⟨R2, eR2⟩ : ∃ R2, delR [] 1 [(5, (1, 1)), (5, (2, 2))] = R2 := ⟨_, rfl⟩
  have hf := fetch_awake
  have hl : R2.length ≤ 1000 := by rw [← eR2, delR_new]; simp
  rw [eR2] at hO2 hf
  have HB2 := Lib.hid ((HS.out.alloc (.cells #[.int .u64 5, .int .u64 1, .int .u64 1, .int .u64 5, .int .u64 2, .int .u64 2] 25)).more hB2)
  have HO2 := Lib.hid hO2
  clear eR2 hN hK2 hB2 hO2
  go_wp2_with fail
  refine (fetch_any B B R2 _ 1 5 1 1 hl ⟨by decide, by decide⟩ _ HO2.out).mono ?_
  rintro e w3 ⟨rfl, hT⟩
  rw [hf]
  have hB3 := HB2.out.same hT
  have hO3 := (HO2.out.same hT).same ((Same.refl w3).alloc (.cells #[.int .u64 2, .int .u64 2] 32))
  have HO3 := Lib.hid hO3
  have HB3 := Lib.hid (hB3.alloc (.cells #[.int .u64 2, .int .u64 2] 32))
  clear hT hB3 hO3 hf hl
  unfold fetV bodyV
  have heq := equal_body 2 2 2 2
  go_wp2_with fail
  refine (count_any B B R2 _ _ HO3.out).mono ?_
  rintro e w4 ⟨rfl, rfl⟩
  go_wp2_with fail
  go_ret
  exact ⟨rfl, HB3.out.out EB.out⟩
end Go.Proofs.Ytchmhpfccanamaa
