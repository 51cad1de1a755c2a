/- What stands in memory, as numbers and lists: a slice of uint64; a slice of rows of a certificate. -/
import Derived.Test.YtdbhcdhenapfoaaBase
set_option linter.unusedVariables false
set_option linter.unusedSimpArgs false
namespace Go.Proofs.Ytdbhcdhenapfoaa
open Go.RowKit
/-- Blocks below those of w are as they were. -/
abbrev Same (w w' : World) : Prop := Below w.heap.size w w'
theorem same_cell {w w' : World} (h : Same w w') {a : Addr} {v : Value} (hc : w.cell? a = some v) : w'.cell? a = some v := (h.cell (World.block_lt_of_cell? w a hc)).trans hc
theorem Same.refl (w : World) : Same w w := Below.refl _ _
theorem Same.trans {w w1 w2 : World} (h : Same w w1) (k : Same w1 w2) : Same w w2 :=
  Below.trans h ⟨k.os, k.tape, k.output, k.size, fun i hi => k.block i (Nat.lt_of_lt_of_le hi h.size)⟩
theorem Same.alloc {w w1 : World} (h : Same w w1) (o : Obj) : Same w (w1.alloc o) := Below.alloc h h.size o
theorem Same.drawn {w w1 w2 : World} (h : Same w w1) (k : Drawn w1 w2) : Same w w2 := h.trans k.below
theorem Same.drewN {w w1 : World} (h : Same w w1) (n : Nat) : Same w (w1.drewN n) := h.trans (Drawn.of _ _).below
theorem Same.grown {w w' : World} (h : Same w w') (row : Option Nat) : w.grownBy w' row := ⟨h.os, h.tape, h.output, h.size, fun i hi _ => h.block i hi⟩

def U64 (x : Int) : Prop := 0 ≤ x ∧ x < 18446744073709551616
/-- A slice of uint64 that reads as these numbers. -/
structure IntsAt (w : World) (a : Option Addr) (n : Nat) (xs : List Int) : Prop where
  len : xs.length = n
  small : n ≤ 9223372036854775807
  cells : 0 < n → ∃ b off, a = some ⟨b, off, none⟩ ∧ ∀ j, j < n → w.cell? ⟨b, off + j, none⟩ = some (.int .u64 (xs.getD j 0))
  bd : ∀ j, U64 (xs.getD j 0)
theorem IntsAt.same {w w' : World} {a : Option Addr} {n : Nat} {xs : List Int} (h : IntsAt w a n xs) (hs : Same w w') : IntsAt w' a n xs :=
  ⟨h.len, h.small, fun h0 => by obtain ⟨b, off, e, hc⟩ := h.cells h0; exact ⟨b, off, e, fun j hj => same_cell hs (hc j hj)⟩, h.bd⟩
/-- A row: its number, its witness, its factors. -/
structure RowD where
  n : Int
  a : Int
  f : List Int
instance : Inhabited RowD := ⟨⟨0, 0, []⟩⟩
structure RowAt (w : World) (b o : Nat) (r : RowD) : Prop where
  n : w.cell? ⟨b, o, none⟩ = some (.int .u64 r.n)
  a : w.cell? ⟨b, o + 1, none⟩ = some (.int .u64 r.a)
  f : ∃ fa fn fc, w.cell? ⟨b, o + 2, none⟩ = some (.slice fa fn fc) ∧ IntsAt w fa fn r.f
  nb : U64 r.n
  ab : U64 r.a
theorem RowAt.same {w w' : World} {b o : Nat} {r : RowD} (h : RowAt w b o r) (hs : Same w w') : RowAt w' b o r := by
  obtain ⟨fa, fn, fc, h1, h2⟩ := h.f
  exact ⟨same_cell hs h.n, same_cell hs h.a, ⟨fa, fn, fc, same_cell hs h1, h2.same hs⟩, h.nb, h.ab⟩
structure RowsAt (w : World) (a : Option Addr) (n : Nat) (rs : List RowD) : Prop where
  len : rs.length = n
  small : n ≤ 9223372036854775807
  rows : 0 < n → ∃ b off, a = some ⟨b, off, none⟩ ∧ ∀ j, j < n → RowAt w b (off + j * 3) (rs.getD j default)
theorem RowsAt.same {w w' : World} {a : Option Addr} {n : Nat} {rs : List RowD} (h : RowsAt w a n rs) (hs : Same w w') : RowsAt w' a n rs :=
  ⟨h.len, h.small, fun h0 => by obtain ⟨b, off, e, hc⟩ := h.rows h0; exact ⟨b, off, e, fun j hj => (hc j hj).same hs⟩⟩
end Go.Proofs.Ytdbhcdhenapfoaa
