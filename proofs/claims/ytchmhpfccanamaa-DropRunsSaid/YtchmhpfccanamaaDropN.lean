/- Layer 14: notes; the words of the walk of Deliver. -/
import Derived.Test.YtchmhpfccanamaaDropW3
set_option linter.unusedVariables false
set_option linter.unusedSimpArgs false
namespace Go.Proofs.Ytchmhpfccanamaa
open Go.RowKit
abbrev NoteD := Int × Body
abbrev nt0 : NoteD := (0, (0, 0))
/-- notes, as they stand in memory -/
structure NotesAt (w : World) (a : Option Addr) (n : Nat) (l : List NoteD) : Prop where
  len : l.length = n
  cells : 0 < n → ∃ b off, a = some ⟨b, off, none⟩ ∧ ∀ j, j < n → w.cell? ⟨b, off + j * 3, none⟩ = some (.int .u64 (l.getD j nt0).1) ∧ w.cell? ⟨b, off + j * 3 + 1, none⟩ = some (.int .u64 (l.getD j nt0).2.1) ∧ w.cell? ⟨b, off + j * 3 + 2, none⟩ = some (.int .u64 (l.getD j nt0).2.2)
  bd : ∀ j, U64 (l.getD j nt0).1
theorem NotesAt.same {w w' : World} {a : Option Addr} {n : Nat} {l : List NoteD} (h : NotesAt w a n l) (hs : Same w w') : NotesAt w' a n l :=
  ⟨h.len, fun h0 => by obtain ⟨b, off, e, hc⟩ := h.cells h0; exact ⟨b, off, e, fun j hj => ⟨same_cell hs (hc j hj).1, same_cell hs (hc j hj).2.1, same_cell hs (hc j hj).2.2⟩⟩, h.bd⟩
/-- the bodies of the first j notes, by their places -/
def bodN (l : List NoteD) : Nat → Plc
  | 0 => fun _ => []
  | j + 1 => upd (bodN l j) (l.getD j nt0).1 (bodN l j (l.getD j nt0).1 ++ [(l.getD j nt0).2])
def okD (R : List Rnd) (x : Int) : Bool := R.length == 0 || decide ((R.getD (R.length - 1) rd0).1 < x)
def delR (R : List Rnd) (x : Int) (l : List NoteD) : List Rnd := if okD R x = true then (R ++ [(x, bodN l l.length)]).drop (R.length + 1 - 16) else R
section
variable {P : Program} {o : Oper} {a : Act} {w : World} {K : Act → World → Prop} {Q : Exit → Act → World → Prop}
theorem wp_lookup (m x : Operand) (t : TypeId) (hop : o.op = Op.lookup t m x false) {vm vx v : Value} (hm : a.eval m = vm) (hx : a.eval x = vx) (hrun : (Instr.lookup t vm vx false).run P w = .ok v w) (h : K (a.put o.dst v) w) : o.wp P a w K Q := by
  unfold Oper.wp
  simp [execOp, hop, hm, hx, hrun, Result.andThen]
  exact h
theorem wp_mapUpdate (m x y : Operand) (t : TypeId) (hop : o.op = Op.mapUpdate t m x y) {vm vx vy : Value} {w' : World} (hm : a.eval m = vm) (hx : a.eval x = vx) (hy : a.eval y = vy) (hrun : (Instr.mapUpdate t vm vx vy).run P w = .ok () w') (h : K (a.put o.dst undef) w') : o.wp P a w K Q := by
  unfold Oper.wp
  simp [execOp, hop, hm, hx, hy, hrun, Result.andThen]
  exact h
theorem wp_append_run (s x : Operand) (t : TypeId) (ho : o.op = .call { callee := .builtin .append, args := #[s, x], argTypes := #[t, t] }) (v : Value) (hs : a.eval s = v) (u : Value) (hx : a.eval x = u) {v' : Value} {w' : World}
    (hr : (Builtin.append_ #[t, t] o.type #[v, u]).run P w = .ok v' w') (h : K (a.put o.dst v') w') : o.wp P a w K Q := by
  unfold Oper.wp execOp
  simp only [ho, resolve, invoke, builtin, Sem.run_bind, Sem.run_pure, Result.andThen_ok, List.map_toArray, List.map_cons, List.map_nil, hs, hx, hr]
  exact h
end
theorem two_new (w : World) (x y : Value) (t : TypeId) : ∀ (j : Nat) (u : Value), [x, y][j]? = some u → (w.alloc (.cells #[x, y] t)).cell? ((⟨w.heap.size, 0, none⟩ : Addr).add j) = some u := by
  intro j u hj
  match j, hj with
  | 0, hj => simp at hj; subst hj; simp [Addr.add, World.cell?_alloc_new]
  | 1, hj => simp at hj; subst hj; simp [Addr.add, World.cell?_alloc_new]
theorem two_cell (x y : Int) : ∀ u ∈ [Value.int .u64 x, .int .u64 y], u.oneCell' = true := by
  intro u hu; simp at hu; rcases hu with rfl | rfl <;> rfl
/-- the office, and the last round's number if there is one -/
abbrev S1 (W0 : World) (ob : Nat) (kv : Value) (cl : World → Prop) (w : World) : Prop := w.cell? ⟨ob, 0, none⟩ = some kv ∧ cl w ∧ Same W0 w
/-- the new round's box, a note's box -/
abbrev S7 (W0 : World) (rx nb : Nat) (u v : Value) (x p q : Int) (w : World) : Prop := w.cell? ⟨rx, 0, none⟩ = some u ∧ w.cell? ⟨rx, 1, none⟩ = some v ∧ w.cell? ⟨nb, 0, none⟩ = some (.int .u64 x) ∧ w.cell? ⟨nb, 1, none⟩ = some (.int .u64 p) ∧ w.cell? ⟨nb, 2, none⟩ = some (.int .u64 q) ∧ Same W0 w
theorem S7.same {W0 w w' : World} {rx nb : Nat} {u v : Value} {x p q : Int} (h : S7 W0 rx nb u v x p q w) (hs : Same w w') : S7 W0 rx nb u v x p q w' := ⟨same_cell hs h.1, same_cell hs h.2.1, same_cell hs h.2.2.1, same_cell hs h.2.2.2.1, same_cell hs h.2.2.2.2.1, h.2.2.2.2.2.trans hs⟩
theorem S7.grown {W0 w w' : World} {rx nb : Nat} {u v : Value} {x p q : Int} {row : Option Nat} (h : S7 W0 rx nb u v x p q w) (hg : w.grownBy w' row) (hr : ∀ k, row = some k → k ≠ rx ∧ k ≠ nb ∧ W0.heap.size ≤ k) : S7 W0 rx nb u v x p q w' := by
  have e1 : some rx ≠ row := fun e => (hr rx e.symm).1 rfl
  have e2 : some nb ≠ row := fun e => (hr nb e.symm).2.1 rfl
  exact ⟨hg.cell h.1 e1, hg.cell h.2.1 e1, hg.cell h.2.2.1 e2, hg.cell h.2.2.2.1 e2, hg.cell h.2.2.2.2.1 e2, Below.grown h.2.2.2.2.2 hg h.2.2.2.2.2.size (fun k hk => (hr k hk).2.2)⟩
/-- the new round's box alone -/
abbrev S9 (rx : Nat) (u v : Value) (w : World) : Prop := w.cell? ⟨rx, 0, none⟩ = some u ∧ w.cell? ⟨rx, 1, none⟩ = some v
theorem S9.same {w w' : World} {rx : Nat} {u v : Value} (h : S9 rx u v w) (hs : Same w w') : S9 rx u v w' := ⟨same_cell hs h.1, same_cell hs h.2⟩
theorem S9.grown {w w' : World} {rx : Nat} {u v : Value} {row : Option Nat} (h : S9 rx u v w) (hg : w.grownBy w' row) (hr : some rx ≠ row) : S9 rx u v w' := ⟨hg.cell h.1 hr, hg.cell h.2 hr⟩
theorem S9.far {w : World} {rx ob o : Nat} {u v : Value} (h : S9 rx u v w) (hne : ob ≠ rx) (x : Value) : S9 rx u v (w.setCell ⟨ob, o, none⟩ x) := ⟨(World.cell?_setCell_far _ _ _ _ hne).trans h.1, (World.cell?_setCell_far _ _ _ _ hne).trans h.2⟩
theorem MapB.far {w : World} {base b n : Nat} {V : Int → Value} {L : Plc} (h : MapB w base b n V L) {rx nb : Nat} {W0 : World} (h1 : rx < base) (h2 : nb = w.heap.size) (h3 : W0.heap.size ≤ base) : ∀ x, U64 x → ∀ k, (V x).ownBlock = some k → k ≠ rx ∧ k ≠ nb ∧ W0.heap.size ≤ k := by
  intro x hx k hk
  have := (h.row x hx).lt k hk
  omega
end Go.Proofs.Ytchmhpfccanamaa
