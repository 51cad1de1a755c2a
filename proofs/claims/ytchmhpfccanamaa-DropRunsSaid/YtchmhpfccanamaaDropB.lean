/- Layer 14: an office, as it stands in memory. -/
import Derived.Test.YtchmhpfccanamaaRead
import Derived.Test.YtchmhpfccanamaaProg
import Derived.Maps.Own
import Derived.Maps.AppendAt
import Derived.Maps.OwnOps
import Derived.Maps.Views
import Derived.ArgAppend
set_option linter.unusedVariables false
set_option linter.unusedSimpArgs false
namespace Go.Proofs.Ytchmhpfccanamaa
open Go.RowKit Go.Maps
abbrev Body := Int × Int
abbrev Plc := Int → List Body
abbrev Rnd := Int × Plc
def cellsOf (l : List Body) : List Value := l.flatMap fun p => [.int .u64 p.1, .int .u64 p.2]
theorem cellsOf_len (l : List Body) : (cellsOf l).length = l.length * 2 := by
  unfold cellsOf
  induction l with
  | nil => rfl
  | cons p l ih => rw [List.flatMap_cons, List.length_append, ih]; simp; omega
theorem cellsOf_snoc (l : List Body) (p : Body) : cellsOf (l ++ [p]) = cellsOf l ++ [.int .u64 p.1, .int .u64 p.2] := by unfold cellsOf; simp
theorem cellsOf_at : ∀ (l : List Body) (i : Nat), i < l.length → (cellsOf l)[i * 2]? = some (.int .u64 (l.getD i (0, 0)).1) ∧ (cellsOf l)[i * 2 + 1]? = some (.int .u64 (l.getD i (0, 0)).2)
  | [], i, h => by simp at h
  | p :: l, 0, h => by simp [cellsOf]
  | p :: l, i + 1, h => by
    have := cellsOf_at l i (by simpa using h)
    have e : cellsOf (p :: l) = .int .u64 p.1 :: .int .u64 p.2 :: cellsOf l := rfl
    rw [e, show (i + 1) * 2 = i * 2 + 1 + 1 by omega]
    simpa using this
def nilS : Value := .slice none 0 0
/-- every value reads as itself -/
def R0 : Value → Option (DataW Value × List MemPlace) := fun v => some (.held v, [])
theorem law : Keyed Try.prog 23 := int_keyed Try.underlying23
theorem zeroE (w : World) : (zeroValue 59).run Try.prog w = .ok (.slice none 0 0) w := by kernel_rfl
theorem hkey {x : Int} (h : U64 x) : keyOf Try.prog 23 (.int .u64 x) = some (.int .u64 x) := keyOf_int_mk Try.underlying23 (WalkArith.wf_u64 (by have := h.1; have := h.2; omega))
/-- block b is a map that has V x at x -/
structure MapV (w : World) (b n : Nat) (V : Int → Value) : Prop where
  ex : ∃ D : DataW Value, w.ownsMap Try.prog 23 R0 b n D ∧ ∀ x, U64 x → D.atKey (.int .u64 x) (.held nilS) = .held (V x)
def upd {α : Type} (f : Int → α) (x : Int) (v : α) : Int → α := fun y => if y = x then v else f y
theorem MapV.made (w : World) : MapV (w.alloc (.map #[] 0)) w.heap.size 0 (fun _ => nilS) := ⟨_, World.ownsMap_made _ _ _ _, fun x _ => rfl⟩
theorem MapV.lookup {w : World} {b n : Nat} {V : Int → Value} (h : MapV w b n V) {x : Int} (hx : U64 x) : (Instr.lookup 56 (.map (some b)) (.int .u64 x) false).run Try.prog w = .ok (V x) w := by
  obtain ⟨D, h1, h2⟩ := h.ex
  obtain ⟨v, ps, hr, hv⟩ := h1.lookup law Try.underlying56 (zeroE w) (zd := .held nilS) (zp := []) rfl (hkey hx)
  rw [h2 x hx] at hv
  simp only [R0, Option.some.injEq, Prod.mk.injEq, DataW.held.injEq] at hv
  rw [hr, hv.1]
theorem MapV.update {w : World} {b n : Nat} {V : Int → Value} (h : MapV w b n V) (hn : n < maxLen) {x : Int} (hx : U64 x) (v : Value) :
    ∃ w', (Instr.mapUpdate 56 (.map (some b)) (.int .u64 x) v).run Try.prog w = .ok () w' ∧ MapV w' b (n + 1) (upd V x v) ∧ w.grownBy w' (some b) := by
  obtain ⟨D, h1, h2⟩ := h.ex
  obtain ⟨w', hr, ho, hg⟩ := h1.update law Try.underlying56 hn (hkey hx) (val := v) (d := .held v) (ps := []) rfl
  refine ⟨w', hr, ⟨_, ho, fun y hy => ?_⟩, hg⟩
  obtain ⟨es, clock, _, _, _, hD⟩ := h1
  unfold upd
  by_cases hyx : y = x
  · subst hyx
    rw [if_pos rfl]
    exact atKey_put_same ⟨_, hD⟩ (law.key (hkey hx)) _ _
  · rw [if_neg hyx, ← h2 y hy]
    exact atKey_put_other (by intro e; injection e with e1 e2; exact hyx e2) _ _
theorem MapV.kept {w w' : World} {b n : Nat} {V : Int → Value} {row : Option Nat} (h : MapV w b n V) (hg : w.grownBy w' row) (hne : some b ≠ row) : MapV w' b n V := by
  obtain ⟨D, h1, h2⟩ := h.ex
  exact ⟨D, h1.kept hg hne, h2⟩
/-- all but offices and their rounds is as it was -/
def Keep (w w' : World) : Prop := ∀ (k : Nat) (o : Obj), w.heap[k]? = some o → (∀ cur f, o ≠ .cells cur 55 f) → (∀ cur f, o ≠ .cells cur 58 f) → w'.heap[k]? = some o
theorem Keep.of_same {w w' : World} (h : Same w w') : Keep w w' := fun k o hk _ _ => by
  rw [h.block k (Array.getElem?_eq_some_iff.1 hk).1]; exact hk
theorem Keep.trans {w w1 w2 : World} (h : Keep w w1) (k : Keep w1 w2) : Keep w w2 := fun i o hi h1 h2 => k i o (h i o hi h1 h2) h1 h2
theorem Keep.refl (w : World) : Keep w w := fun _ _ h _ _ => h
theorem MapV.keep {w w' : World} {b n : Nat} {V : Int → Value} (h : MapV w b n V) (hk : Keep w w') : MapV w' b n V := by
  obtain ⟨D, ⟨es, clock, hb, h1⟩, h2⟩ := h.ex
  exact ⟨D, ⟨es, clock, hk b _ hb (fun _ _ e => by cases e) (fun _ _ e => by cases e), h1⟩, h2⟩
/-- the slice v owns these bodies -/
abbrev RowB (w : World) (base : Nat) (v : Value) (l : List Body) : Prop := w.ownsRow base 32 2 v l.length (cellsOf l)
theorem RowB.keep {w w' : World} {base : Nat} {v : Value} {l : List Body} (h : RowB w base v l) (hk : Keep w w') : RowB w' base v l := by
  obtain ⟨hl, h1 | ⟨g, cap, cur, hv, hb, hh, h2⟩⟩ := h
  · exact ⟨hl, .inl h1⟩
  · exact ⟨hl, .inr ⟨g, cap, cur, hv, hb, hk g _ hh (fun _ _ e => by cases e) (fun _ _ e => by cases e), h2⟩⟩
theorem RowB.down {w : World} {base base' : Nat} {v : Value} {l : List Body} (h : RowB w base v l) (hb' : base' ≤ base) : RowB w base' v l := by
  obtain ⟨hl, h1 | ⟨g, cap, cur, hv, hb, h2⟩⟩ := h
  · exact ⟨hl, .inl h1⟩
  · exact ⟨hl, .inr ⟨g, cap, cur, hv, Nat.le_trans hb' hb, h2⟩⟩
/-- a map of bodies that is being built -/
structure MapB (w : World) (base b n : Nat) (V : Int → Value) (L : Plc) : Prop where
  map : MapV w b n V
  row : ∀ x, U64 x → RowB w base (V x) (L x)
  apart : ∀ x y, U64 x → U64 y → x ≠ y → (V x).ownBlock = none ∨ (V x).ownBlock ≠ (V y).ownBlock
  len : ∀ x, (L x).length ≤ n
/-- a map of bodies that is done -/
structure FinB (w : World) (b : Nat) (L : Plc) : Prop where
  ex : ∃ n V, MapV w b n V ∧ ∀ x, U64 x → RowB w 0 (V x) (L x)
theorem MapB.fin {w : World} {base b n : Nat} {V : Int → Value} {L : Plc} (h : MapB w base b n V L) : FinB w b L := ⟨n, V, h.map, fun x hx => (h.row x hx).down (Nat.zero_le _)⟩
theorem FinB.keep {w w' : World} {b : Nat} {L : Plc} (h : FinB w b L) (hk : Keep w w') : FinB w' b L := by
  obtain ⟨n, V, h1, h2⟩ := h.ex
  exact ⟨n, V, h1.keep hk, fun x hx => (h2 x hx).keep hk⟩
theorem MapB.made (w : World) (base : Nat) : MapB (w.alloc (.map #[] 0)) base w.heap.size 0 (fun _ => nilS) (fun _ => []) :=
  ⟨MapV.made w, fun x _ => World.ownsRow_nil _ _ _ _, fun _ _ _ _ _ => Or.inl rfl, fun _ => Nat.le_refl _⟩
theorem MapB.same {w w' : World} {base b n : Nat} {V : Int → Value} {L : Plc} (h : MapB w base b n V L) (hs : Same w w') : MapB w' base b n V L :=
  ⟨h.map.keep (Keep.of_same hs), fun x hx => (h.row x hx).keep (Keep.of_same hs), h.apart, h.len⟩
/-- one note more: from the world w of the look-up by an append (w1) to the store (w2) -/
theorem MapB.step {w w1 : World} {base b n : Nat} {V : Int → Value} {L : Plc} (h : MapB w base b n V L) (hn : n < maxLen) {x : Int} (hx : U64 x) {p : Body} {v' : Value} (hg : w.grownBy w1 (V x).ownBlock)
    (hown : w1.ownsRow base 32 2 v' ((L x).length + 1) (cellsOf (L x) ++ [.int .u64 p.1, .int .u64 p.2])) (hloc : v'.ownBlock = (V x).ownBlock ∨ ∃ g, v'.ownBlock = some g ∧ w.heap.size ≤ g) :
    ∃ w2, (Instr.mapUpdate 56 (.map (some b)) (.int .u64 x) v').run Try.prog w1 = .ok () w2 ∧ MapB w2 base b (n + 1) (upd V x v') (upd L x (L x ++ [p])) ∧ w1.grownBy w2 (some b) := by
  have isRow : ∀ {u : World} {v : Value} {l : List Body} {g : Nat}, RowB u base v l → v.ownBlock = some g → ∃ cur, u.heap[g]? = some (.cells cur 32 (0, 0)) := by
    intro u v l g hr hv
    obtain ⟨hl, h1 | ⟨g', cap, cur, rfl, hb, hh, _⟩⟩ := hr
    · rw [h1.1] at hv; cases hv
    · simp [Value.ownBlock] at hv; subst hv; exact ⟨cur, hh⟩
  have isMap : ∃ es clock, w.heap[b]? = some (.map es clock) := by
    obtain ⟨D, ⟨es, clock, hb, _⟩, _⟩ := h.map.ex
    exact ⟨es, clock, hb⟩
  obtain ⟨es, clock, hbm⟩ := isMap
  have hbx : some b ≠ (V x).ownBlock := by
    intro e
    obtain ⟨cur, hc⟩ := isRow (h.row x hx) e.symm
    rw [hbm] at hc; cases hc
  have hV1 := h.map.kept hg hbx
  obtain ⟨w2, hr, hV2, hg2⟩ := hV1.update hn hx v'
  have hb1 : ∃ es clock, w1.heap[b]? = some (.map es clock) := by
    obtain ⟨D, ⟨es, clock, hb, _⟩, _⟩ := hV1.ex
    exact ⟨es, clock, hb⟩
  obtain ⟨es1, clock1, hbm1⟩ := hb1
  have off : ∀ {v : Value} {l : List Body}, RowB w1 base v l → v.ownBlock = none ∨ v.ownBlock ≠ some b := by
    intro v l hrow
    cases hv : v.ownBlock with
    | none => exact Or.inl rfl
    | some g =>
      refine Or.inr (fun e => ?_)
      injection e with e; subst e
      obtain ⟨cur, hc⟩ := isRow hrow hv
      rw [hbm1] at hc; cases hc
  have hnew : RowB w1 base v' (L x ++ [p]) := by
    show w1.ownsRow base _ 2 v' (L x ++ [p]).length (cellsOf (L x ++ [p]))
    rw [cellsOf_snoc, List.length_append]
    exact hown
  have hold : ∀ y, U64 y → y ≠ x → RowB w1 base (V y) (L y) := fun y hy hne => (h.row y hy).kept hg (h.apart y x hy hx hne)
  have hap : ∀ y, U64 y → y ≠ x → (V y).ownBlock = none ∨ (V y).ownBlock ≠ v'.ownBlock := by
    intro y hy hne
    rcases hloc with h1 | ⟨g, h1, h2⟩
    · rw [h1]; exact h.apart y x hy hx hne
    · cases hv : (V y).ownBlock with
      | none => exact Or.inl rfl
      | some gy =>
        refine Or.inr (fun e => ?_)
        rw [h1] at e
        injection e with e; subst e
        obtain ⟨cur, hc⟩ := isRow (h.row y hy) hv
        have := (Array.getElem?_eq_some_iff.1 hc).1
        omega
  refine ⟨w2, hr, ⟨hV2, fun y hy => ?_, fun y z hy hz hne => ?_, fun y => ?_⟩, hg2⟩
  · unfold upd
    by_cases e : y = x
    · rw [if_pos e, if_pos e]; exact hnew.kept hg2 (off hnew)
    · rw [if_neg e, if_neg e]; exact (hold y hy e).kept hg2 (off (hold y hy e))
  · unfold upd
    by_cases e : y = x
    · rw [if_pos e]
      have e2 : z ≠ x := fun k => hne (e.trans k.symm)
      rw [if_neg e2]
      cases hv : v'.ownBlock with
      | none => exact Or.inl rfl
      | some g =>
        refine Or.inr (fun k => ?_)
        rcases hap z hz e2 with k2 | k2
        · rw [k2] at k; cases k
        · exact k2 (by rw [hv, k])
    · rw [if_neg e]
      by_cases e2 : z = x
      · rw [if_pos e2]; exact hap y hy e
      · rw [if_neg e2]; exact h.apart y z hy hz hne
  · unfold upd
    split
    · rw [List.length_append]; have := h.len x; simp; omega
    · have := h.len y; omega
end Go.Proofs.Ytchmhpfccanamaa
