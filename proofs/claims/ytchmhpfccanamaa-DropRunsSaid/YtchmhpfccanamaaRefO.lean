/- Layer 14: the reference's office, as it stands in memory. -/
import Derived.Test.YtchmhpfccanamaaDropK
set_option linter.unusedVariables false
set_option linter.unusedSimpArgs false
namespace Go.Proofs.Ytchmhpfccanamaa
open Go.RowKit Go.Maps
abbrev RRnd := Int × List NoteD
/-- only block pb, of those that were, is not as it was -/
structure Only (pb : Nat) (w w' : World) : Prop where
  os : w'.os = w.os
  tape : w'.tape = w.tape
  output : w'.output = w.output
  size : w.heap.size ≤ w'.heap.size
  block : ∀ k, k < w.heap.size → k ≠ pb → w'.heap[k]? = w.heap[k]?
theorem Only.refl (pb : Nat) (w : World) : Only pb w w := ⟨rfl, rfl, rfl, Nat.le_refl _, fun _ _ _ => rfl⟩
theorem Only.trans {pb : Nat} {a b c : World} (h : Only pb a b) (k : Only pb b c) : Only pb a c :=
  ⟨k.os.trans h.os, k.tape.trans h.tape, k.output.trans h.output, Nat.le_trans h.size k.size, fun i hi hne => (k.block i (Nat.lt_of_lt_of_le hi h.size) hne).trans (h.block i hi hne)⟩
theorem Only.of_same {pb : Nat} {w w' : World} (h : Same w w') : Only pb w w' := ⟨h.os, h.tape, h.output, h.size, fun k hk _ => h.block k hk⟩
theorem Only.set {pb : Nat} (w : World) (o : Nat) (v : Value) : Only pb w (w.setCell ⟨pb, o, none⟩ v) := ⟨rfl, rfl, rfl, by simp [World.setCell], fun k _ hne => heap_far w hne v⟩
theorem Only.below {pb B : Nat} {w w' : World} (h : Only pb w w') (hB : B ≤ pb) (hw : B ≤ w.heap.size) : Below B w w' := ⟨h.os, h.tape, h.output, h.size, fun k hk => h.block k (by omega) (by omega)⟩
theorem Only.cell {pb : Nat} {w w' : World} (h : Only pb w w') {b o : Nat} {v : Value} (hne : b ≠ pb) (hc : w.cell? ⟨b, o, none⟩ = some v) : w'.cell? ⟨b, o, none⟩ = some v :=
  (World.cell?_of_block (w := w) (h.block b (World.block_lt_of_cell? w ⟨b, o, none⟩ hc) hne)).trans hc
theorem NotesAt.only {pb : Nat} {w w' : World} {a : Option Addr} {n : Nat} {l : List NoteD} (h : NotesAt w a n l) (k : Only pb w w') (hne : 0 < n → ∀ ad, a = some ad → ad.block ≠ pb) : NotesAt w' a n l :=
  ⟨h.len, fun h0 => by obtain ⟨b, off, e, hc⟩ := h.cells h0; exact ⟨b, off, e, fun j hj => ⟨k.cell (hne h0 _ e) (hc j hj).1, k.cell (hne h0 _ e) (hc j hj).2.1, k.cell (hne h0 _ e) (hc j hj).2.2⟩⟩, h.bd⟩
/-- blocks of numbers, of notes, of slices of notes are as they were -/
def Stay (w w' : World) : Prop := ∀ (k : Nat) cur t f, w.heap[k]? = some (.cells cur t f) → (t = 3 ∨ t = 25 ∨ t = 22) → w'.heap[k]? = some (.cells cur t f)
theorem Stay.refl (w : World) : Stay w w := fun _ _ _ _ h _ => h
theorem Stay.trans {a b c : World} (h : Stay a b) (k : Stay b c) : Stay a c := fun i cur t f hi ht => k i cur t f (h i cur t f hi ht) ht
theorem Stay.of_same {w w' : World} (h : Same w w') : Stay w w' := fun k cur t f hk _ => by rw [h.block k (Array.getElem?_eq_some_iff.1 hk).1]; exact hk
theorem Stay.of_keep {w w' : World} (h : Keep w w') : Stay w w' := fun k cur t f hk ht => h k _ hk (fun c g e => by injection e with _ e _; subst e; rcases ht with ht | ht | ht <;> cases ht) (fun c g e => by injection e with _ e _; subst e; rcases ht with ht | ht | ht <;> cases ht)
theorem Stay.of_only {pb : Nat} {w w' : World} (h : Only pb w w') {cur : Array Value} {f : Nat × Nat} (hp : w.heap[pb]? = some (.cells cur 43 f)) : Stay w w' := fun k c t g hk ht => by
  rw [h.block k (Array.getElem?_eq_some_iff.1 hk).1 (fun e => by subst e; rw [hp] at hk; injection hk with hk; injection hk with _ e _; subst e; rcases ht with ht | ht | ht <;> cases ht)]
  exact hk
structure IntsB (w : World) (a : Option Addr) (xs : List Int) : Prop where
  cells : 0 < xs.length → ∃ g off cur f, a = some ⟨g, off, none⟩ ∧ w.heap[g]? = some (.cells cur 3 f) ∧ ∀ j, j < xs.length → cur[off + j]? = some (.int .i64 (xs.getD j 0))
structure NotB (w : World) (v : Value) (l : List NoteD) : Prop where
  ex : ∃ a cap, v = .slice a l.length cap ∧ (0 < l.length → ∃ g off cur f, a = some ⟨g, off, none⟩ ∧ w.heap[g]? = some (.cells cur 25 f) ∧
    ∀ j, j < l.length → cur[off + j * 3]? = some (.int .u64 (l.getD j nt0).1) ∧ cur[off + j * 3 + 1]? = some (.int .u64 (l.getD j nt0).2.1) ∧ cur[off + j * 3 + 2]? = some (.int .u64 (l.getD j nt0).2.2))
structure NtsB (w : World) (a : Option Addr) (ls : List (List NoteD)) : Prop where
  cells : 0 < ls.length → ∃ g off cur f, a = some ⟨g, off, none⟩ ∧ w.heap[g]? = some (.cells cur 22 f) ∧ ∀ j, j < ls.length → ∃ v, cur[off + j]? = some v ∧ NotB w v (ls.getD j [])
theorem IntsB.stay {w w' : World} {a : Option Addr} {xs : List Int} (h : IntsB w a xs) (k : Stay w w') : IntsB w' a xs := ⟨fun h0 => by
  obtain ⟨g, off, cur, f, e, h1, h2⟩ := h.cells h0
  exact ⟨g, off, cur, f, e, k _ _ _ _ h1 (Or.inl rfl), h2⟩⟩
theorem NotB.stay {w w' : World} {v : Value} {l : List NoteD} (h : NotB w v l) (k : Stay w w') : NotB w' v l := by
  obtain ⟨a, cap, e, hx⟩ := h.ex
  refine ⟨⟨a, cap, e, fun h0 => ?_⟩⟩
  obtain ⟨g, off, cur, f, e, h1, h2⟩ := hx h0
  exact ⟨g, off, cur, f, e, k _ _ _ _ h1 (Or.inr (Or.inl rfl)), h2⟩
theorem NtsB.stay {w w' : World} {a : Option Addr} {ls : List (List NoteD)} (h : NtsB w a ls) (k : Stay w w') : NtsB w' a ls := ⟨fun h0 => by
  obtain ⟨g, off, cur, f, e, h1, h2⟩ := h.cells h0
  refine ⟨g, off, cur, f, e, k _ _ _ _ h1 (Or.inr (Or.inr rfl)), fun j hj => ?_⟩
  obtain ⟨v, e, hv⟩ := h2 j hj
  exact ⟨v, e, hv.stay k⟩⟩
structure RefAt (w : World) (pb : Nat) (L : List RRnd) (cnt : Int) : Prop where
  ex : ∃ a1 c1 a2 c2, w.heap[pb]? = some (.cells #[.slice a1 L.length c1, .slice a2 L.length c2, .int .i64 cnt] 43 (0, 0)) ∧ L.length ≤ c1 ∧ L.length ≤ c2 ∧ IntsB w a1 (L.map (·.1)) ∧ NtsB w a2 (L.map (·.2))
theorem RefAt.same {w w' : World} {pb : Nat} {L : List RRnd} {cnt : Int} (h : RefAt w pb L cnt) (k : Same w w') : RefAt w' pb L cnt := by
  obtain ⟨a1, c1, a2, c2, h1, l1, l2, h2, h3⟩ := h.ex
  exact ⟨⟨a1, c1, a2, c2, by rw [k.block pb (Array.getElem?_eq_some_iff.1 h1).1]; exact h1, l1, l2, h2.stay (Stay.of_same k), h3.stay (Stay.of_same k)⟩⟩
theorem RefAt.keep {w w' : World} {pb : Nat} {L : List RRnd} {cnt : Int} (h : RefAt w pb L cnt) (k : Keep w w') : RefAt w' pb L cnt := by
  obtain ⟨a1, c1, a2, c2, h1, l1, l2, h2, h3⟩ := h.ex
  exact ⟨⟨a1, c1, a2, c2, k pb _ h1 (fun _ _ e => by injection e with _ e _; cases e) (fun _ _ e => by injection e with _ e _; cases e), l1, l2, h2.stay (Stay.of_keep k), h3.stay (Stay.of_keep k)⟩⟩
/-- what an office is, kept where only a reference's office turns -/
theorem FinB.only {pb : Nat} {w w' : World} {cur : Array Value} {f : Nat × Nat} (hp : w.heap[pb]? = some (.cells cur 43 f)) (k : Only pb w w') {b : Nat} {L : Plc} (h : FinB w b L) : FinB w' b L := by
  obtain ⟨n, V, h1, h2⟩ := h.ex
  refine ⟨n, V, ?_, fun x hx => ?_⟩
  · obtain ⟨D, ⟨es, clock, hb, h1⟩, h2⟩ := h1.ex
    exact ⟨D, ⟨es, clock, by rw [k.block b (Array.getElem?_eq_some_iff.1 hb).1 (fun e => by subst e; rw [hp] at hb; cases hb)]; exact hb, h1⟩, h2⟩
  · obtain ⟨hl, h1 | ⟨g, cap, cur2, hv, hb, hh, h2⟩⟩ := h2 x hx
    · exact ⟨hl, .inl h1⟩
    · exact ⟨hl, .inr ⟨g, cap, cur2, hv, hb, by rw [k.block g (Array.getElem?_eq_some_iff.1 hh).1 (fun e => by subst e; rw [hp] at hh; injection hh with e; injection e with _ e _; cases e)]; exact hh, h2⟩⟩
theorem OffAt.only {pb : Nat} {w w' : World} {cur : Array Value} {f : Nat × Nat} (hp : w.heap[pb]? = some (.cells cur 43 f)) (k : Only pb w w') {B ob : Nat} {R : List Rnd} {cnt : Int} (h : OffAt w B ob R cnt) : OffAt w' B ob R cnt := by
  obtain ⟨kv, h1, h2, ⟨h3⟩⟩ := h.ex
  refine ⟨⟨kv, by rw [k.block ob (Array.getElem?_eq_some_iff.1 h1).1 (fun e => by subst e; rw [hp] at h1; injection h1 with e; injection e with _ e _; cases e)]; exact h1, h2, ⟨?_⟩⟩⟩
  rcases h3 with h3 | ⟨g, off, cap, cur2, k1, k2, k3, k4, k5, k6, k7⟩
  · exact Or.inl h3
  · refine Or.inr ⟨g, off, cap, cur2, k1, k2, by rw [k.block g (Array.getElem?_eq_some_iff.1 k3).1 (fun e => by subst e; rw [hp] at k3; injection k3 with e; injection e with _ e _; cases e)]; exact k3, k4, k5, k6, fun i hi => ?_⟩
    obtain ⟨m, a, b, c⟩ := k7 i hi
    exact ⟨m, a, b, c.only hp k⟩
theorem RefAt.typed {w : World} {pb : Nat} {L : List RRnd} {cnt : Int} (h : RefAt w pb L cnt) : ∃ cur, w.heap[pb]? = some (.cells cur 43 (0, 0)) := by
  obtain ⟨_, _, _, _, h1, _⟩ := h.ex
  exact ⟨_, h1⟩
theorem RefAt.new (w : World) : RefAt (w.alloc (.cells #[.slice none 0 0, .slice none 0 0, .int .i64 0] 43)) w.heap.size [] 0 :=
  ⟨⟨none, 0, none, 0, (MapKept.heap_alloc _ _).1, Nat.le_refl _, Nat.le_refl _, ⟨fun h => by simp at h⟩, ⟨fun h => by simp at h⟩⟩⟩
section
variable {P : Program}
/-- all of a slice, appended to an empty one of the call's own -/
theorem append_all (w : World) (base sb : Nat) (t ty e : TypeId) (i : TypeInfo) (z : Value) (size bytes : Nat) (ht : Try.prog.underlying t = some (.slice e)) (hi : Try.prog.info? e = some i) (hz : i.zero = some z)
    (hsize : i.size = size) (hby : i.bytes = bytes) (hzs : z.cells.size = size) (hsz : 0 < size) (hown : w.ownsRow base e size (.slice (some ⟨sb, 0, none⟩) 0 0) 0 [])
    (a : Option Addr) (n c : Nat) (news : List Value) (hl : news.length = n * size) (hnews : 0 < n → ∃ ad, a = some ad ∧ ∀ j u, news[j]? = some u → w.cell? (ad.add j) = some u) (h1 : ∀ u ∈ news, u.oneCell' = true)
    (h63 : n ≤ maxLen) (hbytes : n * bytes ≤ 140737488355328) (hbase : base ≤ w.heap.size) :
    ∃ g cap w', (Builtin.append_ #[t, t] ty #[.slice (some ⟨sb, 0, none⟩) 0 0, .slice a n c]).run Try.prog w = .ok (.slice (some ⟨g, 0, none⟩) n cap) w' ∧ w'.ownsRow base e size (.slice (some ⟨g, 0, none⟩) n cap) n news ∧ w.grownBy w' (some sb) := by
  by_cases hn : n = 0
  · subst hn
    have : news = [] := List.eq_nil_of_length_eq_zero (by omega)
    subst this
    exact ⟨sb, 0, w, append_none w sb 0 0 t e ty i ht hi (Nat.le_refl _) a (by cases a <;> simp) c, hown, ⟨rfl, rfl, rfl, Nat.le_refl _, fun _ _ _ => rfl⟩⟩
  · obtain ⟨ad, rfl, hc⟩ := hnews (by omega)
    obtain ⟨v', w', hr, ho, hg, _, _⟩ := run_append_own_at (P := Try.prog) w base t ty e i z size bytes ht hi hz hsize hby hzs hsz _ 0 [] hown ad n c news hl hc h1 (by omega) (by rw [Nat.zero_add]; exact hbytes) hbase
    rw [Nat.zero_add, List.nil_append] at ho
    obtain ⟨hl', k1 | ⟨g, cap, cur, hv, rest⟩⟩ := ho
    · omega
    · subst hv
      exact ⟨g, cap, w', hr, ⟨hl', Or.inr ⟨g, cap, cur, rfl, rest⟩⟩, hg⟩
end
theorem wpList_append_run {P : Program} {w : World} {ops : Array Oper} {rest : List Oper} {o : Oper} {a : Go.Act} {Q : Exit → Go.Act → World → Prop} (hgd : o.guard = none) (s x : Operand) (t : TypeId) (ho : o.op = .call { callee := .builtin .append, args := #[s, x], argTypes := #[t, t] }) (v : Value) (hs : a.eval s = v) (u : Value) (hx : a.eval x = u) {v' : Value} {w' : World}
    (hr : (Builtin.append_ #[t, t] o.type #[v, u]).run P w = .ok v' w') (h : wpList P ops Q rest (a.put o.dst v') w') : wpList P ops Q (o :: rest) a w :=
  wpList_plain hgd fun _ hK => wp_append_run s x t ho v hs u hx hr (hK _ _ h)
def okL (L : List RRnd) (x : Int) : Bool := L.length == 0 || decide ((L.getD (L.length - 1) (0, [])).1 < x)
def delL (L : List RRnd) (x : Int) (l : List NoteD) : List RRnd := if okL L x = true then (L ++ [(x, l)]).drop (L.length + 1 - 16) else L
def cntL (L : List RRnd) (x cnt : Int) : Int := if okL L x = true then cnt + 1 else cnt
end Go.Proofs.Ytchmhpfccanamaa
