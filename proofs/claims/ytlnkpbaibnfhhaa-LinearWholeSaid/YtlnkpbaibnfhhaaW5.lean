/- Merged texts: BoxS, GamS, Open, OpenP, Group5, OwnI. -/
import Derived.Test.YtlnkpbaibnfhhaaW3
import Derived.Test.YtlnkpbaibnfhhaaW4
import Derived.Test.YtlnkpbaibnfhhaaProg
import Derived.Deep.Slices
import Derived.OpenShut
import Derived.ProofKit
import Derived.WalkKit
import Derived.Laws.OwnMore
set_option linter.unusedVariables false
set_option linter.unusedSimpArgs false
/- A group in its box, whatever has been made since. -/
namespace Go.Proofs.Ytlnkpbaibnfhhaa
open Go.RowKit
theorem drew_same (w : World) : Same w w.drew := (Drawn.of w 1).below
abbrev BoxS (W0 : World) (bx : Nat) (P Q G H : Int) (ra : Option Addr) (rn rc : Nat) (w : World) : Prop :=
  w.cell? ⟨bx, 0, none⟩ = some (.int .u64 P) ∧ w.cell? ⟨bx, 1, none⟩ = some (.int .u64 Q) ∧ w.cell? ⟨bx, 2, none⟩ = some (.int .u64 G) ∧ w.cell? ⟨bx, 3, none⟩ = some (.int .u64 H) ∧ w.cell? ⟨bx, 4, none⟩ = some (.slice ra rn rc) ∧ Same W0 w
theorem BoxS.same {W0 w w' : World} {bx : Nat} {P Q G H : Int} {ra : Option Addr} {rn rc : Nat} (h : BoxS W0 bx P Q G H ra rn rc w) (hs : Same w w') : BoxS W0 bx P Q G H ra rn rc w' := by
  obtain ⟨c0, c1, c2, c3, c4, h5⟩ := h
  exact ⟨same_cell hs c0, same_cell hs c1, same_cell hs c2, same_cell hs c3, same_cell hs c4, h5.trans hs⟩
theorem BoxS.base {W0 w : World} {bx : Nat} {P Q G H : Int} {ra : Option Addr} {rn rc : Nat} (h : BoxS W0 bx P Q G H ra rn rc w) : Same W0 w := h.2.2.2.2.2
end Go.Proofs.Ytlnkpbaibnfhhaa
/- Elements of a group and what is made of them, counted modulo P: plain Lean, no program in it. -/
namespace Go.Proofs.Ytlnkpbaibnfhhaa
open NT
structure GrpP (P Q : Int) : Prop where
  q5 : 5 ≤ Q
  q1 : Q < 2305843009213693952
  p : P = 2 * Q + 1
theorem RightP.grp {P Q G H : Int} {rs : List RowD} (h : RightP P Q G H rs) : GrpP P Q := ⟨h.1, h.2.1, h.2.2.1⟩
theorem RightP.g {P Q G H : Int} {rs : List RowD} (h : RightP P Q G H rs) : InP P Q G := h.2.2.2.2.2.1
theorem RightP.h {P Q G H : Int} {rs : List RowD} (h : RightP P Q G H rs) : InP P Q H := h.2.2.2.2.2.2.1
theorem GrpP.mod {P Q : Int} (h : GrpP P Q) : Modulus P.toNat := by have := h.q5; have := h.q1; have := h.p; exact ⟨by omega, by omega⟩
theorem cg_eq {P Q : Int} (h : GrpP P Q) {a b : Int} (a0 : 0 ≤ a) (a1 : a < P) (b0 : 0 ≤ b) (b1 : b < P) (e : Cg P.toNat a.toNat b.toNat) : a = b := by
  have := e.eq (by omega) (by omega); omega
theorem mul_cg {P Q : Int} (h : GrpP P Q) (a b : Int) : Cg P.toNat (mulI a b P).toNat (a.toNat * b.toNat) := by
  unfold mulI; rw [mulS_yes h.mod, Int.toNat_natCast]; exact Cg.mod _ _
theorem mul_lt {P Q : Int} (h : GrpP P Q) (a b : Int) : 0 ≤ mulI a b P ∧ mulI a b P < P := by
  have h1 := h.mod
  unfold mulI; rw [mulS_yes h1]
  have := Nat.mod_lt (a.toNat * b.toNat) (show P.toNat > 0 by have := h1.1; omega)
  omega
theorem el_pow {P Q : Int} (h : GrpP P Q) {x : Int} (hx : InP P Q x) : Cg P.toNat (x.toNat ^ Q.toNat) 1 := by
  have h1 := hx.2.2
  have hm := h.mod
  unfold powI at h1
  rw [powS_yes hm] at h1
  rw [Cg.one hm.1]
  omega
theorem el_of {P Q : Int} (h : GrpP P Q) {x : Int} (x0 : 0 ≤ x) (x1 : x < P) (e : Cg P.toNat (x.toNat ^ Q.toNat) 1) : InP P Q x := by
  have hm := h.mod
  have hq := h.q5
  have e1 := (Cg.one hm.1).1 e
  refine ⟨?_, x1, ?_⟩
  · rcases Int.lt_or_eq_of_le x0 with h2 | h2
    · exact h2
    · subst h2
      rw [show Int.toNat 0 = 0 from rfl, Nat.zero_pow (by omega)] at e1
      simp at e1
  · unfold powI; rw [powS_yes hm, e1]; rfl
theorem el_unit {P Q : Int} (h : GrpP P Q) {x : Int} (hx : InP P Q x) : Cg P.toNat (x.toNat ^ (Q.toNat - 1) * x.toNat) 1 := by
  have hq := h.q5
  rw [← Nat.pow_succ, show (Q.toNat - 1).succ = Q.toNat by omega]
  exact el_pow h hx
theorem el_cancel {P Q : Int} (h : GrpP P Q) {x : Int} (hx : InP P Q x) {a b : Nat} (e : Cg P.toNat (a * x.toNat) (b * x.toNat)) : Cg P.toNat a b := by
  refine Cg.cancel (el_unit h hx) ?_
  rw [Nat.mul_comm x.toNat a, Nat.mul_comm x.toNat b]; exact e
theorem pow_red {P Q : Int} (h : GrpP P Q) {x : Int} (hx : InP P Q x) (n : Nat) : Cg P.toNat (x.toNat ^ (n % Q.toNat)) (x.toNat ^ n) := by
  have e1 : x.toNat ^ n = x.toNat ^ (Q.toNat * (n / Q.toNat)) * x.toNat ^ (n % Q.toNat) := by rw [← Nat.pow_add, Nat.div_add_mod]
  rw [e1]
  have e2 := ((el_pow h hx).powmul (n / Q.toNat)).mul (Cg.refl P.toNat (x.toNat ^ (n % Q.toNat)))
  rw [Nat.one_mul] at e2
  exact e2.symm
theorem exp_cg {P Q : Int} (h : GrpP P Q) {x : Int} (hx : InP P Q x) {e : Int} (e0 : 0 ≤ e) : Cg P.toNat (expI Q P x e).toNat (x.toNat ^ e.toNat) := by
  have hq := h.q5
  unfold expI powI
  rw [if_neg (by omega), powS_yes h.mod, Int.toNat_natCast]
  refine (Cg.mod _ _).trans ?_
  have : (e % Q).toNat = e.toNat % Q.toNat := by
    obtain ⟨n, rfl⟩ := Int.eq_ofNat_of_zero_le e0
    obtain ⟨q, rfl⟩ := Int.eq_ofNat_of_zero_le (show 0 ≤ Q by omega)
    simp only [Int.ofNat_eq_natCast, ← Int.natCast_emod, Int.toNat_natCast]
  rw [this]
  exact pow_red h hx _
theorem exp_lt {P Q : Int} (h : GrpP P Q) (x e : Int) : 0 ≤ expI Q P x e ∧ expI Q P x e < P := by
  have hq := h.q5
  have h1 := h.mod
  unfold expI powI
  rw [if_neg (by omega), powS_yes h1]
  have := Nat.mod_lt (x.toNat ^ (e % Q).toNat) (show P.toNat > 0 by have := h1.1; omega)
  omega
theorem exp_el {P Q : Int} (h : GrpP P Q) {x : Int} (hx : InP P Q x) {e : Int} (e0 : 0 ≤ e) : InP P Q (expI Q P x e) := by
  refine el_of h (exp_lt h x e).1 (exp_lt h x e).2 (((exp_cg h hx e0).pow Q.toNat).trans ?_)
  rw [← Nat.pow_mul, Nat.mul_comm]
  exact (el_pow h hx).powmul _
theorem mul_el {P Q : Int} (h : GrpP P Q) {x y : Int} (hx : InP P Q x) (hy : InP P Q y) : InP P Q (mulI x y P) := by
  refine el_of h (mul_lt h x y).1 (mul_lt h x y).2 (((mul_cg h x y).pow Q.toNat).trans ?_)
  rw [Nat.mul_pow]
  have := (el_pow h hx).mul (el_pow h hy)
  rwa [Nat.mul_one] at this
theorem one_el {P Q : Int} (h : GrpP P Q) : InP P Q 1 := by
  have := h.q5; have := h.p
  refine el_of h (by omega) (by omega) ?_
  rw [show Int.toNat 1 = 1 from rfl, Nat.one_pow]; exact Cg.refl _ _
/-- the product of a list -/
def prodN : List Int → Nat
  | [] => 1
  | x :: l => x.toNat * prodN l
theorem prodN_snoc (l : List Int) (x : Int) : prodN (l ++ [x]) = prodN l * x.toNat := by
  induction l with
  | nil => simp [prodN]
  | cons y l ih => rw [List.cons_append, prodN, ih, prodN, Nat.mul_assoc]
theorem prod_lt {P Q : Int} (h : GrpP P Q) (l : List Int) : 0 ≤ prodI P l ∧ prodI P l < P := by
  rcases List.eq_nil_or_concat l with e | ⟨l', x, e⟩
  · subst e; have := h.q5; have := h.p; unfold prodI; simp; omega
  · subst e; rw [List.concat_eq_append, prodI_snoc]; exact mul_lt h _ _
theorem prod_cg_len {P Q : Int} (h : GrpP P Q) : ∀ (n : Nat) (l : List Int), l.length = n → Cg P.toNat (prodI P l).toNat (prodN l) := by
  intro n
  induction n with
  | zero => intro l hl; obtain rfl := List.length_eq_zero_iff.1 hl; exact Cg.refl _ _
  | succ n ih =>
    intro l hl
    rcases List.eq_nil_or_concat l with e | ⟨l', x, e⟩
    · subst e; simp at hl
    · subst e
      rw [List.concat_eq_append, prodI_snoc, prodN_snoc]
      exact (mul_cg h _ _).trans ((ih l' (by simpa using hl)).mul (Cg.refl _ _))
theorem prod_cg {P Q : Int} (h : GrpP P Q) (l : List Int) : Cg P.toNat (prodI P l).toNat (prodN l) := prod_cg_len h _ l rfl
theorem prod_el_len {P Q : Int} (h : GrpP P Q) : ∀ (n : Nat) (l : List Int), l.length = n → (∀ x ∈ l, InP P Q x) → InP P Q (prodI P l) := by
  intro n
  induction n with
  | zero => intro l hl _; obtain rfl := List.length_eq_zero_iff.1 hl; exact one_el h
  | succ n ih =>
    intro l hl hx
    rcases List.eq_nil_or_concat l with e | ⟨l', x, e⟩
    · subst e; simp at hl
    · subst e
      rw [List.concat_eq_append] at hx ⊢
      rw [prodI_snoc]
      exact mul_el h (ih l' (by simpa using hl) (fun y hy => hx y (List.mem_append.2 (.inl hy)))) (hx x (List.mem_append.2 (.inr (List.mem_singleton.2 rfl))))
theorem prod_el {P Q : Int} (h : GrpP P Q) {l : List Int} (hl : ∀ x ∈ l, InP P Q x) : InP P Q (prodI P l) := prod_el_len h _ l rfl hl
theorem prod2_cg {P Q : Int} (h : GrpP P Q) (a b : Int) : Cg P.toNat (prodI P [a, b]).toNat (a.toNat * b.toNat) := by
  have := prod_cg h [a, b]
  simp only [prodN, Nat.mul_one] at this
  exact this
theorem prod1_cg {P Q : Int} (h : GrpP P Q) (a : Int) : Cg P.toNat (prodI P [a]).toNat a.toNat := by
  have := prod_cg h [a]
  simp only [prodN, Nat.mul_one] at this
  exact this
theorem prod2_el {P Q : Int} (h : GrpP P Q) {a b : Int} (ha : InP P Q a) (hb : InP P Q b) : InP P Q (prodI P [a, b]) :=
  prod_el h (fun x hx => by rcases List.mem_cons.1 hx with e | hx; · rw [e]; exact ha
                            · rw [List.mem_singleton.1 hx]; exact hb)
theorem prod1_el {P Q : Int} (h : GrpP P Q) {a : Int} (ha : InP P Q a) : InP P Q (prodI P [a]) :=
  prod_el h (fun x hx => by rw [List.mem_singleton.1 hx]; exact ha)
theorem over_cg {P Q : Int} (h : GrpP P Q) (a : Int) {y : Int} (hy : InP P Q y) : Cg P.toNat ((overI P a y).toNat * y.toNat) a.toNat := by
  have hm := h.mod
  have hi := (invS_eq hm (Nat.mod_lt _ (by have := hm.1; omega)) (((Cg.mod P.toNat (y.toNat ^ (Q.toNat - 1))).mul (Cg.refl _ y.toNat)).trans (el_unit h hy))).1
  have h2 := (invS_spec hi).2
  refine ((mul_cg h a (invI y P)).mul (Cg.refl _ _)).trans ?_
  rw [Nat.mul_assoc]
  unfold invI
  rw [Int.toNat_natCast]
  have := (Cg.refl P.toNat a.toNat).mul h2
  rwa [Nat.mul_one] at this
theorem over_lt {P Q : Int} (h : GrpP P Q) (a y : Int) : 0 ≤ overI P a y ∧ overI P a y < P := mul_lt h _ _
theorem over_eq {P Q : Int} (h : GrpP P Q) {a y z : Int} (hy : InP P Q y) (z0 : 0 ≤ z) (z1 : z < P) (e : Cg P.toNat (z.toNat * y.toNat) a.toNat) : overI P a y = z :=
  cg_eq h (over_lt h a y).1 (over_lt h a y).2 z0 z1 (el_cancel h hy ((over_cg h a hy).trans e.symm))
theorem over_el {P Q : Int} (h : GrpP P Q) {a y : Int} (ha : InP P Q a) (hy : InP P Q y) : InP P Q (overI P a y) := by
  refine el_of h (over_lt h a y).1 (over_lt h a y).2 ?_
  have e := (over_cg h a hy).pow Q.toNat
  rw [Nat.mul_pow] at e
  have e2 := (Cg.refl P.toNat ((overI P a y).toNat ^ Q.toNat)).mul (el_pow h hy)
  rw [Nat.mul_one] at e2
  exact e2.symm.trans (e.trans (el_pow h ha))
theorem prod_comm {P Q : Int} (h : GrpP P Q) (a b : Int) : prodI P [a, b] = prodI P [b, a] :=
  cg_eq h (prod_lt h _).1 (prod_lt h _).2 (prod_lt h _).1 (prod_lt h _).2 ((prod2_cg h a b).trans (by rw [Nat.mul_comm]; exact (prod2_cg h b a).symm))
theorem prod_one {P Q : Int} (h : GrpP P Q) {b : Int} (b0 : 0 ≤ b) (b1 : b < P) : prodI P [1, b] = b :=
  cg_eq h (prod_lt h _).1 (prod_lt h _).2 b0 b1 ((prod2_cg h 1 b).trans (by rw [show Int.toNat 1 = 1 from rfl, Nat.one_mul]; exact Cg.refl _ _))
end Go.Proofs.Ytlnkpbaibnfhhaa
/- From the reading of an argument to what stands in memory. -/
namespace Go.Proofs.Ytlnkpbaibnfhhaa
open Go.RowKit Go.ChangeShapes Go.WideShapes Go.Deep
theorem okWide_array {P : Program} {w : World} {r : Reach} {base : Nat} {t : TypeId} {v : Value} {n : Nat} {e : TypeId} (ht : P.underlying t = some (.array n e)) (h : Value.okWide P w r base t v) : ∃ cs, v = .agg cs ∧ cs.size = P.cellsOf t := by
  simp only [Value.okWide, ht] at h
  obtain ⟨cs, h1, h2, _⟩ := h
  exact ⟨cs, h1, h2⟩
/-- The argument's cells, read whole. -/
abbrev Rd {H : Type} (enc : TypeId × Value → H) (W : World) (t : TypeId) (cs : List Value) : Prop := ∃ fuel x, DataW.trod enc Try.prog W 0 (fun _ => true) true fuel t cs = some x
theorem cells_u64 : Try.prog.cellsOf 22 = 1 := by kernel_rfl
theorem cells_row : Try.prog.cellsOf 55 = 3 := by kernel_rfl
theorem cells_ints : Try.prog.cellsOf 26 = 1 := by kernel_rfl
section
variable {H : Type} {enc : TypeId × Value → H} {W : World}
theorem rd_u64 {cs : List Value} (h : Rd enc W 22 cs) : ∃ n, cs = [.int .u64 n] ∧ U64 n := by
  obtain ⟨fuel, x, h⟩ := h
  obtain ⟨n, e, _, hw⟩ := DataW.trod_int Try.underlying22 h
  have hb := bounds_u64 hw
  exact ⟨n, e, hb.1, by omega⟩
/-- A slice, element by element. -/
theorem rd_slice {t e : TypeId} {c : Nat} (ht : Try.prog.underlying t = some (.slice e)) (hc : Try.prog.cellsOf e = c) {cs : List Value} (h : Rd enc W t cs) :
    ∃ a n cap, cs = [.slice a n cap] ∧ n ≤ cap ∧ cap ≤ 9223372036854775807 ∧ ∀ i, i < n → ∃ ad cs', a = some ad ∧ cs'.length = c ∧ (∀ j, j < c → W.cell? (ad.add (i * c + j)) = cs'[j]?) ∧ Rd enc W e cs' := by
  obtain ⟨fuel, x, h⟩ := h
  rcases open_slice ht h with ⟨e, _⟩ | ⟨a, len, cap, m, n, D, Pl, hcs, hb, hl, hm, hmm, hx, hi⟩
  · exact ⟨none, 0, 0, e, by omega, by omega, fun i hi => by omega⟩
  · simp only [if_true] at hmm
    refine ⟨some a, len, cap, hcs, hl, hm, fun i hlt => ?_⟩
    obtain ⟨cs', h1, h2⟩ := hi i (by omega)
    rw [hc] at h1
    obtain ⟨_, h3, h4⟩ := World.cells?_some h1
    exact ⟨a, cs', rfl, h3, fun j hj => by rw [← Go.Deep.add_add]; exact h4 j hj, _, _, h2⟩
theorem plain_of {ad : Addr} {v : Value} (h : W.cell? ad = some v) : ∃ b off, ad = ⟨b, off, none⟩ := by
  obtain ⟨b, off, spot⟩ := ad
  have hs : spot = none := World.cell?_spot h
  subst hs
  exact ⟨b, off, rfl⟩
theorem rd_ints {cs : List Value} (h : Rd enc W 26 cs) : ∃ a n cap xs, cs = [.slice a n cap] ∧ n ≤ cap ∧ cap ≤ 9223372036854775807 ∧ IntsAt W a n xs := by
  obtain ⟨a, n, cap, hcs, hl, hm, hi⟩ := rd_slice Try.underlying26 (c := 1) cells_u64 h
  have hn : ∀ i, i < n → ∃ z : Int, U64 z ∧ ∃ ad, a = some ad ∧ W.cell? (ad.add i) = some (.int .u64 z) := by
    intro i hlt
    obtain ⟨ad, cs', ha, hlen, hcell, hrd⟩ := hi i hlt
    obtain ⟨z, e, hz⟩ := rd_u64 hrd
    refine ⟨z, hz, ad, ha, ?_⟩
    have := hcell 0 (by omega)
    rw [e] at this
    simpa using this
  obtain ⟨f, hf⟩ := Go.Deep.choose_lt hn
  refine ⟨a, n, cap, (List.range n).map f, hcs, hl, hm, by simp, by omega, fun h0 => ?_, fun j => ?_⟩
  · obtain ⟨_, ad, ha, hc0⟩ := hf 0 h0
    have hc0' : W.cell? ad = some (.int .u64 (f 0)) := by simpa [Addr.add] using hc0
    obtain ⟨b, off, e⟩ := plain_of hc0'
    subst e
    refine ⟨b, off, ha, fun j hj => ?_⟩
    obtain ⟨_, ad', ha', hc'⟩ := hf j hj
    rw [ha] at ha'
    obtain rfl := Option.some.inj ha'
    rw [Go.WideShapes.add_plain] at hc'
    rw [hc']
    simp [List.getD, hj]
  · by_cases hj : j < n
    · have := (hf j hj).1
      simpa [List.getD, hj] using this
    · simp [List.getD, hj, U64]
/-- A struct, field by field. -/
theorem rd_struct {t : TypeId} {fs : Array Field} (ht : Try.prog.underlying t = some (.struct fs)) {cs : List Value} (h : Rd enc W t cs) :
    cs.length = Try.prog.cellsOf t ∧ ∀ (i : Nat) (f : Field), fs[i]? = some f → Rd enc W f.type ((cs.drop f.offset).take (Try.prog.cellsOf f.type)) := by
  obtain ⟨fuel, x, h⟩ := h
  obtain ⟨xs, n, _, _, hlen, hxl, hf⟩ := DataW.trod_struct ht h
  refine ⟨hlen, fun i f hi => ?_⟩
  have hlt : i < xs.length := by rw [hxl]; exact (Array.getElem?_eq_some_iff.1 hi).1
  exact ⟨n, xs[i], by rw [hf i f hi]; exact List.getElem?_eq_getElem hlt⟩
theorem rd_row {cs : List Value} (h : Rd enc W 55 cs) : ∃ (r : RowD) (fa : Option Addr) (fn fc : Nat), cs = [.int .u64 r.n, .int .u64 r.a, .slice fa fn fc] ∧ U64 r.n ∧ U64 r.a ∧ IntsAt W fa fn r.f := by
  obtain ⟨hlen, hf⟩ := rd_struct Try.underlying55 h
  rw [cells_row] at hlen
  match cs, hlen with
  | [c0, c1, c2], _ =>
    have h0 : Rd enc W 22 (([c0, c1, c2].drop 0).take (Try.prog.cellsOf 22)) := hf 0 _ rfl
    have h1 : Rd enc W 22 (([c0, c1, c2].drop 1).take (Try.prog.cellsOf 22)) := hf 1 _ rfl
    have h2 : Rd enc W 26 (([c0, c1, c2].drop 2).take (Try.prog.cellsOf 26)) := hf 2 _ rfl
    rw [cells_u64] at h0 h1
    rw [cells_ints] at h2
    obtain ⟨n, e0, u0⟩ := rd_u64 h0
    obtain ⟨a, e1, u1⟩ := rd_u64 h1
    obtain ⟨fa, fn, fc, xs, e2, _, _, hx⟩ := rd_ints h2
    simp at e0 e1 e2
    subst e0 e1 e2
    exact ⟨⟨n, a, xs⟩, fa, fn, fc, rfl, u0, u1, hx⟩
theorem rd_rows {cs : List Value} (h : Rd enc W 23 cs) : ∃ a n cap rs, cs = [.slice a n cap] ∧ n ≤ cap ∧ cap ≤ 9223372036854775807 ∧ RowsAt W a n rs := by
  obtain ⟨a, n, cap, hcs, hl, hm, hi⟩ := rd_slice Try.underlying23 (c := 3) cells_row h
  have hn : ∀ i, i < n → ∃ r : RowD, ∃ ad, a = some ad ∧ U64 r.n ∧ U64 r.a ∧ W.cell? (ad.add (i * 3)) = some (.int .u64 r.n) ∧ W.cell? (ad.add (i * 3 + 1)) = some (.int .u64 r.a) ∧
      ∃ fa fn fc, W.cell? (ad.add (i * 3 + 2)) = some (.slice fa fn fc) ∧ IntsAt W fa fn r.f := by
    intro i hlt
    obtain ⟨ad, cs', ha, hlen, hcell, hrd⟩ := hi i hlt
    obtain ⟨r, fa, fn, fc, e, u0, u1, hx⟩ := rd_row hrd
    have c0 := hcell 0 (by omega)
    have c1 := hcell 1 (by omega)
    have c2 := hcell 2 (by omega)
    rw [e] at c0 c1 c2
    exact ⟨r, ad, ha, u0, u1, by simpa using c0, by simpa using c1, fa, fn, fc, by simpa using c2, hx⟩
  obtain ⟨f, hf⟩ := Go.Deep.choose_lt hn
  refine ⟨a, n, cap, (List.range n).map f, hcs, hl, hm, by simp, by omega, fun h0 => ?_⟩
  obtain ⟨ad, ha, _, _, hc0, _⟩ := hf 0 h0
  have hc0' : W.cell? ad = some (.int .u64 (f 0).n) := by simpa [Addr.add] using hc0
  obtain ⟨b, off, e⟩ := plain_of hc0'
  subst e
  refine ⟨b, off, ha, fun j hj => ?_⟩
  obtain ⟨ad', ha', u0, u1, g0, g1, fa, fn, fc, g2, hx⟩ := hf j hj
  rw [ha] at ha'
  obtain rfl := Option.some.inj ha'
  rw [Go.WideShapes.add_plain] at g0 g1 g2
  have e : ((List.range n).map f).getD j default = f j := by simp [List.getD, hj]
  rw [e]
  exact ⟨g0, by rw [Nat.add_assoc]; exact g1, ⟨fa, fn, fc, by rw [Nat.add_assoc]; exact g2, hx⟩, u0, u1⟩
end
end Go.Proofs.Ytlnkpbaibnfhhaa
/- A group out of its reading. -/
namespace Go.Proofs.Ytlnkpbaibnfhhaa
open Go.RowKit
section
variable {H : Type} {enc : TypeId × Value → H} {W : World}
theorem wf_U64 {x : Int} (h : (Lit.int .u64 x).wf = true) : U64 x := by
  have hb := bounds_u64 h
  exact ⟨hb.1, by omega⟩
theorem cells_rows : Try.prog.cellsOf 23 = 1 := by kernel_rfl
theorem cells_params : Try.prog.cellsOf 25 = 5 := by kernel_rfl
theorem rd_params {cs : List Value} (h : Rd enc W 25 cs) : ∃ (P Q G K : Int) (ra : Option Addr) (rn rc : Nat) (rs : List RowD),
    cs = [.int .u64 P, .int .u64 Q, .int .u64 G, .int .u64 K, .slice ra rn rc] ∧ U64 P ∧ U64 Q ∧ U64 G ∧ U64 K ∧ RowsAt W ra rn rs := by
  obtain ⟨hlen, hf⟩ := rd_struct Try.underlying25 h
  rw [cells_params] at hlen
  match cs, hlen with
  | [d0, d1, d2, d3, d4], _ =>
    have h0 : Rd enc W 22 (([d0, d1, d2, d3, d4].drop 0).take (Try.prog.cellsOf 22)) := hf 0 _ rfl
    have h1 : Rd enc W 22 (([d0, d1, d2, d3, d4].drop 1).take (Try.prog.cellsOf 22)) := hf 1 _ rfl
    have h2 : Rd enc W 22 (([d0, d1, d2, d3, d4].drop 2).take (Try.prog.cellsOf 22)) := hf 2 _ rfl
    have h3 : Rd enc W 22 (([d0, d1, d2, d3, d4].drop 3).take (Try.prog.cellsOf 22)) := hf 3 _ rfl
    have h4 : Rd enc W 23 (([d0, d1, d2, d3, d4].drop 4).take (Try.prog.cellsOf 23)) := hf 4 _ rfl
    rw [cells_u64] at h0 h1 h2 h3
    rw [cells_rows] at h4
    obtain ⟨x0, e0, u0⟩ := rd_u64 h0
    obtain ⟨x1, e1, u1⟩ := rd_u64 h1
    obtain ⟨x2, e2, u2⟩ := rd_u64 h2
    obtain ⟨x3, e3, u3⟩ := rd_u64 h3
    obtain ⟨ra, rn, rc, rs, e4, _, _, hr⟩ := rd_rows h4
    simp at e0 e1 e2 e3 e4
    subst e0 e1 e2 e3 e4
    exact ⟨_, _, _, _, _, _, _, rs, rfl, u0, u1, u2, u3, hr⟩
theorem rd_array {t e : TypeId} {n : Nat} (ht : Try.prog.underlying t = some (.array n e)) {cs : List Value} (h : Rd enc W t cs) :
    cs.length = Try.prog.cellsOf t ∧ ∀ i, i < n → Rd enc W e ((cs.drop (i * Try.prog.cellsOf e)).take (Try.prog.cellsOf e)) := by
  obtain ⟨fuel, x, h⟩ := h
  obtain ⟨xs, m, _, _, hlen, hxl, hf⟩ := DataW.trod_array ht h
  refine ⟨hlen, fun i hi => ?_⟩
  exact ⟨m, xs[i]'(by omega), by rw [hf i hi]; exact List.getElem?_eq_getElem (by omega)⟩
end
end Go.Proofs.Ytlnkpbaibnfhhaa
/- The law's Group: few rows, of few factors, and the group is right. -/
namespace Go.Proofs.Ytlnkpbaibnfhhaa
open Go.RowKit NT
theorem getD_mem {xs : List Int} {f : Int} (h : f ∈ xs) : ∃ i, xs.getD i 0 = f := by
  obtain ⟨i, hi, e⟩ := List.getElem_of_mem h
  exact ⟨i, by simp [List.getD, hi, e]⟩
theorem rows_fine {w : World} {a : Option Addr} {n : Nat} {rs : List RowD} (h : RowsAt w a n rs) : Fine rs := by
  intro i
  by_cases hi : i < n
  · obtain ⟨b, off, _, hr⟩ := h.rows (by omega)
    obtain ⟨fa, fn, fc, _, hf⟩ := (hr i hi).f
    refine ⟨fun f hm => ?_, hf.bd⟩
    obtain ⟨j, e⟩ := getD_mem hm
    rw [← e]
    exact (hf.bd j).1
  · have : rs.getD i default = default := by simp [List.getD, List.getElem?_eq_none (show rs.length ≤ i by rw [h.len]; omega)]
    rw [this]
    exact ⟨fun f hm => (by cases hm), fun j => ⟨by simp [default], by simp [default]⟩⟩
/-- few rows, of few factors -/
def SmallP (rs : List RowD) : Prop := rs.length ≤ 80 ∧ ∀ i, i < rs.length → (rs.getD i default).f.length ≤ 40
noncomputable def smallB (rs : List RowD) : Bool := open Classical in decide (SmallP rs)
theorem smallB_yes {rs : List RowD} (h : SmallP rs) : smallB rs = true := by unfold smallB; classical exact decide_eq_true h
theorem smallB_no {rs : List RowD} (h : ¬ SmallP rs) : smallB rs = false := by unfold smallB; classical exact decide_eq_false h
/-- few rows, of few factors, of a group that is right -/
def GoodP (P Q G H : Int) (rs : List RowD) : Prop := SmallP rs ∧ RightP P Q G H rs
noncomputable def goodB (P Q G H : Int) (rs : List RowD) : Bool := open Classical in decide (GoodP P Q G H rs)
theorem goodB_yes {P Q G H : Int} {rs : List RowD} (h : GoodP P Q G H rs) : goodB P Q G H rs = true := by unfold goodB; classical exact decide_eq_true h
theorem goodB_no {P Q G H : Int} {rs : List RowD} (h : ¬ GoodP P Q G H rs) : goodB P Q G H rs = false := by unfold goodB; classical exact decide_eq_false h
theorem goodB_eq {P Q G H : Int} {rs : List RowD} (h : SmallP rs) : grpB P Q G H rs = goodB P Q G H rs := by
  by_cases hr : RightP P Q G H rs
  · rw [grpB_yes hr, goodB_yes ⟨h, hr⟩]
  · rw [grpB_no hr, goodB_no (fun k => hr k.2)]
set_option maxHeartbeats 800000 in
theorem group5_any (P Q G H : Int) (a : Option Addr) (n cap : Nat) (rs : List RowD) (hP : U64 P) (hQ : U64 Q) (hG : U64 G) (hH : U64 H) (w0 : World) (h0 : RowsAt w0 a n rs) :
    Calls Try.prog 11 #[.agg #[.int .u64 P, .int .u64 Q, .int .u64 G, .int .u64 H, .slice a n cap]] w0 fun e w' => e = .returned (.bool (goodB P Q G H rs)) ∧ Same w0 w' := by
  obtain ⟨w, bx, eW, eb, hS0, c0, c1, c2, c3, c4⟩ := par_box w0 P Q G H (.slice a n cap)
  have EW := Lib.hid eW
  have EB := Lib.hid eb
  clear eW eb
  have HU := Lib.hid (And.intro hP (And.intro hQ (And.intro hG hH)))
  clear hP hQ hG hH
  have h := h0.same hS0
  clear h0
  have hlen := h.len
  have hsmall := h.small
  have HLen := Lib.hid hlen
  clear hlen
  by_cases hn : n ≤ 80
  · have h64 : decide ((80 : Int) < n) = false := decide_eq_false (by omega)
    go_enter Try.func11, Try.ntmps11
    go_upto_region 1 with fail
    rw [EW.out, EB.out]
    go_wp2_with fail
    go_loopw [12] (fun s12 wr => ∃ i : Nat, s12 = .int .i64 i ∧ i ≤ n ∧ Hid (∀ j, j < i → (rs.getD j default).f.length ≤ 40) ∧ Same w wr) (fun s12 _ => n - (intOf s12).toNat)
    case atStart => exact ⟨0, rfl, by omega, fun j hj => by omega, Same.refl w⟩
    case round =>
      obtain ⟨i, rfl, hi, hup, hS⟩ := hrel
      by_cases hlt : i < n
      · obtain ⟨b, off, ha, hrows⟩ := h.rows (by omega)
        subst ha
        have hrow := (hrows i hlt).same hS
        obtain ⟨r, hr⟩ : ∃ r, r = rs.getD i default := ⟨_, rfl⟩
        rw [← hr] at hrow
        obtain ⟨r0, r1, ⟨fa, fn, fc, r2, hf⟩, hnb, hab⟩ := hrow
        have hfl := hf.len
        have hfs := hf.small
        by_cases h40 : fn ≤ 40
        · have d40 : decide ((40 : Int) < fn) = false := decide_eq_false (by omega)
          have hup2 : Hid (∀ j, j < i + 1 → (rs.getD j default).f.length ≤ 40) := fun j hj => by
            by_cases e : j = i
            · subst e; rw [← hr, hfl]; exact h40
            · exact hup.out j (by omega)
          clear hr hrows hup hf hfl hnb hab
          go_wp2_with fail
          go_roundw
          case rel => exact ⟨i + 1, by go_num, by omega, hup2, hS.alloc _⟩
          case measure => simp [intOf]; omega
        · have d40 : decide ((40 : Int) < fn) = true := decide_eq_true (by omega)
          have hb := goodB_no (P := P) (Q := Q) (G := G) (H := H) (rs := rs) (fun hA => h40 (by have := hA.1.2 i (by rw [HLen.out]; exact hlt); rw [← hr, hfl] at this; exact this))
          have HB := Lib.hid hb
          clear hr hrows hup hf hfl hnb hab hb h40
          go_wp2_with fail
          go_ret
          exact ⟨ret_bool HB.out.symm, hS0.trans (hS.alloc _)⟩
      · obtain rfl : i = n := by omega
        have hb := goodB_eq (P := P) (Q := Q) (G := G) (H := H) (rs := rs) ⟨by rw [HLen.out]; exact hn, by rw [HLen.out]; exact hup.out⟩
        have HB := Lib.hid hb
        have HW := Lib.hid (h.same hS)
        have k0 := same_cell hS c0
        have k1 := same_cell hS c1
        have k2 := same_cell hS c2
        have k3 := same_cell hS c3
        have k4 := same_cell hS c4
        clear hb hup h c0 c1 c2 c3 c4
        go_wp2_with fail
        refine (rright_any P Q G H a i cap rs HU.out.1 HU.out.2.1 HU.out.2.2.1 HU.out.2.2.2 _ HW.out).mono ?_
        rintro e1 w1 ⟨rfl, hT⟩
        rw [HB.out]
        go_wp2_with fail
        go_ret
        exact ⟨rfl, hS0.trans (hS.trans hT)⟩
  · have h64 : decide ((80 : Int) < n) = true := decide_eq_true (by omega)
    have hb := goodB_no (P := P) (Q := Q) (G := G) (H := H) (rs := rs) (fun hA => by have := hA.1.1; rw [HLen.out] at this; omega)
    have HB := Lib.hid hb
    clear hb hn
    go_enter Try.func11, Try.ntmps11
    go_upto_region 1 with fail
    rw [EW.out, EB.out]
    go_wp2_with fail
    go_ret
    exact ⟨ret_bool HB.out.symm, hS0⟩

end Go.Proofs.Ytlnkpbaibnfhhaa
/- A slice of uint64 that the call itself gathers by append. -/
namespace Go.Proofs.Ytlnkpbaibnfhhaa
open Go.RowKit
theorem info_u64 : (Try.prog.info? 22).map (fun i => (i.zero, i.size, i.bytes)) = some (some (.int .u64 0), 1, 8) := by kernel_rfl
abbrev vals (xs : List Int) : List Value := xs.map (Value.int .u64)
/-- the slice v owns the numbers xs, in a block from base on -/
structure OwnI (w : World) (base : Nat) (v : Value) (xs : List Int) : Prop where
  own : w.ownsRow base 22 1 v xs.length (vals xs)
  u : ∀ x ∈ xs, U64 x
  small : xs.length ≤ 9223372036854775807
theorem OwnI.nil (w : World) (base : Nat) : OwnI w base (.slice none 0 0) [] := ⟨World.ownsRow_nil _ _ _ _, fun x h => (by cases h), by simp⟩
theorem OwnI.ints {w : World} {base : Nat} {v : Value} {xs : List Int} (h : OwnI w base v xs) : ∃ a n cap, v = .slice a n cap ∧ IntsAt w a n xs := by
  have hb : ∀ j, U64 (xs.getD j 0) := fun j => by
    by_cases hj : j < xs.length
    · rw [show xs.getD j 0 = xs[j] by simp [List.getD, hj]]
      exact h.u _ (List.getElem_mem hj)
    · rw [show xs.getD j 0 = 0 by simp [List.getD, List.getElem?_eq_none (show xs.length ≤ j by omega)]]
      exact ⟨by decide, by decide⟩
  obtain ⟨hl, h1 | ⟨g, cap, cur, hv, hbs, hh, hn, hm, hs, ht⟩⟩ := h.own
  · exact ⟨none, 0, 0, h1.1, by omega, by omega, fun h0 => by omega, hb⟩
  · have hown := h.own
    rw [hv] at hown
    refine ⟨some ⟨g, 0, none⟩, xs.length, cap, hv, rfl, h.small, fun h0 => ⟨g, 0, rfl, fun j hj => ?_⟩, hb⟩
    have := hown.cellAt j (by omega)
    rw [Nat.zero_add, this]
    simp [vals, List.getD, hj]
theorem OwnI.same {w w' : World} {base : Nat} {v : Value} {xs : List Int} (h : OwnI w base v xs) (hs : Same w w') : OwnI w' base v xs := by
  refine ⟨?_, h.u, h.small⟩
  obtain ⟨hl, h1 | ⟨g, cap, cur, hv, hbs, hh, hn, hm, hsz, ht⟩⟩ := h.own
  · exact ⟨hl, .inl h1⟩
  · refine ⟨hl, .inr ⟨g, cap, cur, hv, hbs, ?_, hn, hm, hsz, ht⟩⟩
    have hg : g < w.heap.size := (Array.getElem?_eq_some_iff.1 hh).1
    rw [hs.block g hg]; exact hh
theorem OwnI.push {w : World} {base : Nat} {v : Value} {xs : List Int} {x : Int} (hu : ∀ x ∈ xs, U64 x) (hx : U64 x) (hl : xs.length < 9223372036854775807)
    (h : w.ownsRow base 22 1 v (xs.length + 1) (vals xs ++ [.int .u64 x])) : OwnI w base v (xs ++ [x]) := by
  refine ⟨by simpa [vals] using h, fun z hz => ?_, by simp; omega⟩
  rcases List.mem_append.1 hz with hz | hz
  · exact hu z hz
  · rw [List.mem_singleton.1 hz]; exact hx
/-- one new cell -/
theorem one_new (w : World) (x : Value) (t : TypeId) : ∀ (j : Nat) (u : Value), [x][j]? = some u → (w.alloc (.cells #[x] t)).cell? ((⟨w.heap.size, 0, none⟩ : Addr).add j) = some u := by
  intro j u hj
  match j, hj with
  | 0, hj => simp at hj; subst hj; simp [Addr.add, World.cell?_alloc_new]
theorem one_cell (x : Int) : ∀ u ∈ [Value.int .u64 x], u.oneCell' = true := by
  intro u hu; simp at hu; subst hu; rfl
/-- behind an append: what lay below the row's own blocks is as it was -/
theorem same_grown {W wr w1 : World} {v : Value} {xs : List Int} {o : Obj} (hS : Same W wr) (hown : OwnI wr W.heap.size v xs) (hg : (wr.alloc o).grownBy w1 v.ownBlock) : Same W w1 := by
  have h1 := hS.alloc o
  refine Below.grown h1 hg (by have := h1.size; exact this) (fun k hk => ?_)
  exact (hown.own.lt k hk).1
end Go.Proofs.Ytlnkpbaibnfhhaa
