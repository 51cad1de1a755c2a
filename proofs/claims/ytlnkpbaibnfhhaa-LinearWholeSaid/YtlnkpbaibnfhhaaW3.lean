/- Merged texts: Read, PrimeS, GrpS, GrpB, GrpExp, GrpOver, GrpIn, GrpProd, FacN. -/
import Derived.Test.YtlnkpbaibnfhhaaW1
set_option linter.unusedVariables false
set_option linter.unusedSimpArgs false
/- What stands in memory, as numbers and lists: a slice of uint64; a slice of rows of a certificate. -/
namespace Go.Proofs.Ytlnkpbaibnfhhaa
open Go.RowKit
/-- Blocks below those of w are as they were. -/
abbrev Same (w w' : World) : Prop := Below w.heap.size w w'
theorem same_cell {w w' : World} (h : Same w w') {a : Addr} {v : Value} (hc : w.cell? a = some v) : w'.cell? a = some v := (h.cell (World.block_lt_of_cell? w a hc)).trans hc
theorem Same.refl (w : World) : Same w w := Below.refl _ _
theorem Same.trans {w w1 w2 : World} (h : Same w w1) (k : Same w1 w2) : Same w w2 :=
  Below.trans h ⟨k.os, k.tape, k.output, k.size, fun i hi => k.block i (Nat.lt_of_lt_of_le hi h.size)⟩
theorem Same.alloc {w w1 : World} (h : Same w w1) (o : Obj) : Same w (w1.alloc o) := Below.alloc h h.size o
theorem Same.drawn {w w1 w2 : World} (h : Same w w1) (k : Drawn w1 w2) : Same w w2 := h.trans k.below
theorem Same.drewN {w w1 : World} (h : Same w w1) (n : Nat) : Same w (w1.drewN n) := h.trans (Drawn.of _ _).below
theorem Same.grown {w w' : World} (h : Same w w') (row : Option Nat) : w.grownBy w' row := ⟨h.os, h.tape, h.output, h.size, fun i hi _ => h.block i hi⟩

def U64 (x : Int) : Prop := 0 ≤ x ∧ x < 18446744073709551616
/-- A slice of uint64 that reads as these numbers. -/
structure IntsAt (w : World) (a : Option Addr) (n : Nat) (xs : List Int) : Prop where
  len : xs.length = n
  small : n ≤ 9223372036854775807
  cells : 0 < n → ∃ b off, a = some ⟨b, off, none⟩ ∧ ∀ j, j < n → w.cell? ⟨b, off + j, none⟩ = some (.int .u64 (xs.getD j 0))
  bd : ∀ j, U64 (xs.getD j 0)
theorem IntsAt.same {w w' : World} {a : Option Addr} {n : Nat} {xs : List Int} (h : IntsAt w a n xs) (hs : Same w w') : IntsAt w' a n xs :=
  ⟨h.len, h.small, fun h0 => by obtain ⟨b, off, e, hc⟩ := h.cells h0; exact ⟨b, off, e, fun j hj => same_cell hs (hc j hj)⟩, h.bd⟩
/-- A row: its number, its witness, its factors. -/
structure RowD where
  n : Int
  a : Int
  f : List Int
instance : Inhabited RowD := ⟨⟨0, 0, []⟩⟩
structure RowAt (w : World) (b o : Nat) (r : RowD) : Prop where
  n : w.cell? ⟨b, o, none⟩ = some (.int .u64 r.n)
  a : w.cell? ⟨b, o + 1, none⟩ = some (.int .u64 r.a)
  f : ∃ fa fn fc, w.cell? ⟨b, o + 2, none⟩ = some (.slice fa fn fc) ∧ IntsAt w fa fn r.f
  nb : U64 r.n
  ab : U64 r.a
theorem RowAt.same {w w' : World} {b o : Nat} {r : RowD} (h : RowAt w b o r) (hs : Same w w') : RowAt w' b o r := by
  obtain ⟨fa, fn, fc, h1, h2⟩ := h.f
  exact ⟨same_cell hs h.n, same_cell hs h.a, ⟨fa, fn, fc, same_cell hs h1, h2.same hs⟩, h.nb, h.ab⟩
structure RowsAt (w : World) (a : Option Addr) (n : Nat) (rs : List RowD) : Prop where
  len : rs.length = n
  small : n ≤ 9223372036854775807
  rows : 0 < n → ∃ b off, a = some ⟨b, off, none⟩ ∧ ∀ j, j < n → RowAt w b (off + j * 3) (rs.getD j default)
theorem RowsAt.same {w w' : World} {a : Option Addr} {n : Nat} {rs : List RowD} (h : RowsAt w a n rs) (hs : Same w w') : RowsAt w' a n rs :=
  ⟨h.len, h.small, fun h0 => by obtain ⟨b, off, e, hc⟩ := h.rows h0; exact ⟨b, off, e, fun j hj => (hc j hj).same hs⟩⟩
end Go.Proofs.Ytlnkpbaibnfhhaa
/- Which certificates hold, and what they prove: plain Lean, no program in it. -/
namespace Go.Proofs.Ytlnkpbaibnfhhaa
open NT
/-- the power, of whole numbers -/
noncomputable def powI (a e n : Int) : Int := (powS a.toNat e.toNat n.toNat : Int)
/-- the number without the factor f -/
def strip (f : Nat) (l : Nat) : Nat := if h : 2 ≤ f ∧ 0 < l ∧ l % f = 0 then strip f (l / f) else l
termination_by l
decreasing_by exact Nat.div_lt_self h.2.1 (by omega)
theorem strip_step {f l : Nat} (h2 : 2 ≤ f) (h0 : 0 < l) (h : l % f = 0) : strip f l = strip f (l / f) := by
  rw [strip, dif_pos ⟨h2, h0, h⟩]
theorem strip_end {f l : Nat} (h : l % f ≠ 0) : strip f l = l := by
  rw [strip, dif_neg (fun x => h x.2.2)]
/-- the factors of a row, from a place on: rising, known, all that is left divided by them; each with its own test -/
def FacOk (S : Int → Prop) (r : RowD) : Int → Int → List Int → Prop
  | left, _, [] => left = 1
  | left, last, f :: fs => last < f ∧ S f ∧ left % f = 0 ∧ powI r.a ((r.n - 1) / f) r.n ≠ 1 ∧ FacOk S r (strip f.toNat left.toNat : Nat) f fs
def RowOk (S : Int → Prop) (r : RowD) : Prop :=
  3 ≤ r.n ∧ r.n ≤ 4611686018427387904 ∧ 1 ≤ r.f.length ∧ r.f.length ≤ 16 ∧ powI r.a (r.n - 1) r.n = 1 ∧ FacOk S r (r.n - 1) 1 r.f
noncomputable def rowB (S : Int → Prop) (r : RowD) : Bool := open Classical in decide (RowOk S r)
theorem rowB_yes {S : Int → Prop} {r : RowD} (h : RowOk S r) : rowB S r = true := by unfold rowB; classical exact decide_eq_true h
theorem rowB_no {S : Int → Prop} {r : RowD} (h : ¬ RowOk S r) : rowB S r = false := by unfold rowB; classical exact decide_eq_false h
/-- what is known behind the first k rows -/
def Kn (rs : List RowD) (k : Nat) (f : Int) : Prop := f = 2 ∨ ∃ i, i < k ∧ (rs.getD i default).n = f
theorem Kn_zero {rs : List RowD} {f : Int} : Kn rs 0 f ↔ f = 2 := by
  unfold Kn
  constructor
  · rintro (h | ⟨i, h, _⟩)
    · exact h
    · omega
  · exact .inl
theorem Kn_succ {rs : List RowD} {k : Nat} {f : Int} : Kn rs (k + 1) f ↔ f = (rs.getD k default).n ∨ Kn rs k f := by
  unfold Kn
  constructor
  · rintro (h | ⟨i, h, e⟩)
    · exact .inr (.inl h)
    · by_cases hi : i = k
      · subst hi; exact .inl e.symm
      · exact .inr (.inr ⟨i, by omega, e⟩)
  · rintro (h | h | ⟨i, h, e⟩)
    · exact .inr ⟨k, by omega, h.symm⟩
    · exact .inl h
    · exact .inr ⟨i, by omega, e⟩
/-- the rows from the first on, up to k -/
def UpTo (rs : List RowD) (k : Nat) : Prop := ∀ j, j < k → RowOk (Kn rs j) (rs.getD j default)
def AllOk (rs : List RowD) : Prop := rs.length ≤ 64 ∧ UpTo rs rs.length
noncomputable def holdsB (rs : List RowD) : Bool := open Classical in decide (AllOk rs)
theorem holdsB_yes {rs : List RowD} (h : AllOk rs) : holdsB rs = true := by unfold holdsB; classical exact decide_eq_true h
theorem holdsB_no {rs : List RowD} (h : ¬ AllOk rs) : holdsB rs = false := by unfold holdsB; classical exact decide_eq_false h
theorem holdsB_iff {rs : List RowD} : holdsB rs = true ↔ AllOk rs := by unfold holdsB; classical exact decide_eq_true_iff
def ProvedP (n : Int) (rs : List RowD) : Prop := AllOk rs ∧ Kn rs rs.length n
noncomputable def provedB (n : Int) (rs : List RowD) : Bool := open Classical in decide (ProvedP n rs)
theorem provedB_yes {n : Int} {rs : List RowD} (h : ProvedP n rs) : provedB n rs = true := by unfold provedB; classical exact decide_eq_true h
theorem provedB_no {n : Int} {rs : List RowD} (h : ¬ ProvedP n rs) : provedB n rs = false := by unfold provedB; classical exact decide_eq_false h
theorem provedB_iff {n : Int} {rs : List RowD} : provedB n rs = true ↔ ProvedP n rs := by unfold provedB; classical exact decide_eq_true_iff
end Go.Proofs.Ytlnkpbaibnfhhaa
/- What the functions of layer 4 compute, as whole numbers: plain Lean, no program in it. -/
namespace Go.Proofs.Ytlnkpbaibnfhhaa
open NT
noncomputable def mulI (a b p : Int) : Int := (mulS a.toNat b.toNat p.toNat : Nat)
noncomputable def invI (a p : Int) : Int := (invS a.toNat p.toNat : Nat)
noncomputable def expI (q p x e : Int) : Int := if q < 2 then 0 else powI x (e % q) p
noncomputable def prodI (p : Int) (l : List Int) : Int := l.foldl (fun n x => mulI n x p) 1
noncomputable def overI (p x y : Int) : Int := mulI x (invI y p) p
def InP (p q x : Int) : Prop := 0 < x ∧ x < p ∧ powI x q p = 1
noncomputable def inB (p q x : Int) : Bool := open Classical in decide (InP p q x)
theorem inB_yes {p q x : Int} (h : InP p q x) : inB p q x = true := by unfold inB; classical exact decide_eq_true h
theorem inB_no {p q x : Int} (h : ¬ InP p q x) : inB p q x = false := by unfold inB; classical exact decide_eq_false h
theorem inB_iff {p q x : Int} : inB p q x = true ↔ InP p q x := by unfold inB; classical exact decide_eq_true_iff
def RightP (P Q G H : Int) (rs : List RowD) : Prop := 5 ≤ Q ∧ Q < 2305843009213693952 ∧ P = 2 * Q + 1 ∧ ProvedP P rs ∧ ProvedP Q rs ∧ InP P Q G ∧ InP P Q H ∧ G ≠ 1 ∧ H ≠ 1 ∧ G ≠ H
noncomputable def grpB (P Q G H : Int) (rs : List RowD) : Bool := open Classical in decide (RightP P Q G H rs)
theorem grpB_yes {P Q G H : Int} {rs : List RowD} (h : RightP P Q G H rs) : grpB P Q G H rs = true := by unfold grpB; classical exact decide_eq_true h
theorem grpB_no {P Q G H : Int} {rs : List RowD} (h : ¬ RightP P Q G H rs) : grpB P Q G H rs = false := by unfold grpB; classical exact decide_eq_false h
theorem grpB_iff {P Q G H : Int} {rs : List RowD} : grpB P Q G H rs = true ↔ RightP P Q G H rs := by unfold grpB; classical exact decide_eq_true_iff
theorem mulS_small (a b m : Nat) : mulS a b m < 4611686018427387904 := by
  classical
  by_cases h : Modulus m
  · rw [mulS_yes h]
    have := Nat.mod_lt (a * b) (show m > 0 by have := h.1; omega)
    have := h.2
    omega
  · rw [mulS_no h]; omega
theorem powS_small (a b m : Nat) : powS a b m < 4611686018427387904 := by
  classical
  by_cases h : Modulus m
  · rw [powS_yes h]
    have := Nat.mod_lt (a ^ b) (show m > 0 by have := h.1; omega)
    have := h.2
    omega
  · rw [powS_no h]; omega
theorem invS_small (a m : Nat) : invS a m < 4611686018427387904 := by
  by_cases h : HasInv a m
  · have h1 := (invS_spec h).1
    have := h.1.2
    omega
  · rw [invS_no h]; omega
theorem mulI_u (a b p : Int) : 0 ≤ mulI a b p ∧ mulI a b p < 18446744073709551616 := by
  unfold mulI; have := mulS_small a.toNat b.toNat p.toNat; omega
theorem powI_u (a b p : Int) : 0 ≤ powI a b p ∧ powI a b p < 18446744073709551616 := by
  unfold powI; have := powS_small a.toNat b.toNat p.toNat; omega
theorem invI_u (a p : Int) : 0 ≤ invI a p ∧ invI a p < 18446744073709551616 := by
  unfold invI; have := invS_small a.toNat p.toNat; omega
theorem expI_u (q p x e : Int) : 0 ≤ expI q p x e ∧ expI q p x e < 18446744073709551616 := by
  unfold expI; split
  · omega
  · exact powI_u _ _ _
theorem overI_u (p x y : Int) : 0 ≤ overI p x y ∧ overI p x y < 18446744073709551616 := mulI_u _ _ _
theorem prodI_snoc (p : Int) (l : List Int) (x : Int) : prodI p (l ++ [x]) = mulI (prodI p l) x p := by
  unfold prodI; rw [List.foldl_append]; rfl
theorem prodI_u (p : Int) (l : List Int) : 0 ≤ prodI p l ∧ prodI p l < 18446744073709551616 := by
  rcases List.eq_nil_or_concat l with h | ⟨l', x, h⟩
  · subst h; unfold prodI; simp
  · subst h; rw [List.concat_eq_append, prodI_snoc]; exact mulI_u _ _ _
theorem prodI_take (p : Int) (l : List Int) (i : Nat) (h : i < l.length) : prodI p (l.take (i + 1)) = mulI (prodI p (l.take i)) (l.getD i 0) p := by
  rw [List.take_succ_eq_append_getElem h, prodI_snoc]
  simp [List.getD, h]
end Go.Proofs.Ytlnkpbaibnfhhaa
/- A group handed over by value, in its box. -/
namespace Go.Proofs.Ytlnkpbaibnfhhaa
open Go.RowKit
theorem par_box (w : World) (P Q G H : Int) (v : Value) : ∃ W bx, w.alloc (.cells #[.int .u64 P, .int .u64 Q, .int .u64 G, .int .u64 H, v] 25) = W ∧ w.heap.size = bx ∧ Same w W ∧
    W.cell? ⟨bx, 0, none⟩ = some (.int .u64 P) ∧ W.cell? ⟨bx, 1, none⟩ = some (.int .u64 Q) ∧ W.cell? ⟨bx, 2, none⟩ = some (.int .u64 G) ∧ W.cell? ⟨bx, 3, none⟩ = some (.int .u64 H) ∧ W.cell? ⟨bx, 4, none⟩ = some v :=
  ⟨_, _, rfl, rfl, (Same.refl w).alloc _, by simp [World.cell?_alloc_new], by simp [World.cell?_alloc_new], by simp [World.cell?_alloc_new], by simp [World.cell?_alloc_new], by simp [World.cell?_alloc_new]⟩
end Go.Proofs.Ytlnkpbaibnfhhaa
/- spandrel/group.Exp computes the power of an element. -/
namespace Go.Proofs.Ytlnkpbaibnfhhaa
open Go.RowKit NT
theorem exp_any (P Q G H : Int) (ra : Option Addr) (rn rc : Nat) (x e : Int) (P0 : 0 ≤ P) (Q0 : 0 ≤ Q) (Q1 : Q < 18446744073709551616) (x0 : 0 ≤ x) (e0 : 0 ≤ e) (e1 : e < 18446744073709551616) (w : World) :
    Calls Try.prog 35 #[.agg #[.int .u64 P, .int .u64 Q, .int .u64 G, .int .u64 H, .slice ra rn rc], .int .u64 x, .int .u64 e] w fun z w' => z = .returned (.int .u64 (expI Q P x e)) ∧ Same w w' := by
  obtain ⟨W, bx, eW, eb, hS, c0, c1, c2, c3, c4⟩ := par_box w P Q G H (.slice ra rn rc)
  have EW := Lib.hid eW
  have EB := Lib.hid eb
  clear eW eb
  by_cases hq : Q < 2
  · have d1 : decide (Q < 2) = true := decide_eq_true hq
    have hv : expI Q P x e = 0 := by unfold expI; rw [if_pos hq]
    have HV := Lib.hid hv
    clear hv
    go_enter Try.func35, Try.ntmps35
    go_upto_region 1 with fail
    rw [EW.out, EB.out]
    go_wp2_with fail
    go_ret
    exact ⟨ret_int HV.out.symm, hS⟩
  · have d1 : decide (Q < 2) = false := decide_eq_false hq
    have z0 : ¬ Q = 0 := by omega
    have r1 := Int.emod_nonneg e (show Q ≠ 0 by omega)
    have r2 := Int.emod_lt_of_pos e (show 0 < Q by omega)
    obtain ⟨z, hz⟩ : ∃ z, e % Q = z := ⟨_, rfl⟩
    rw [hz] at r1 r2
    have et : e.tmod Q = z := by rw [← hz]; exact Int.tmod_eq_emod_of_nonneg e0
    have hcall : ∀ W, Calls Try.prog 58 #[.int .u64 x, .int .u64 z, .int .u64 P] W fun z' w' => z' = .returned (.int .u64 (expI Q P x e)) ∧ Drawn W w' := fun W => by
      unfold expI; rw [if_neg hq, hz]; exact pow_any x z P x0 r1 (by omega) P0 W
    have HC := Lib.hid hcall
    clear hcall hz
    go_enter Try.func35, Try.ntmps35
    go_upto_region 1 with fail
    rw [EW.out, EB.out]
    go_wp2_with fail
    go_quiet ((go_at_call 58; exact quiet_drawn (HC.out _)))
    go_wp2_with fail
    go_ret
    exact ⟨rfl, hS.drewN _⟩
end Go.Proofs.Ytlnkpbaibnfhhaa
/- spandrel/group.Over computes the quotient of two elements. -/
namespace Go.Proofs.Ytlnkpbaibnfhhaa
open Go.RowKit NT
theorem over_any (P Q G H : Int) (ra : Option Addr) (rn rc : Nat) (x y : Int) (P0 : 0 ≤ P) (x0 : 0 ≤ x) (y0 : 0 ≤ y) (w : World) :
    Calls Try.prog 54 #[.agg #[.int .u64 P, .int .u64 Q, .int .u64 G, .int .u64 H, .slice ra rn rc], .int .u64 x, .int .u64 y] w fun z w' => z = .returned (.int .u64 (overI P x y)) ∧ Same w w' := by
  obtain ⟨W, bx, eW, eb, hS, c0, c1, c2, c3, c4⟩ := par_box w P Q G H (.slice ra rn rc)
  have EW := Lib.hid eW
  have EB := Lib.hid eb
  have hi := invI_u y P
  obtain ⟨v, hv⟩ : ∃ v, (invS y.toNat P.toNat : Int) = v := ⟨_, rfl⟩
  have hv0 : 0 ≤ v := by rw [← hv]; omega
  have HV := Lib.hid hv
  clear eW eb hi hv
  go_enter Try.func54, Try.ntmps54
  go_upto_region 1 with fail
  rw [EW.out, EB.out]
  go_wp2_with fail
  refine (inv_any y P y0 P0 _).mono ?_
  rintro e1 w1 ⟨rfl, hD1⟩
  rw [HV.out]
  have c0' := same_cell hD1.below c0
  clear c0 c1 c2 c3 c4
  go_wp2_with fail
  refine (mul_any x v P x0 hv0 P0 _).mono ?_
  rintro e1 w2 ⟨rfl, hD2⟩
  go_wp2_with fail
  go_ret
  exact ⟨ret_int (by unfold overI mulI invI; rw [HV.out]), (hS.drawn hD1).drawn hD2⟩
end Go.Proofs.Ytlnkpbaibnfhhaa
/- spandrel/group.In: is it an element? -/
namespace Go.Proofs.Ytlnkpbaibnfhhaa
open Go.RowKit NT
theorem in_any (P Q G H : Int) (ra : Option Addr) (rn rc : Nat) (x : Int) (P0 : 0 ≤ P) (Q0 : 0 ≤ Q) (Q1 : Q < 18446744073709551616) (x0 : 0 ≤ x) (w : World) :
    Calls Try.prog 39 #[.agg #[.int .u64 P, .int .u64 Q, .int .u64 G, .int .u64 H, .slice ra rn rc], .int .u64 x] w fun z w' => z = .returned (.bool (inB P Q x)) ∧ Same w w' := by
  obtain ⟨W, bx, eW, eb, hS, c0, c1, c2, c3, c4⟩ := par_box w P Q G H (.slice ra rn rc)
  have EW := Lib.hid eW
  have EB := Lib.hid eb
  clear eW eb
  obtain ⟨v, hv⟩ : ∃ v, (powS x.toNat Q.toNat P.toNat : Int) = v := ⟨_, rfl⟩
  have HV := Lib.hid hv
  have hin : InP P Q x ↔ 0 < x ∧ x < P ∧ v = 1 := by unfold InP powI; rw [hv]
  have HI := Lib.hid hin
  clear hv hin
  by_cases g1 : 0 < x
  case neg =>
    have hb := inB_no (p := P) (q := Q) (x := x) (fun h => g1 h.1)
    have HB := Lib.hid hb
    have d1 : decide (0 < x) = false := decide_eq_false (by omega)
    clear hb
    go_enter Try.func39, Try.ntmps39
    go_upto_region 1 with fail
    rw [EW.out, EB.out]
    go_wp2_with fail
    go_ret
    exact ⟨ret_bool HB.out.symm, hS⟩
  have d1 : decide (0 < x) = true := decide_eq_true (by omega)
  by_cases g2 : x < P
  case neg =>
    have hb := inB_no (p := P) (q := Q) (x := x) (fun h => g2 h.2.1)
    have HB := Lib.hid hb
    have d2 : decide (x < P) = false := decide_eq_false g2
    clear hb
    go_enter Try.func39, Try.ntmps39
    go_upto_region 1 with fail
    rw [EW.out, EB.out]
    go_wp2_with fail
    go_ret
    exact ⟨ret_bool HB.out.symm, hS⟩
  have d2 : decide (x < P) = true := decide_eq_true g2
  have hb : inB P Q x = (v == 1) := by
    by_cases h : v = 1
    · rw [inB_yes (HI.out.2 ⟨g1, g2, h⟩), h]; rfl
    · rw [inB_no (fun x => h (HI.out.1 x).2.2), show (v == 1) = false from beq_eq_false_iff_ne.2 h]
  have HB := Lib.hid hb
  clear hb
  go_enter Try.func39, Try.ntmps39
  go_upto_region 1 with fail
  rw [EW.out, EB.out]
  go_wp2_with fail
  refine (pow_any x Q P x0 Q0 Q1 P0 _).mono ?_
  rintro e1 w1 ⟨rfl, hD1⟩
  rw [HV.out]
  go_wp2_with fail
  go_ret
  exact ⟨ret_bool (by rw [HB.out]), hS.drawn hD1⟩
end Go.Proofs.Ytlnkpbaibnfhhaa
/- group.Prod computes the product of elements. -/
namespace Go.Proofs.Ytlnkpbaibnfhhaa
open Go.RowKit NT
theorem prod_any (P Q G H : Int) (ra : Option Addr) (rn rc : Nat) (a : Option Addr) (n cap : Nat) (xs : List Int) (P0 : 0 ≤ P) (w : World) (h : IntsAt w a n xs) :
    Calls Try.prog 34 #[.agg #[.int .u64 P, .int .u64 Q, .int .u64 G, .int .u64 H, .slice ra rn rc], .slice a n cap] w fun z w' => z = .returned (.int .u64 (prodI P xs)) ∧ Same w w' := by
  obtain ⟨W, bx, eW, eb, hS, c0, c1, c2, c3, c4⟩ := par_box w P Q G H (.slice ra rn rc)
  have EW := Lib.hid eW
  have EB := Lib.hid eb
  clear eW eb
  have hlen := h.len
  have hsmall := h.small
  have HLen := Lib.hid hlen
  have h1 := h.same hS
  clear hlen h
  go_enter Try.func34, Try.ntmps34
  go_upto_region 1 with fail
  rw [EW.out, EB.out]
  go_wp2_with fail
  go_loopw [5, 10] (fun s5 s10 wr => ∃ i : Nat, s5 = .int .u64 (prodI P (xs.take i)) ∧ s10 = .int .i64 i ∧ i ≤ n ∧ Drawn W wr) (fun _ s10 _ => n - (intOf s10).toNat)
  case atStart => exact ⟨0, by simp [prodI], rfl, by omega, Drawn.refl _⟩
  case round =>
    obtain ⟨i, rfl, rfl, hi, hD⟩ := hrel
    have c0' := same_cell hD.below c0
    obtain ⟨p, hp⟩ : ∃ p, prodI P (xs.take i) = p := ⟨_, rfl⟩
    have hp0 := (prodI_u P (xs.take i)).1
    rw [hp] at hp0 ⊢
    have HP := Lib.hid hp
    clear hp c0
    by_cases hlt : i < n
    · obtain ⟨b, off, ha, hcells⟩ := h1.cells (by omega)
      subst ha
      obtain ⟨x, hx⟩ : ∃ x, xs.getD i 0 = x := ⟨_, rfl⟩
      have hc := same_cell hD.below (hcells i hlt)
      have hx0 := (h1.bd i).1
      have hnx : prodI P (xs.take (i + 1)) = mulI p x P := by rw [prodI_take _ _ _ (by rw [HLen.out]; exact hlt), HP.out, hx]
      rw [hx] at hc hx0
      have HN := Lib.hid hnx
      clear hx hcells hnx
      go_wp2_with fail
      refine (mul_any p x P hp0 hx0 P0 _).mono ?_
      rintro e1 w1 ⟨rfl, hD1⟩
      rw [show (mulS p.toNat x.toNat P.toNat : Int) = prodI P (xs.take (i + 1)) from HN.out.symm]
      go_wp2_with fail
      go_roundw
      case rel => exact ⟨i + 1, rfl, by go_num, by omega, hD.trans hD1⟩
      case measure => simp [intOf]; omega
    · obtain rfl : i = n := by omega
      go_wp2_with fail
      go_ret
      exact ⟨ret_int (by rw [← HP.out, List.take_of_length_le (by rw [HLen.out]; exact Nat.le_refl _)]), hS.drawn hD⟩
end Go.Proofs.Ytlnkpbaibnfhhaa
/- A row's factors, on the road: plain Lean. -/
namespace Go.Proofs.Ytlnkpbaibnfhhaa
open NT
theorem strip_lt {f l : Nat} (h : 0 < l) : 0 < strip f l ∧ strip f l ≤ l := by
  induction l using Nat.strongRecOn with
  | _ l ih =>
    rw [strip]
    split
    · rename_i hc
      have h1 : l / f < l := Nat.div_lt_self hc.2.1 (by omega)
      have h2 : 0 < l / f := Nat.div_pos (Nat.le_of_dvd hc.2.1 (Nat.dvd_of_mod_eq_zero hc.2.2)) (by omega)
      obtain ⟨a, b⟩ := ih (l / f) h1 h2
      exact ⟨a, by omega⟩
    · exact ⟨h, Nat.le_refl _⟩
theorem strip_div {l f : Int} (m0 : 1 ≤ l) (f2 : 2 ≤ f) (hz : l % f = 0) : l / f < l ∧ 1 ≤ l / f ∧ strip f.toNat l.toNat = strip f.toNat (l / f).toNat := by
  have d1 : l / f < l := Int.ediv_lt_self_of_pos_of_ne_one (by omega) (by omega)
  have d2 : 1 ≤ l / f := by
    have h1 := Int.mul_ediv_add_emod l f
    rw [hz, Int.add_zero] at h1
    have d3 : 0 ≤ l / f := Int.ediv_nonneg (by omega) (by omega)
    rcases Int.lt_or_le 0 (l / f) with h | h
    · omega
    · have h2 : l / f = 0 := by omega
      rw [h2] at h1
      omega
  refine ⟨d1, d2, ?_⟩
  obtain ⟨l, rfl⟩ := Int.eq_ofNat_of_zero_le (show 0 ≤ l by omega)
  obtain ⟨f, rfl⟩ := Int.eq_ofNat_of_zero_le (show 0 ≤ f by omega)
  simp only [Int.toNat_natCast]
  rw [strip_step (by omega) (by omega) (by rw [← Int.natCast_emod] at hz; omega)]
  rfl
/-- Where a row stands behind its tests, and what is left of it. -/
structure FacAt (S : Int → Prop) (r : RowD) (i : Nat) (left last : Int) : Prop where
  l0 : 1 ≤ left
  l1 : left < 18446744073709551616
  a0 : 1 ≤ last
  a1 : last < 18446744073709551616
  eq : FacOk S r (r.n - 1) 1 r.f ↔ FacOk S r left last (r.f.drop i)
theorem drop_getD {xs : List Int} {i : Nat} (h : i < xs.length) : xs.drop i = xs.getD i 0 :: xs.drop (i + 1) := by
  rw [List.drop_eq_getElem_cons h]
  simp [List.getD, List.getElem?_eq_getElem h]
end Go.Proofs.Ytlnkpbaibnfhhaa
