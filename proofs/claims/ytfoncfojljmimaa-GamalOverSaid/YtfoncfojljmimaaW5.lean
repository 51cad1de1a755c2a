/- Merged texts: GKey, BoxS, PairS, GamS, GSeal, GAgain, GShare. -/
import Derived.Test.YtfoncfojljmimaaW3
import Derived.Outline
import Derived.Deep.RegionHeld
import Derived.Test.YtfoncfojljmimaaW4
import Derived.Deep.RegionHeld3
import Derived.Handy
set_option linter.unusedVariables false
set_option linter.unusedSimpArgs false
/- gamal.Key, Share, Join: an element's power, a product of keys. -/
namespace Go.Proofs.Ytfoncfojljmimaa
open Go.RowKit NT
theorem key_any (P Q G H : Int) (ra : Option Addr) (rn rc : Nat) (x : Int) (P0 : 0 ≤ P) (Q0 : 0 ≤ Q) (Q1 : Q < 18446744073709551616) (G0 : 0 ≤ G) (x0 : 0 ≤ x) (x1 : x < 18446744073709551616) (w : World) :
    Calls Try.prog 16 #[.agg #[.int .u64 P, .int .u64 Q, .int .u64 G, .int .u64 H, .slice ra rn rc], .int .u64 x] w fun z w' => z = .returned (.int .u64 (expI Q P G x)) ∧ Same w w' := by
  obtain ⟨W, bx, eW, eb, hS, c0, c1, c2, c3, c4⟩ := par_box w P Q G H (.slice ra rn rc)
  have EW := Lib.hid eW
  have EB := Lib.hid eb
  clear eW eb
  go_enter Try.func16, Try.ntmps16
  go_upto_region 1 with fail
  rw [EW.out, EB.out]
  go_wp2_with fail
  refine (exp_any P Q G H ra rn rc G x P0 Q0 Q1 G0 x0 x1 _).mono ?_
  rintro e1 w1 ⟨rfl, hS1⟩
  go_wp2_with fail
  go_ret
  exact ⟨rfl, hS.trans hS1⟩
theorem join_any (P Q G H : Int) (ra : Option Addr) (rn rc : Nat) (a : Option Addr) (n cap : Nat) (xs : List Int) (P0 : 0 ≤ P) (w : World) (h : IntsAt w a n xs) :
    Calls Try.prog 15 #[.agg #[.int .u64 P, .int .u64 Q, .int .u64 G, .int .u64 H, .slice ra rn rc], .slice a n cap] w fun z w' => z = .returned (.int .u64 (prodI P xs)) ∧ Same w w' := by
  obtain ⟨W, bx, eW, eb, hS, c0, c1, c2, c3, c4⟩ := par_box w P Q G H (.slice ra rn rc)
  have EW := Lib.hid eW
  have EB := Lib.hid eb
  clear eW eb
  go_enter Try.func15, Try.ntmps15
  go_upto_region 1 with fail
  rw [EW.out, EB.out]
  go_wp2_with fail
  refine (prod_any P Q G H ra rn rc a n cap xs P0 _ (h.same hS)).mono ?_
  rintro e1 w1 ⟨rfl, hS1⟩
  go_wp2_with fail
  go_ret
  exact ⟨rfl, hS.trans hS1⟩
end Go.Proofs.Ytfoncfojljmimaa
/- A group in its box, whatever has been made since. -/
namespace Go.Proofs.Ytfoncfojljmimaa
open Go.RowKit
theorem drew_same (w : World) : Same w w.drew := (Drawn.of w 1).below
abbrev BoxS (W0 : World) (bx : Nat) (P Q G H : Int) (ra : Option Addr) (rn rc : Nat) (w : World) : Prop :=
  w.cell? ⟨bx, 0, none⟩ = some (.int .u64 P) ∧ w.cell? ⟨bx, 1, none⟩ = some (.int .u64 Q) ∧ w.cell? ⟨bx, 2, none⟩ = some (.int .u64 G) ∧ w.cell? ⟨bx, 3, none⟩ = some (.int .u64 H) ∧ w.cell? ⟨bx, 4, none⟩ = some (.slice ra rn rc) ∧ Same W0 w
theorem BoxS.same {W0 w w' : World} {bx : Nat} {P Q G H : Int} {ra : Option Addr} {rn rc : Nat} (h : BoxS W0 bx P Q G H ra rn rc w) (hs : Same w w') : BoxS W0 bx P Q G H ra rn rc w' := by
  obtain ⟨c0, c1, c2, c3, c4, h5⟩ := h
  exact ⟨same_cell hs c0, same_cell hs c1, same_cell hs c2, same_cell hs c3, same_cell hs c4, h5.trans hs⟩
theorem BoxS.base {W0 w : World} {bx : Nat} {P Q G H : Int} {ra : Option Addr} {rn rc : Nat} (h : BoxS W0 bx P Q G H ra rn rc w) : Same W0 w := h.2.2.2.2.2
end Go.Proofs.Ytfoncfojljmimaa
/- A group in its box, and a pair of the function's own beside it. -/
namespace Go.Proofs.Ytfoncfojljmimaa
open Go.RowKit
theorem same_frozen {w w' : World} (h : Same w w') {a : Addr} {v : Value} (hc : w.cell? a = some v) {x : Bool} (hf : w.frozen? a = x) : w'.frozen? a = x := (h.frozen (World.block_lt_of_cell? w a hc)).trans hf
/-- A pair's box, not frozen. -/
structure PairAt (w : World) (b : Nat) (u v : Value) : Prop where
  u : w.cell? ⟨b, 0, none⟩ = some u
  v : w.cell? ⟨b, 1, none⟩ = some v
  fu : w.frozen? ⟨b, 0, none⟩ = false
  fv : w.frozen? ⟨b, 1, none⟩ = false
theorem PairAt.same {w w' : World} {b : Nat} {u v : Value} (h : PairAt w b u v) (hs : Same w w') : PairAt w' b u v :=
  ⟨same_cell hs h.u, same_cell hs h.v, same_frozen hs h.u h.fu, same_frozen hs h.v h.fv⟩
theorem PairAt.set0 {w : World} {b : Nat} {u v : Value} (h : PairAt w b u v) (x : Value) : PairAt (w.setCell ⟨b, 0, none⟩ x) b x v :=
  ⟨World.cell?_setCell_same _ _ _ h.u, (World.cell?_setCell_other _ _ _ _ (by simp)).trans h.v, by simp [h.fu], by simp [h.fv]⟩
theorem PairAt.set1 {w : World} {b : Nat} {u v : Value} (h : PairAt w b u v) (x : Value) : PairAt (w.setCell ⟨b, 1, none⟩ x) b u x :=
  ⟨(World.cell?_setCell_other _ _ _ _ (by simp)).trans h.u, World.cell?_setCell_same _ _ _ h.v, by simp [h.fu], by simp [h.fv]⟩
theorem PairAt.far {w : World} {b : Nat} {u v : Value} (h : PairAt w b u v) {b' o : Nat} (hb : b' ≠ b) (x : Value) : PairAt (w.setCell ⟨b', o, none⟩ x) b u v :=
  ⟨(World.cell?_setCell_far _ _ _ _ hb).trans h.u, (World.cell?_setCell_far _ _ _ _ hb).trans h.v, by simp [h.fu], by simp [h.fv]⟩
theorem PairAt.new (w : World) (t : TypeId) (u v : Value) : PairAt (w.alloc (.cells #[u, v] t)) w.heap.size u v :=
  ⟨by simp [World.cell?_alloc_new], by simp [World.cell?_alloc_new], by simp [World.frozen?_alloc_new], by simp [World.frozen?_alloc_new]⟩
theorem BoxS.set {W0 w : World} {bx : Nat} {P Q G H : Int} {ra : Option Addr} {rn rc : Nat} (h : BoxS W0 bx P Q G H ra rn rc w) {b o : Nat} (hb : b ≠ bx) (hg : W0.heap.size ≤ b) (x : Value) : BoxS W0 bx P Q G H ra rn rc (w.setCell ⟨b, o, none⟩ x) := by
  obtain ⟨c0, c1, c2, c3, c4, h5⟩ := h
  exact ⟨(World.cell?_setCell_far _ _ _ _ hb).trans c0, (World.cell?_setCell_far _ _ _ _ hb).trans c1, (World.cell?_setCell_far _ _ _ _ hb).trans c2, (World.cell?_setCell_far _ _ _ _ hb).trans c3, (World.cell?_setCell_far _ _ _ _ hb).trans c4, Below.setCell h5 hg x⟩
/-- the box, and a pair of some worth -/
abbrev PairS (W0 : World) (bx by_ : Nat) (P Q G H : Int) (ra : Option Addr) (rn rc : Nat) (w : World) : Prop :=
  BoxS W0 bx P Q G H ra rn rc w ∧ ∃ u v, PairAt w by_ u v
theorem PairS.same {W0 w w' : World} {bx by_ : Nat} {P Q G H : Int} {ra : Option Addr} {rn rc : Nat} (h : PairS W0 bx by_ P Q G H ra rn rc w) (hs : Same w w') : PairS W0 bx by_ P Q G H ra rn rc w' :=
  ⟨h.1.same hs, by obtain ⟨u, v, k⟩ := h.2; exact ⟨u, v, k.same hs⟩⟩
theorem PairS.set0 {W0 w : World} {bx by_ : Nat} {P Q G H : Int} {ra : Option Addr} {rn rc : Nat} (h : PairS W0 bx by_ P Q G H ra rn rc w) (hb : by_ ≠ bx) (hg : W0.heap.size ≤ by_) (x : Value) : PairS W0 bx by_ P Q G H ra rn rc (w.setCell ⟨by_, 0, none⟩ x) :=
  ⟨h.1.set hb hg x, by obtain ⟨u, v, k⟩ := h.2; exact ⟨_, _, k.set0 x⟩⟩
theorem PairS.set1 {W0 w : World} {bx by_ : Nat} {P Q G H : Int} {ra : Option Addr} {rn rc : Nat} (h : PairS W0 bx by_ P Q G H ra rn rc w) (hb : by_ ≠ bx) (hg : W0.heap.size ≤ by_) (x : Value) : PairS W0 bx by_ P Q G H ra rn rc (w.setCell ⟨by_, 1, none⟩ x) :=
  ⟨h.1.set hb hg x, by obtain ⟨u, v, k⟩ := h.2; exact ⟨_, _, k.set1 x⟩⟩
theorem ints_pair (w : World) (t : TypeId) (a b : Int) (ha : U64 a) (hb : U64 b) : IntsAt (w.alloc (.cells #[.int .u64 a, .int .u64 b] t)) (some ⟨w.heap.size, 0, none⟩) 2 [a, b] := by
  refine ⟨rfl, by omega, fun _ => ⟨w.heap.size, 0, rfl, fun j hj => ?_⟩, fun j => ?_⟩
  · match j, hj with
    | 0, _ => simp [World.cell?_alloc_new]
    | 1, _ => simp [World.cell?_alloc_new]
  · match j with
    | 0 => exact ha
    | 1 => exact hb
    | _ + 2 => exact ⟨by simp, by simp⟩
theorem ints_one (w : World) (t : TypeId) (a : Int) (ha : U64 a) : IntsAt (w.alloc (.cells #[.int .u64 a] t)) (some ⟨w.heap.size, 0, none⟩) 1 [a] := by
  refine ⟨rfl, by omega, fun _ => ⟨w.heap.size, 0, rfl, fun j hj => ?_⟩, fun j => ?_⟩
  · match j, hj with
    | 0, _ => simp [World.cell?_alloc_new]
  · match j with
    | 0 => exact ha
    | _ + 1 => exact ⟨by simp, by simp⟩
/-- A group in its box, and an empty pair behind it. -/
theorem par_pair (w : World) (P Q G H : Int) (ra : Option Addr) (rn rc : Nat) : ∃ W bx by_, (w.alloc (.cells #[.int .u64 P, .int .u64 Q, .int .u64 G, .int .u64 H, .slice ra rn rc] 25)).alloc (.cells #[.int .u64 0, .int .u64 0] 27) = W ∧ w.heap.size = bx ∧ bx + 1 = by_ ∧
    BoxS w bx P Q G H ra rn rc W ∧ PairAt W by_ (.int .u64 0) (.int .u64 0) := by
  obtain ⟨W1, bx, e1, e2, hS, c0, c1, c2, c3, c4⟩ := par_box w P Q G H (.slice ra rn rc)
  have hS1 : Same W1 (W1.alloc (.cells #[.int .u64 0, .int .u64 0] 27)) := (Same.refl W1).alloc _
  have hz : W1.heap.size = bx + 1 := by rw [← e1, ← e2]; simp
  refine ⟨_, bx, bx + 1, by rw [e1], e2, rfl, ⟨same_cell hS1 c0, same_cell hS1 c1, same_cell hS1 c2, same_cell hS1 c3, same_cell hS1 c4, hS.trans hS1⟩, ?_⟩
  rw [← hz]
  exact ⟨by simp [World.cell?_alloc_new], by simp [World.cell?_alloc_new], by simp [World.frozen?_alloc_new], by simp [World.frozen?_alloc_new]⟩
end Go.Proofs.Ytfoncfojljmimaa
/- Elements of a group and what is made of them, counted modulo P: plain Lean, no program in it. -/
namespace Go.Proofs.Ytfoncfojljmimaa
open NT
structure GrpP (P Q : Int) : Prop where
  q5 : 5 ≤ Q
  q1 : Q < 2305843009213693952
  p : P = 2 * Q + 1
theorem RightP.grp {P Q G H : Int} {rs : List RowD} (h : RightP P Q G H rs) : GrpP P Q := ⟨h.1, h.2.1, h.2.2.1⟩
theorem RightP.g {P Q G H : Int} {rs : List RowD} (h : RightP P Q G H rs) : InP P Q G := h.2.2.2.2.2.1
theorem RightP.h {P Q G H : Int} {rs : List RowD} (h : RightP P Q G H rs) : InP P Q H := h.2.2.2.2.2.2.1
theorem GrpP.mod {P Q : Int} (h : GrpP P Q) : Modulus P.toNat := by have := h.q5; have := h.q1; have := h.p; exact ⟨by omega, by omega⟩
theorem cg_eq {P Q : Int} (h : GrpP P Q) {a b : Int} (a0 : 0 ≤ a) (a1 : a < P) (b0 : 0 ≤ b) (b1 : b < P) (e : Cg P.toNat a.toNat b.toNat) : a = b := by
  have := e.eq (by omega) (by omega); omega
theorem mul_cg {P Q : Int} (h : GrpP P Q) (a b : Int) : Cg P.toNat (mulI a b P).toNat (a.toNat * b.toNat) := by
  unfold mulI; rw [mulS_yes h.mod, Int.toNat_natCast]; exact Cg.mod _ _
theorem mul_lt {P Q : Int} (h : GrpP P Q) (a b : Int) : 0 ≤ mulI a b P ∧ mulI a b P < P := by
  have h1 := h.mod
  unfold mulI; rw [mulS_yes h1]
  have := Nat.mod_lt (a.toNat * b.toNat) (show P.toNat > 0 by have := h1.1; omega)
  omega
theorem el_pow {P Q : Int} (h : GrpP P Q) {x : Int} (hx : InP P Q x) : Cg P.toNat (x.toNat ^ Q.toNat) 1 := by
  have h1 := hx.2.2
  have hm := h.mod
  unfold powI at h1
  rw [powS_yes hm] at h1
  rw [Cg.one hm.1]
  omega
theorem el_of {P Q : Int} (h : GrpP P Q) {x : Int} (x0 : 0 ≤ x) (x1 : x < P) (e : Cg P.toNat (x.toNat ^ Q.toNat) 1) : InP P Q x := by
  have hm := h.mod
  have hq := h.q5
  have e1 := (Cg.one hm.1).1 e
  refine ⟨?_, x1, ?_⟩
  · rcases Int.lt_or_eq_of_le x0 with h2 | h2
    · exact h2
    · subst h2
      rw [show Int.toNat 0 = 0 from rfl, Nat.zero_pow (by omega)] at e1
      simp at e1
  · unfold powI; rw [powS_yes hm, e1]; rfl
theorem el_unit {P Q : Int} (h : GrpP P Q) {x : Int} (hx : InP P Q x) : Cg P.toNat (x.toNat ^ (Q.toNat - 1) * x.toNat) 1 := by
  have hq := h.q5
  rw [← Nat.pow_succ, show (Q.toNat - 1).succ = Q.toNat by omega]
  exact el_pow h hx
theorem el_cancel {P Q : Int} (h : GrpP P Q) {x : Int} (hx : InP P Q x) {a b : Nat} (e : Cg P.toNat (a * x.toNat) (b * x.toNat)) : Cg P.toNat a b := by
  refine Cg.cancel (el_unit h hx) ?_
  rw [Nat.mul_comm x.toNat a, Nat.mul_comm x.toNat b]; exact e
theorem pow_red {P Q : Int} (h : GrpP P Q) {x : Int} (hx : InP P Q x) (n : Nat) : Cg P.toNat (x.toNat ^ (n % Q.toNat)) (x.toNat ^ n) := by
  have e1 : x.toNat ^ n = x.toNat ^ (Q.toNat * (n / Q.toNat)) * x.toNat ^ (n % Q.toNat) := by rw [← Nat.pow_add, Nat.div_add_mod]
  rw [e1]
  have e2 := ((el_pow h hx).powmul (n / Q.toNat)).mul (Cg.refl P.toNat (x.toNat ^ (n % Q.toNat)))
  rw [Nat.one_mul] at e2
  exact e2.symm
theorem exp_cg {P Q : Int} (h : GrpP P Q) {x : Int} (hx : InP P Q x) {e : Int} (e0 : 0 ≤ e) : Cg P.toNat (expI Q P x e).toNat (x.toNat ^ e.toNat) := by
  have hq := h.q5
  unfold expI powI
  rw [if_neg (by omega), powS_yes h.mod, Int.toNat_natCast]
  refine (Cg.mod _ _).trans ?_
  have : (e % Q).toNat = e.toNat % Q.toNat := by
    obtain ⟨n, rfl⟩ := Int.eq_ofNat_of_zero_le e0
    obtain ⟨q, rfl⟩ := Int.eq_ofNat_of_zero_le (show 0 ≤ Q by omega)
    simp only [Int.ofNat_eq_natCast, ← Int.natCast_emod, Int.toNat_natCast]
  rw [this]
  exact pow_red h hx _
theorem exp_lt {P Q : Int} (h : GrpP P Q) (x e : Int) : 0 ≤ expI Q P x e ∧ expI Q P x e < P := by
  have hq := h.q5
  have h1 := h.mod
  unfold expI powI
  rw [if_neg (by omega), powS_yes h1]
  have := Nat.mod_lt (x.toNat ^ (e % Q).toNat) (show P.toNat > 0 by have := h1.1; omega)
  omega
theorem exp_el {P Q : Int} (h : GrpP P Q) {x : Int} (hx : InP P Q x) {e : Int} (e0 : 0 ≤ e) : InP P Q (expI Q P x e) := by
  refine el_of h (exp_lt h x e).1 (exp_lt h x e).2 (((exp_cg h hx e0).pow Q.toNat).trans ?_)
  rw [← Nat.pow_mul, Nat.mul_comm]
  exact (el_pow h hx).powmul _
theorem mul_el {P Q : Int} (h : GrpP P Q) {x y : Int} (hx : InP P Q x) (hy : InP P Q y) : InP P Q (mulI x y P) := by
  refine el_of h (mul_lt h x y).1 (mul_lt h x y).2 (((mul_cg h x y).pow Q.toNat).trans ?_)
  rw [Nat.mul_pow]
  have := (el_pow h hx).mul (el_pow h hy)
  rwa [Nat.mul_one] at this
theorem one_el {P Q : Int} (h : GrpP P Q) : InP P Q 1 := by
  have := h.q5; have := h.p
  refine el_of h (by omega) (by omega) ?_
  rw [show Int.toNat 1 = 1 from rfl, Nat.one_pow]; exact Cg.refl _ _
/-- the product of a list -/
def prodN : List Int → Nat
  | [] => 1
  | x :: l => x.toNat * prodN l
theorem prodN_snoc (l : List Int) (x : Int) : prodN (l ++ [x]) = prodN l * x.toNat := by
  induction l with
  | nil => simp [prodN]
  | cons y l ih => rw [List.cons_append, prodN, ih, prodN, Nat.mul_assoc]
theorem prod_lt {P Q : Int} (h : GrpP P Q) (l : List Int) : 0 ≤ prodI P l ∧ prodI P l < P := by
  rcases List.eq_nil_or_concat l with e | ⟨l', x, e⟩
  · subst e; have := h.q5; have := h.p; unfold prodI; simp; omega
  · subst e; rw [List.concat_eq_append, prodI_snoc]; exact mul_lt h _ _
theorem prod_cg_len {P Q : Int} (h : GrpP P Q) : ∀ (n : Nat) (l : List Int), l.length = n → Cg P.toNat (prodI P l).toNat (prodN l) := by
  intro n
  induction n with
  | zero => intro l hl; obtain rfl := List.length_eq_zero_iff.1 hl; exact Cg.refl _ _
  | succ n ih =>
    intro l hl
    rcases List.eq_nil_or_concat l with e | ⟨l', x, e⟩
    · subst e; simp at hl
    · subst e
      rw [List.concat_eq_append, prodI_snoc, prodN_snoc]
      exact (mul_cg h _ _).trans ((ih l' (by simpa using hl)).mul (Cg.refl _ _))
theorem prod_cg {P Q : Int} (h : GrpP P Q) (l : List Int) : Cg P.toNat (prodI P l).toNat (prodN l) := prod_cg_len h _ l rfl
theorem prod_el_len {P Q : Int} (h : GrpP P Q) : ∀ (n : Nat) (l : List Int), l.length = n → (∀ x ∈ l, InP P Q x) → InP P Q (prodI P l) := by
  intro n
  induction n with
  | zero => intro l hl _; obtain rfl := List.length_eq_zero_iff.1 hl; exact one_el h
  | succ n ih =>
    intro l hl hx
    rcases List.eq_nil_or_concat l with e | ⟨l', x, e⟩
    · subst e; simp at hl
    · subst e
      rw [List.concat_eq_append] at hx ⊢
      rw [prodI_snoc]
      exact mul_el h (ih l' (by simpa using hl) (fun y hy => hx y (List.mem_append.2 (.inl hy)))) (hx x (List.mem_append.2 (.inr (List.mem_singleton.2 rfl))))
theorem prod_el {P Q : Int} (h : GrpP P Q) {l : List Int} (hl : ∀ x ∈ l, InP P Q x) : InP P Q (prodI P l) := prod_el_len h _ l rfl hl
theorem prod2_cg {P Q : Int} (h : GrpP P Q) (a b : Int) : Cg P.toNat (prodI P [a, b]).toNat (a.toNat * b.toNat) := by
  have := prod_cg h [a, b]
  simp only [prodN, Nat.mul_one] at this
  exact this
theorem prod1_cg {P Q : Int} (h : GrpP P Q) (a : Int) : Cg P.toNat (prodI P [a]).toNat a.toNat := by
  have := prod_cg h [a]
  simp only [prodN, Nat.mul_one] at this
  exact this
theorem prod2_el {P Q : Int} (h : GrpP P Q) {a b : Int} (ha : InP P Q a) (hb : InP P Q b) : InP P Q (prodI P [a, b]) :=
  prod_el h (fun x hx => by rcases List.mem_cons.1 hx with e | hx; · rw [e]; exact ha
                            · rw [List.mem_singleton.1 hx]; exact hb)
theorem prod1_el {P Q : Int} (h : GrpP P Q) {a : Int} (ha : InP P Q a) : InP P Q (prodI P [a]) :=
  prod_el h (fun x hx => by rw [List.mem_singleton.1 hx]; exact ha)
theorem over_cg {P Q : Int} (h : GrpP P Q) (a : Int) {y : Int} (hy : InP P Q y) : Cg P.toNat ((overI P a y).toNat * y.toNat) a.toNat := by
  have hm := h.mod
  have hi := (invS_eq hm (Nat.mod_lt _ (by have := hm.1; omega)) (((Cg.mod P.toNat (y.toNat ^ (Q.toNat - 1))).mul (Cg.refl _ y.toNat)).trans (el_unit h hy))).1
  have h2 := (invS_spec hi).2
  refine ((mul_cg h a (invI y P)).mul (Cg.refl _ _)).trans ?_
  rw [Nat.mul_assoc]
  unfold invI
  rw [Int.toNat_natCast]
  have := (Cg.refl P.toNat a.toNat).mul h2
  rwa [Nat.mul_one] at this
theorem over_lt {P Q : Int} (h : GrpP P Q) (a y : Int) : 0 ≤ overI P a y ∧ overI P a y < P := mul_lt h _ _
theorem over_eq {P Q : Int} (h : GrpP P Q) {a y z : Int} (hy : InP P Q y) (z0 : 0 ≤ z) (z1 : z < P) (e : Cg P.toNat (z.toNat * y.toNat) a.toNat) : overI P a y = z :=
  cg_eq h (over_lt h a y).1 (over_lt h a y).2 z0 z1 (el_cancel h hy ((over_cg h a hy).trans e.symm))
theorem over_el {P Q : Int} (h : GrpP P Q) {a y : Int} (ha : InP P Q a) (hy : InP P Q y) : InP P Q (overI P a y) := by
  refine el_of h (over_lt h a y).1 (over_lt h a y).2 ?_
  have e := (over_cg h a hy).pow Q.toNat
  rw [Nat.mul_pow] at e
  have e2 := (Cg.refl P.toNat ((overI P a y).toNat ^ Q.toNat)).mul (el_pow h hy)
  rw [Nat.mul_one] at e2
  exact e2.symm.trans (e.trans (el_pow h ha))
theorem prod_comm {P Q : Int} (h : GrpP P Q) (a b : Int) : prodI P [a, b] = prodI P [b, a] :=
  cg_eq h (prod_lt h _).1 (prod_lt h _).2 (prod_lt h _).1 (prod_lt h _).2 ((prod2_cg h a b).trans (by rw [Nat.mul_comm]; exact (prod2_cg h b a).symm))
theorem prod_one {P Q : Int} (h : GrpP P Q) {b : Int} (b0 : 0 ≤ b) (b1 : b < P) : prodI P [1, b] = b :=
  cg_eq h (prod_lt h _).1 (prod_lt h _).2 b0 b1 ((prod2_cg h 1 b).trans (by rw [show Int.toNat 1 = 1 from rfl, Nat.one_mul]; exact Cg.refl _ _))
end Go.Proofs.Ytfoncfojljmimaa
/- gamal.Seal: an element, sealed for a key. -/
namespace Go.Proofs.Ytfoncfojljmimaa
open Go.RowKit NT
set_option maxHeartbeats 3200000 in
theorem seal_any (P Q G H : Int) (ra : Option Addr) (rn rc : Nat) (y m r : Int) (P0 : 0 ≤ P) (Q0 : 0 ≤ Q) (Q1 : Q < 18446744073709551616) (G0 : 0 ≤ G) (y0 : 0 ≤ y) (hm : U64 m) (r0 : 0 ≤ r) (r1 : r < 18446744073709551616) (w : World) :
    Calls Try.prog 18 #[.agg #[.int .u64 P, .int .u64 Q, .int .u64 G, .int .u64 H, .slice ra rn rc], .int .u64 y, .int .u64 m, .int .u64 r] w fun z w' => z = .returned (.agg #[.int .u64 (expI Q P G r), .int .u64 (prodI P [m, expI Q P y r])]) ∧ Same w w' := by
  obtain ⟨W, bx, by_, eW, eb, ey, hB, hp⟩ := par_pair w P Q G H ra rn rc
  have EW := Lib.hid eW
  have EB := Lib.hid eb
  have EY := Lib.hid ey
  have HNE := Lib.hid (show by_ ≠ bx ∧ w.heap.size ≤ by_ by omega)
  have hB0 : PairS w bx by_ P Q G H ra rn rc W := ⟨hB, _, _, hp⟩
  have HB0 := Lib.hid (hB0.same (drew_same W))
  clear eW eb ey hB hp hB0
  go_enter Try.func18, Try.ntmps18
  go_upto_region 1 with fail
  rw [EW.out, EB.out, EY.out]
  refine wp_region_held_drew (S := fun w' => PairS w bx by_ P Q G H ra rn rc w') (by kernel_rfl) HB0.out (fun hHeld => ?_)
  refine wpAnyH_take (i := 0) (v := ?_) rfl (by kernel_rfl) (by kernel_rfl) (by kernel_rfl) (fun _ _ _ h => h) (Or.inl ⟨by rfl, ?_⟩) (by assumption) ?_
  rotate_left
  · intro w hSw; (try dsimp only at hSw); go_simp; try with_reducible rfl
  try simp only [Act.put, List.getElem_toArray, List.getElem_cons_succ, List.getElem_cons_zero, List.setIfInBounds_toArray, List.set_cons_zero, List.set_cons_succ]
  refine wpAnyH_take (i := 1) (v := ?_) rfl (by kernel_rfl) (by kernel_rfl) (by kernel_rfl) (fun _ _ _ h => h) (Or.inl ⟨by rfl, ?_⟩) (by assumption) ?_
  rotate_left
  · intro w hSw; (try dsimp only at hSw); go_simp; try with_reducible rfl
  try simp only [Act.put, List.getElem_toArray, List.getElem_cons_succ, List.getElem_cons_zero, List.setIfInBounds_toArray, List.set_cons_zero, List.set_cons_succ]
  refine wpAnyH_take (i := 3) (v := ?_) rfl (by kernel_rfl) (by kernel_rfl) (by kernel_rfl) (fun _ _ _ h => h) (Or.inl ⟨by rfl, ?_⟩) (by assumption) ?_
  rotate_left
  · intro w hSw; (try dsimp only at hSw); go_simp; try with_reducible rfl
  try simp only [Act.put, List.getElem_toArray, List.getElem_cons_succ, List.getElem_cons_zero, List.setIfInBounds_toArray, List.set_cons_zero, List.set_cons_succ]
  refine wpAnyH_take (i := 4) (v := ?_) rfl (by kernel_rfl) (by kernel_rfl) (by kernel_rfl) (fun _ _ _ h => h) (Or.inl ⟨by rfl, ?_⟩) (by assumption) ?_
  rotate_left
  · intro w hSw; (try dsimp only at hSw); go_simp; try with_reducible rfl
  try simp only [Act.put, List.getElem_toArray, List.getElem_cons_succ, List.getElem_cons_zero, List.setIfInBounds_toArray, List.set_cons_zero, List.set_cons_succ]
  refine wpAnyH_take (i := 5) (v := ?_) rfl (by kernel_rfl) (by kernel_rfl) (by kernel_rfl) (fun _ _ _ h => h) (Or.inl ⟨by rfl, ?_⟩) (by assumption) ?_
  rotate_left
  · intro w hSw; (try dsimp only at hSw); go_simp; try with_reducible rfl
  try simp only [Act.put, List.getElem_toArray, List.getElem_cons_succ, List.getElem_cons_zero, List.setIfInBounds_toArray, List.set_cons_zero, List.set_cons_succ]
  refine wpAnyH_take (i := 6) (v := ?_) rfl (by kernel_rfl) (by kernel_rfl) (by kernel_rfl) (fun _ _ _ h => h) (Or.inl ⟨by rfl, ?_⟩) (by assumption) ?_
  rotate_left
  · intro w hSw; (try dsimp only at hSw); go_simp; try with_reducible rfl
  try simp only [Act.put, List.getElem_toArray, List.getElem_cons_succ, List.getElem_cons_zero, List.setIfInBounds_toArray, List.set_cons_zero, List.set_cons_succ]
  refine wpAnyH_take (i := 7) (v := ?_) rfl (by kernel_rfl) (by kernel_rfl) (by kernel_rfl) (fun _ _ _ h => h) (Or.inl ⟨by rfl, ?_⟩) (by assumption) ?_
  rotate_left
  · intro w hSw; (try dsimp only at hSw); go_simp; try with_reducible rfl
  try simp only [Act.put, List.getElem_toArray, List.getElem_cons_succ, List.getElem_cons_zero, List.setIfInBounds_toArray, List.set_cons_zero, List.set_cons_succ]
  refine wpAnyH_ready (rs := [2]) (by kernel_rfl) (by simp) ?_
  refine AllReadyH.cons rfl (fun K hK => ?_) AllReadyH.nil
  go_simp
  refine (key_any P Q G H ra rn rc r P0 Q0 Q1 G0 r0 r1 _).mono ?_
  rintro e1 w1 ⟨rfl, hT1⟩
  go_wp2_with fail
  refine hK.out _ _ ?_ (fun hHeld => ?_)
  · exact PairS.same (by with_reducible assumption) (by with_reducible assumption)
  clear hK K
  try simp only [Act.put, List.getElem_toArray, List.getElem_cons_succ, List.getElem_cons_zero, List.setIfInBounds_toArray, List.set_cons_zero, List.set_cons_succ]
  refine wpAnyH_ready (rs := [8]) (by kernel_rfl) (by simp) ?_
  refine AllReadyH.cons rfl (fun K hK => ?_) AllReadyH.nil
  go_simp
  refine (exp_any P Q G H ra rn rc y r P0 Q0 Q1 y0 r0 r1 _).mono ?_
  rintro e1 w2 ⟨rfl, hT2⟩
  go_wp2_with fail
  refine hK.out _ _ ?_ (fun hHeld => ?_)
  · exact PairS.same (by with_reducible assumption) (by with_reducible assumption)
  clear hK K
  try simp only [Act.put, List.getElem_toArray, List.getElem_cons_succ, List.getElem_cons_zero, List.setIfInBounds_toArray, List.set_cons_zero, List.set_cons_succ]
  refine wpAnyH_ready (rs := [9]) (by kernel_rfl) (by simp) ?_
  refine AllReadyH.cons rfl (fun K hK => ?_) AllReadyH.nil
  go_simp
  refine hK.out _ _ ?_ (fun hHeld => ?_)
  · exact PairS.same (by with_reducible assumption) ((Same.refl _).alloc _)
  clear hK K
  try simp only [Act.put, List.getElem_toArray, List.getElem_cons_succ, List.getElem_cons_zero, List.setIfInBounds_toArray, List.set_cons_zero, List.set_cons_succ]
  refine wpAnyH_ready (rs := [10]) (by kernel_rfl) (by simp) ?_
  refine AllReadyH.cons rfl (fun K hK => ?_) AllReadyH.nil
  go_simp
  refine (prod_any P Q G H ra rn rc _ 2 2 [m, expI Q P y r] P0 _ (ints_pair _ _ _ _ hm (expI_u _ _ _ _))).mono ?_
  rintro e1 w3 ⟨rfl, hT3⟩
  go_wp2_with fail
  refine hK.out _ _ ?_ (fun hHeld => ?_)
  · exact PairS.same (by with_reducible assumption) (by with_reducible assumption)
  clear hK K
  try simp only [Act.put, List.getElem_toArray, List.getElem_cons_succ, List.getElem_cons_zero, List.setIfInBounds_toArray, List.set_cons_zero, List.set_cons_succ]
  refine wpAnyH_take (i := 11) (v := ?_) rfl (by kernel_rfl) (by kernel_rfl) (by kernel_rfl) (fun _ _ _ h => h) (Or.inl ⟨by rfl, ?_⟩) (by assumption) ?_
  rotate_left
  · intro w hSw; (try dsimp only at hSw); go_simp; try with_reducible rfl
  try simp only [Act.put, List.getElem_toArray, List.getElem_cons_succ, List.getElem_cons_zero, List.setIfInBounds_toArray, List.set_cons_zero, List.set_cons_succ]
  refine wpAnyH_ready (rs := [12]) (by kernel_rfl) (by simp) ?_
  refine AllReadyH.cons rfl (fun K hK => ?_) AllReadyH.nil
  have hSc := hHeld.2
  obtain ⟨u, v, z0, z1, z2, z3⟩ := hSc
  go_simp
  refine hK.out _ _ ?_ (fun hHeld => ?_)
  · exact (hHeld.set0 HNE.out.1 HNE.out.2 _).set1 HNE.out.1 HNE.out.2 _
  clear hK K
  try simp only [Act.put, List.getElem_toArray, List.getElem_cons_succ, List.getElem_cons_zero, List.setIfInBounds_toArray, List.set_cons_zero, List.set_cons_succ]
  refine wpAnyH_done (by kernel_rfl) ?_ _
  have hSc := hHeld.1.2.2.2.2.2
  have hSd := ((PairAt.mk z0 z1 z2 z3).set0 (.int .u64 (expI Q P G r))).set1 (.int .u64 (prodI P [m, expI Q P y r]))
  obtain ⟨q0, q1, q2, q3⟩ := hSd
  clear z0 z1 z2 z3
  go_wp2_with fail
  refine bodyPost_ret (by simp [results, Try.results18, go_sem, q0, q1]; try rfl) rfl ?_
  exact ⟨rfl, hSc⟩
end Go.Proofs.Ytfoncfojljmimaa
/- gamal.Again: a pair, sealed once more. -/
namespace Go.Proofs.Ytfoncfojljmimaa
open Go.RowKit NT
/-- A group, a pair in their boxes, and an empty pair behind them. -/
theorem par_pair2 (w : World) (P Q G H : Int) (ra : Option Addr) (rn rc : Nat) (cu cv : Int) : ∃ W bx cx rx, ((w.alloc (.cells #[.int .u64 P, .int .u64 Q, .int .u64 G, .int .u64 H, .slice ra rn rc] 25)).alloc (.cells #[.int .u64 cu, .int .u64 cv] 27)).alloc (.cells #[.int .u64 0, .int .u64 0] 27) = W ∧ w.heap.size = bx ∧ bx + 1 = cx ∧ cx + 1 = rx ∧
    BoxS w bx P Q G H ra rn rc W ∧ PairAt W cx (.int .u64 cu) (.int .u64 cv) ∧ PairAt W rx (.int .u64 0) (.int .u64 0) := by
  obtain ⟨W1, bx, e1, e2, hS, c0, c1, c2, c3, c4⟩ := par_box w P Q G H (.slice ra rn rc)
  have hz : W1.heap.size = bx + 1 := by rw [← e1, ← e2]; simp
  obtain ⟨W2, e3⟩ : ∃ W2, W1.alloc (.cells #[.int .u64 cu, .int .u64 cv] 27) = W2 := ⟨_, rfl⟩
  have hS1 : Same W1 W2 := by rw [← e3]; exact (Same.refl W1).alloc _
  have hp1 := PairAt.new W1 27 (.int .u64 cu) (.int .u64 cv)
  rw [e3, hz] at hp1
  have hz2 : W2.heap.size = bx + 1 + 1 := by rw [← e3, ← hz]; simp
  have hS2 : Same W2 (W2.alloc (.cells #[.int .u64 0, .int .u64 0] 27)) := (Same.refl W2).alloc _
  have hp2 := PairAt.new W2 27 (.int .u64 0) (.int .u64 0)
  rw [hz2] at hp2
  have hS3 := hS1.trans hS2
  refine ⟨_, bx, bx + 1, bx + 1 + 1, by rw [e1, e3], e2, rfl, rfl, ⟨same_cell hS3 c0, same_cell hS3 c1, same_cell hS3 c2, same_cell hS3 c3, same_cell hS3 c4, hS.trans hS3⟩, hp1.same hS2, hp2⟩
set_option maxHeartbeats 3200000 in
theorem again_any (P Q G H : Int) (ra : Option Addr) (rn rc : Nat) (y cu cv r : Int) (P0 : 0 ≤ P) (Q0 : 0 ≤ Q) (Q1 : Q < 18446744073709551616) (G0 : 0 ≤ G) (y0 : 0 ≤ y) (hu : U64 cu) (hv : U64 cv) (r0 : 0 ≤ r) (r1 : r < 18446744073709551616) (w : World) :
    Calls Try.prog 20 #[.agg #[.int .u64 P, .int .u64 Q, .int .u64 G, .int .u64 H, .slice ra rn rc], .int .u64 y, .agg #[.int .u64 cu, .int .u64 cv], .int .u64 r] w fun z w' => z = .returned (.agg #[.int .u64 (prodI P [expI Q P G r, cu]), .int .u64 (prodI P [cv, expI Q P y r])]) ∧ Same w w' := by
  obtain ⟨W, bx, cx, rx, eW, eb, ec, er, hB, hc, hr⟩ := par_pair2 w P Q G H ra rn rc cu cv
  have EW := Lib.hid eW
  have EB := Lib.hid eb
  have EC := Lib.hid ec
  have ER := Lib.hid er
  clear eW eb ec er
  obtain ⟨x, hx⟩ : ∃ x, expI Q P G r = x := ⟨_, rfl⟩
  have hxu := expI_u Q P G r
  rw [hx] at hxu
  have HX := Lib.hid hx
  obtain ⟨z, hz⟩ : ∃ z, prodI P [cv, expI Q P y r] = z := ⟨_, rfl⟩
  have HZ := Lib.hid hz
  clear hx hz
  go_enter Try.func20, Try.ntmps20
  go_upto_region 1 with fail
  rw [EW.out, EB.out, EC.out, ER.out]
  obtain ⟨b0, b1, b2, b3, b4, hS0⟩ := hB
  obtain ⟨p0, p1, p2, p3⟩ := hc
  go_wp2_with fail
  refine (seal_any P Q G H ra rn rc y cv r P0 Q0 Q1 G0 y0 hv r0 r1 _).mono ?_
  rintro e1 w1 ⟨rfl, hS1⟩
  rw [HX.out, HZ.out]
  replace b0 := same_cell hS1 b0
  replace b1 := same_cell hS1 b1
  replace b2 := same_cell hS1 b2
  replace b3 := same_cell hS1 b3
  replace b4 := same_cell hS1 b4
  replace p0 := same_cell hS1 p0
  have q := hr.same hS1
  clear p1 p2 p3 hr
  obtain ⟨q0, q1, q2, q3⟩ := q
  go_upto_region 2 with fail
  obtain ⟨W2, eW2⟩ : ∃ W2, w1.alloc (.cells #[.int .u64 x, .int .u64 z] 27) = W2 := ⟨_, rfl⟩
  obtain ⟨dx, ed⟩ : ∃ dx, w1.heap.size = dx := ⟨_, rfl⟩
  have hS2 : Same w1 W2 := by rw [← eW2]; exact (Same.refl w1).alloc _
  have hd := PairAt.new w1 27 (.int .u64 x) (.int .u64 z)
  rw [eW2, ed] at hd
  have hdr : dx ≠ rx := by rw [← ed]; exact World.new_ne w1 ⟨rx, 0, none⟩ q0
  have EW2 := Lib.hid eW2
  have ED := Lib.hid ed
  have HDR := Lib.hid hdr
  have HG := Lib.hid (show w.heap.size ≤ dx ∧ w.heap.size ≤ rx by
    have h1 := hS0.size; have h2 := hS1.size; have := EB.out; have := EC.out; have := ER.out; omega)
  clear eW2 ed hdr
  rw [EW2.out, ED.out]
  have hB2 : BoxS w bx P Q G H ra rn rc W2 := BoxS.same (⟨b0, b1, b2, b3, b4, hS0.trans hS1⟩ : BoxS w bx P Q G H ra rn rc w1) hS2
  replace p0 := same_cell hS2 p0
  have hr2 := (PairAt.mk q0 q1 q2 q3).same hS2
  clear q0 q1 q2 q3 b0 b1 b2 b3 b4 hS1 hS2
  obtain ⟨d0, d1, d2, d3⟩ := hd
  obtain ⟨b0, b1, b2, b3, b4, hS3⟩ := hB2
  go_wp2_with fail
  refine (prod_any P Q G H ra rn rc _ 2 2 [x, cu] P0 _ (ints_pair _ _ _ _ hxu hu)).mono ?_
  rintro e1 w3 ⟨rfl, hS4⟩
  obtain ⟨u, hu2⟩ : ∃ u, prodI P [x, cu] = u := ⟨_, rfl⟩
  have HU := Lib.hid hu2
  rw [hu2]
  clear hu2
  have hS5 : Same W2 w3 := ((Same.refl W2).alloc _).trans hS4
  replace hr2 := hr2.same hS5
  have hd := (PairAt.mk d0 d1 d2 d3).same hS5
  have hSS := hS3.trans hS5
  clear d0 d1 d2 d3 b0 b1 b2 b3 b4 p0 hS4
  obtain ⟨d0, d1, d2, d3⟩ := hd
  go_upto_region 3 with fail
  obtain ⟨W4, eW4⟩ : ∃ W4, w3.setCell ⟨dx, 0, none⟩ (.int .u64 u) = W4 := ⟨_, rfl⟩
  have hd4 := (PairAt.mk d0 d1 d2 d3).set0 (.int .u64 u)
  have hr4 := hr2.far (o := 0) HDR.out (.int .u64 u)
  have hS6 := Below.setCell hSS (p := ⟨dx, 0, none⟩) HG.out.1 (.int .u64 u)
  rw [eW4] at hd4 hr4 hS6 ⊢
  clear eW4 d0 d1 d2 d3 hr2 hSS hS5
  obtain ⟨d0, d1, d2, d3⟩ := hd4
  have hr5 := (hr4.set0 (.int .u64 u)).set1 (.int .u64 z)
  have hS7 := Below.setCell (Below.setCell hS6 (p := ⟨rx, 0, none⟩) HG.out.2 (.int .u64 u)) (p := ⟨rx, 1, none⟩) HG.out.2 (.int .u64 z)
  have HR5 := Lib.hid hr5
  obtain ⟨q0, q1, q2, q3⟩ := hr4
  clear hr5
  go_wp2_with fail
  obtain ⟨q0, q1, q2, q3⟩ := HR5.out
  refine bodyPost_ret (by simp [results, Try.results20, go_sem, q0, q1]; try rfl) rfl ?_
  exact ⟨by rw [HX.out, HZ.out, HU.out], hS7⟩
end Go.Proofs.Ytfoncfojljmimaa
/- gamal.Share, Open, Enter, Leave. -/
namespace Go.Proofs.Ytfoncfojljmimaa
open Go.RowKit NT
/-- A group and a pair in their boxes. -/
theorem par_gc (w : World) (P Q G H : Int) (ra : Option Addr) (rn rc : Nat) (cu cv : Int) : ∃ W bx cx, (w.alloc (.cells #[.int .u64 P, .int .u64 Q, .int .u64 G, .int .u64 H, .slice ra rn rc] 25)).alloc (.cells #[.int .u64 cu, .int .u64 cv] 27) = W ∧ w.heap.size = bx ∧ bx + 1 = cx ∧
    BoxS w bx P Q G H ra rn rc W ∧ PairAt W cx (.int .u64 cu) (.int .u64 cv) := by
  obtain ⟨W1, bx, e1, e2, hS, c0, c1, c2, c3, c4⟩ := par_box w P Q G H (.slice ra rn rc)
  have hz : W1.heap.size = bx + 1 := by rw [← e1, ← e2]; simp
  have hS1 : Same W1 (W1.alloc (.cells #[.int .u64 cu, .int .u64 cv] 27)) := (Same.refl W1).alloc _
  have hp1 := PairAt.new W1 27 (.int .u64 cu) (.int .u64 cv)
  rw [hz] at hp1
  exact ⟨_, bx, bx + 1, by rw [e1], e2, rfl, ⟨same_cell hS1 c0, same_cell hS1 c1, same_cell hS1 c2, same_cell hS1 c3, same_cell hS1 c4, hS.trans hS1⟩, hp1⟩
theorem share_any (P Q G H : Int) (ra : Option Addr) (rn rc : Nat) (x cu cv : Int) (P0 : 0 ≤ P) (Q0 : 0 ≤ Q) (Q1 : Q < 18446744073709551616) (u0 : 0 ≤ cu) (x0 : 0 ≤ x) (x1 : x < 18446744073709551616) (w : World) :
    Calls Try.prog 14 #[.agg #[.int .u64 P, .int .u64 Q, .int .u64 G, .int .u64 H, .slice ra rn rc], .int .u64 x, .agg #[.int .u64 cu, .int .u64 cv]] w fun z w' => z = .returned (.int .u64 (expI Q P cu x)) ∧ Same w w' := by
  obtain ⟨W, bx, cx, eW, eb, ec, hB, hc⟩ := par_gc w P Q G H ra rn rc cu cv
  have EW := Lib.hid eW
  have EB := Lib.hid eb
  have EC := Lib.hid ec
  clear eW eb ec
  go_enter Try.func14, Try.ntmps14
  go_upto_region 1 with fail
  rw [EW.out, EB.out, EC.out]
  obtain ⟨b0, b1, b2, b3, b4, hS⟩ := hB
  obtain ⟨p0, p1, p2, p3⟩ := hc
  go_wp2_with fail
  refine (exp_any P Q G H ra rn rc cu x P0 Q0 Q1 u0 x0 x1 _).mono ?_
  rintro e1 w1 ⟨rfl, hS1⟩
  go_wp2_with fail
  go_ret
  exact ⟨rfl, hS.trans hS1⟩
/-- the box, and a pair in its own -/
abbrev BoxC (W0 : World) (bx cx : Nat) (P Q G H : Int) (ra : Option Addr) (rn rc : Nat) (cu cv : Int) (w : World) : Prop :=
  w.cell? ⟨cx, 0, none⟩ = some (.int .u64 cu) ∧ w.cell? ⟨cx, 1, none⟩ = some (.int .u64 cv) ∧ BoxS W0 bx P Q G H ra rn rc w
theorem BoxC.same {W0 w w' : World} {bx cx : Nat} {P Q G H : Int} {ra : Option Addr} {rn rc : Nat} {cu cv : Int} (h : BoxC W0 bx cx P Q G H ra rn rc cu cv w) (hs : Same w w') : BoxC W0 bx cx P Q G H ra rn rc cu cv w' :=
  ⟨same_cell hs h.1, same_cell hs h.2.1, h.2.2.same hs⟩
theorem open_any (P Q G H : Int) (ra : Option Addr) (rn rc : Nat) (cu cv : Int) (a : Option Addr) (n cap : Nat) (xs : List Int) (P0 : 0 ≤ P) (v0 : 0 ≤ cv) (w : World) (h : IntsAt w a n xs) :
    Calls Try.prog 13 #[.agg #[.int .u64 P, .int .u64 Q, .int .u64 G, .int .u64 H, .slice ra rn rc], .agg #[.int .u64 cu, .int .u64 cv], .slice a n cap] w fun z w' => z = .returned (.int .u64 (overI P cv (prodI P xs))) ∧ Same w w' := by
  obtain ⟨W, bx, cx, eW, eb, ec, hB, hc⟩ := par_gc w P Q G H ra rn rc cu cv
  have EW := Lib.hid eW
  have EB := Lib.hid eb
  have EC := Lib.hid ec
  have H1 := Lib.hid (h.same (hB.base.trans (drew_same W)))
  have hB0 : BoxC w bx cx P Q G H ra rn rc cu cv W := ⟨hc.u, hc.v, hB⟩
  have HB0 := Lib.hid (hB0.same (drew_same W))
  clear eW eb ec hB hc hB0 h
  obtain ⟨y, hy⟩ : ∃ y, prodI P xs = y := ⟨_, rfl⟩
  have hy0 := (prodI_u P xs).1
  rw [hy] at hy0 ⊢
  have HY := Lib.hid hy
  clear hy
  go_enter Try.func13, Try.ntmps13
  go_upto_region 1 with fail
  rw [EW.out, EB.out, EC.out]
  go_region_held3 (fun w' => BoxC w bx cx P Q G H ra rn rc cu cv w')
    (first
      | exact HB0.out
      | (with_reducible refine BoxC.same (by assumption) ?_; with_reducible assumption)
      | assumption
      | go_keep)
    (first
      | (go_at_call 35; refine (prod_any P Q G H ra rn rc a n cap xs P0 _ H1.out).mono ?_; rintro e1 w3 ⟨rfl, hT3⟩; rw [HY.out])
      | (go_at_call 34; refine (over_any P Q G H ra rn rc cv y P0 v0 hy0 _).mono ?_; rintro e1 w4 ⟨rfl, hT4⟩))
  go_wp2_with fail
  go_ret
  rename_i hHeld
  exact ⟨rfl, hHeld.2.2.base⟩
/-- Three fields in a box, not frozen. -/
structure ThreeAt (w : World) (b : Nat) (u x v : Value) : Prop where
  u : w.cell? ⟨b, 0, none⟩ = some u
  x : w.cell? ⟨b, 1, none⟩ = some x
  v : w.cell? ⟨b, 2, none⟩ = some v
  fu : w.frozen? ⟨b, 0, none⟩ = false
  fx : w.frozen? ⟨b, 1, none⟩ = false
  fv : w.frozen? ⟨b, 2, none⟩ = false
theorem ThreeAt.same {w w' : World} {b : Nat} {u x v : Value} (h : ThreeAt w b u x v) (hs : Same w w') : ThreeAt w' b u x v :=
  ⟨same_cell hs h.u, same_cell hs h.x, same_cell hs h.v, same_frozen hs h.u h.fu, same_frozen hs h.x h.fx, same_frozen hs h.v h.fv⟩
theorem ThreeAt.new (w : World) (t : TypeId) (u x v : Value) : ThreeAt (w.alloc (.cells #[u, x, v] t)) w.heap.size u x v :=
  ⟨by simp [World.cell?_alloc_new], by simp [World.cell?_alloc_new], by simp [World.cell?_alloc_new], by simp [World.frozen?_alloc_new], by simp [World.frozen?_alloc_new], by simp [World.frozen?_alloc_new]⟩
theorem ThreeAt.put {w : World} {b : Nat} {u x v : Value} (h : ThreeAt w b u x v) (a c d : Value) : ThreeAt (((w.setCell ⟨b, 0, none⟩ a).setCell ⟨b, 1, none⟩ c).setCell ⟨b, 2, none⟩ d) b a c d :=
  ⟨(World.cell?_setCell_other _ _ _ _ (by simp)).trans ((World.cell?_setCell_other _ _ _ _ (by simp)).trans (World.cell?_setCell_same _ _ _ h.u)),
   (World.cell?_setCell_other _ _ _ _ (by simp)).trans (World.cell?_setCell_same _ _ _ ((World.cell?_setCell_other _ _ _ _ (by simp)).trans h.x)),
   World.cell?_setCell_same _ _ _ ((World.cell?_setCell_other _ _ _ _ (by simp)).trans ((World.cell?_setCell_other _ _ _ _ (by simp)).trans h.v)),
   by simp [h.fu], by simp [h.fx], by simp [h.fv]⟩
theorem PairAt.put {w : World} {b : Nat} {u v : Value} (h : PairAt w b u v) (a c : Value) : PairAt ((w.setCell ⟨b, 0, none⟩ a).setCell ⟨b, 1, none⟩ c) b a c := (h.set0 a).set1 c
theorem enter_any (cu cv : Int) (w : World) :
    Calls Try.prog 26 #[.agg #[.int .u64 cu, .int .u64 cv]] w fun z w' => z = .returned (.agg #[.int .u64 cu, .int .u64 1, .int .u64 cv]) ∧ Same w w' := by
  obtain ⟨W1, e1⟩ : ∃ W1, w.alloc (.cells #[.int .u64 cu, .int .u64 cv] 27) = W1 := ⟨_, rfl⟩
  obtain ⟨cb, e2⟩ : ∃ cb, w.heap.size = cb := ⟨_, rfl⟩
  have hS1 : Same w W1 := by rw [← e1]; exact (Same.refl w).alloc _
  have h1 := PairAt.new w 27 (.int .u64 cu) (.int .u64 cv)
  rw [e1, e2] at h1
  have hz : W1.heap.size = cb + 1 := by rw [← e1, ← e2]; simp
  obtain ⟨W2, e3⟩ : ∃ W2, W1.alloc (.cells #[.int .u64 0, .int .u64 0, .int .u64 0] 49) = W2 := ⟨_, rfl⟩
  obtain ⟨rx, e4⟩ : ∃ rx, cb + 1 = rx := ⟨_, rfl⟩
  have h2 := ThreeAt.new W1 49 (.int .u64 0) (.int .u64 0) (.int .u64 0)
  rw [hz, e3, e4] at h2
  have hSa : Same W1 W2 := by rw [← e3]; exact (Same.refl W1).alloc _
  have hS2 := hS1.trans hSa
  replace h1 := h1.same hSa
  have E1 := Lib.hid e1
  have E2 := Lib.hid e2
  have E3 := Lib.hid e3
  have E4 := Lib.hid e4
  have HG := Lib.hid (show w.heap.size ≤ rx by omega)
  have HP := Lib.hid (h2.put (.int .u64 cu) (.int .u64 1) (.int .u64 cv))
  clear e1 e2 e3 e4 hz hS1 hSa
  go_enter Try.func26, Try.ntmps26
  go_upto_region 1 with fail
  rw [E1.out, E2.out, E3.out, E4.out]
  obtain ⟨c0, c1, c2, c3⟩ := h1
  obtain ⟨d0, d1, d2, d3, d4, d5⟩ := h2
  go_wp2_with fail
  obtain ⟨q0, q1, q2, q3, q4, q5⟩ := HP.out
  refine bodyPost_ret (by simp [results, Try.results26, go_sem, q0, q1, q2]; try rfl) rfl ?_
  exact ⟨rfl, Below.setCell (Below.setCell (Below.setCell hS2 (p := ⟨rx, 0, none⟩) HG.out _) (p := ⟨rx, 1, none⟩) HG.out _) (p := ⟨rx, 2, none⟩) HG.out _⟩
theorem leave_any (cu cx cv : Int) (w : World) :
    Calls Try.prog 28 #[.agg #[.int .u64 cu, .int .u64 cx, .int .u64 cv]] w fun z w' => z = .returned (.agg #[.int .u64 cx, .int .u64 cv]) ∧ Same w w' := by
  obtain ⟨W1, e1⟩ : ∃ W1, w.alloc (.cells #[.int .u64 cu, .int .u64 cx, .int .u64 cv] 49) = W1 := ⟨_, rfl⟩
  obtain ⟨cb, e2⟩ : ∃ cb, w.heap.size = cb := ⟨_, rfl⟩
  have hS1 : Same w W1 := by rw [← e1]; exact (Same.refl w).alloc _
  have h1 := ThreeAt.new w 49 (.int .u64 cu) (.int .u64 cx) (.int .u64 cv)
  rw [e1, e2] at h1
  have hz : W1.heap.size = cb + 1 := by rw [← e1, ← e2]; simp
  obtain ⟨W2, e3⟩ : ∃ W2, W1.alloc (.cells #[.int .u64 0, .int .u64 0] 27) = W2 := ⟨_, rfl⟩
  obtain ⟨rx, e4⟩ : ∃ rx, cb + 1 = rx := ⟨_, rfl⟩
  have h2 := PairAt.new W1 27 (.int .u64 0) (.int .u64 0)
  rw [hz, e3, e4] at h2
  have hSa : Same W1 W2 := by rw [← e3]; exact (Same.refl W1).alloc _
  have hS2 := hS1.trans hSa
  replace h1 := h1.same hSa
  have E1 := Lib.hid e1
  have E2 := Lib.hid e2
  have E3 := Lib.hid e3
  have E4 := Lib.hid e4
  have HG := Lib.hid (show w.heap.size ≤ rx by omega)
  have HP := Lib.hid (h2.put (.int .u64 cx) (.int .u64 cv))
  clear e1 e2 e3 e4 hz hS1 hSa
  go_enter Try.func28, Try.ntmps28
  go_upto_region 1 with fail
  rw [E1.out, E2.out, E3.out, E4.out]
  obtain ⟨c0, c1, c2, c3, c4, c5⟩ := h1
  obtain ⟨d0, d1, d2, d3⟩ := h2
  go_wp2_with fail
  obtain ⟨q0, q1, q2, q3⟩ := HP.out
  refine bodyPost_ret (by simp [results, Try.results28, go_sem, q0, q1]; try rfl) rfl ?_
  exact ⟨rfl, Below.setCell (Below.setCell hS2 (p := ⟨rx, 0, none⟩) HG.out _) (p := ⟨rx, 1, none⟩) HG.out _⟩
theorem renter_any (cu cv : Int) (w : World) :
    Calls Try.prog 27 #[.agg #[.int .u64 cu, .int .u64 cv]] w fun z w' => z = .returned (.agg #[.int .u64 cu, .int .u64 1, .int .u64 cv]) ∧ Same w w' := by
  obtain ⟨W1, e1⟩ : ∃ W1, w.alloc (.cells #[.int .u64 cu, .int .u64 cv] 27) = W1 := ⟨_, rfl⟩
  obtain ⟨cb, e2⟩ : ∃ cb, w.heap.size = cb := ⟨_, rfl⟩
  have hS1 : Same w W1 := by rw [← e1]; exact (Same.refl w).alloc _
  have h1 := PairAt.new w 27 (.int .u64 cu) (.int .u64 cv)
  rw [e1, e2] at h1
  have hz : W1.heap.size = cb + 1 := by rw [← e1, ← e2]; simp
  obtain ⟨W2, e3⟩ : ∃ W2, W1.alloc (.cells #[.int .u64 0, .int .u64 0, .int .u64 0] 49) = W2 := ⟨_, rfl⟩
  obtain ⟨rx, e4⟩ : ∃ rx, cb + 1 = rx := ⟨_, rfl⟩
  have h2 := ThreeAt.new W1 49 (.int .u64 0) (.int .u64 0) (.int .u64 0)
  rw [hz, e3, e4] at h2
  have hSa : Same W1 W2 := by rw [← e3]; exact (Same.refl W1).alloc _
  have hS2 := hS1.trans hSa
  replace h1 := h1.same hSa
  have E1 := Lib.hid e1
  have E2 := Lib.hid e2
  have E3 := Lib.hid e3
  have E4 := Lib.hid e4
  have HG := Lib.hid (show w.heap.size ≤ rx by omega)
  have HP := Lib.hid (h2.put (.int .u64 cu) (.int .u64 1) (.int .u64 cv))
  clear e1 e2 e3 e4 hz hS1 hSa
  go_enter Try.func27, Try.ntmps27
  go_upto_region 1 with fail
  rw [E1.out, E2.out, E3.out, E4.out]
  obtain ⟨c0, c1, c2, c3⟩ := h1
  obtain ⟨d0, d1, d2, d3, d4, d5⟩ := h2
  go_wp2_with fail
  obtain ⟨q0, q1, q2, q3, q4, q5⟩ := HP.out
  refine bodyPost_ret (by simp [results, Try.results27, go_sem, q0, q1, q2]; try rfl) rfl ?_
  exact ⟨rfl, Below.setCell (Below.setCell (Below.setCell hS2 (p := ⟨rx, 0, none⟩) HG.out _) (p := ⟨rx, 1, none⟩) HG.out _) (p := ⟨rx, 2, none⟩) HG.out _⟩
theorem rleave_any (cu cx cv : Int) (w : World) :
    Calls Try.prog 29 #[.agg #[.int .u64 cu, .int .u64 cx, .int .u64 cv]] w fun z w' => z = .returned (.agg #[.int .u64 cx, .int .u64 cv]) ∧ Same w w' := by
  obtain ⟨W1, e1⟩ : ∃ W1, w.alloc (.cells #[.int .u64 cu, .int .u64 cx, .int .u64 cv] 49) = W1 := ⟨_, rfl⟩
  obtain ⟨cb, e2⟩ : ∃ cb, w.heap.size = cb := ⟨_, rfl⟩
  have hS1 : Same w W1 := by rw [← e1]; exact (Same.refl w).alloc _
  have h1 := ThreeAt.new w 49 (.int .u64 cu) (.int .u64 cx) (.int .u64 cv)
  rw [e1, e2] at h1
  have hz : W1.heap.size = cb + 1 := by rw [← e1, ← e2]; simp
  obtain ⟨W2, e3⟩ : ∃ W2, W1.alloc (.cells #[.int .u64 0, .int .u64 0] 27) = W2 := ⟨_, rfl⟩
  obtain ⟨rx, e4⟩ : ∃ rx, cb + 1 = rx := ⟨_, rfl⟩
  have h2 := PairAt.new W1 27 (.int .u64 0) (.int .u64 0)
  rw [hz, e3, e4] at h2
  have hSa : Same W1 W2 := by rw [← e3]; exact (Same.refl W1).alloc _
  have hS2 := hS1.trans hSa
  replace h1 := h1.same hSa
  have E1 := Lib.hid e1
  have E2 := Lib.hid e2
  have E3 := Lib.hid e3
  have E4 := Lib.hid e4
  have HG := Lib.hid (show w.heap.size ≤ rx by omega)
  have HP := Lib.hid (h2.put (.int .u64 cx) (.int .u64 cv))
  clear e1 e2 e3 e4 hz hS1 hSa
  go_enter Try.func29, Try.ntmps29
  go_upto_region 1 with fail
  rw [E1.out, E2.out, E3.out, E4.out]
  obtain ⟨c0, c1, c2, c3, c4, c5⟩ := h1
  obtain ⟨d0, d1, d2, d3⟩ := h2
  go_wp2_with fail
  obtain ⟨q0, q1, q2, q3⟩ := HP.out
  refine bodyPost_ret (by simp [results, Try.results29, go_sem, q0, q1]; try rfl) rfl ?_
  exact ⟨rfl, Below.setCell (Below.setCell hS2 (p := ⟨rx, 0, none⟩) HG.out _) (p := ⟨rx, 1, none⟩) HG.out _⟩
end Go.Proofs.Ytfoncfojljmimaa
