/- prime.known.holds, prime.all, prime.Holds, prime.Proved: which rows hold, and what they prove. -/
import Derived.Test.YtdinemhodnleeaaFacN
import Derived.Test.YtdinemhodnleeaaModPow
import Derived.Maps.OwnSet
import Derived.Outline
set_option linter.unusedVariables false
set_option linter.unusedSimpArgs false
namespace Go.Proofs.Ytdinemhodnleeaa
open Go.RowKit Go.Maps NT
theorem lawU : Keyed Try.prog 22 := int_keyed Try.underlying22
theorem zeroB (w : World) : (zeroValue 4).run Try.prog w = .ok (.bool false) w := by kernel_rfl
theorem wf_u64 {x : Int} (h : U64 x) : (Lit.int .u64 x).wf = true := by
  obtain ⟨h0, h1⟩ := h
  simp [Lit.wf, IntKind.min, IntKind.max, IntKind.signed, IntKind.bits]
  omega
theorem keyU {x : Int} (h : U64 x) : keyOf Try.prog 22 (.int .u64 x) = some (.int .u64 x) := keyOf_int_mk Try.underlying22 (wf_u64 h)
/-- Block b is a map in which just the numbers of S stand, all with true. -/
def Knows (w : World) (b n : Nat) (S : Int → Prop) : Prop :=
  ∃ D : DataW Unit, w.ownsMap Try.prog 22 (plainElem Try.prog 4) b n D ∧
    ∀ f, U64 f → (S f → D.atKey (.int .u64 f) (.lit (.bool false)) = .lit (.bool true)) ∧ (¬ S f → D.atKey (.int .u64 f) (.lit (.bool false)) = .lit (.bool false))
theorem Knows.same {w w' : World} {b n : Nat} {S : Int → Prop} (h : Knows w b n S) (hs : Same w w') : Knows w' b n S := by
  obtain ⟨D, h1, h2⟩ := h
  exact ⟨D, h1.kept (hs.grown none) (by simp), h2⟩
theorem Knows.congr {w : World} {b n : Nat} {S T : Int → Prop} (h : Knows w b n S) (hs : ∀ f, S f ↔ T f) : Knows w b n T := by
  obtain ⟨D, h1, h2⟩ := h
  exact ⟨D, h1, fun f hf => ⟨fun t => (h2 f hf).1 ((hs f).2 t), fun t => (h2 f hf).2 (fun s => t ((hs f).1 s))⟩⟩
theorem Knows.asked {w : World} {b n : Nat} {S : Int → Prop} (h : Knows w b n S) {f : Int} (hf : U64 f) :
    (S f → ∀ m, (Instr.lookup 40 (.map (some b)) (.int .u64 f) false).run Try.prog (w.drewN m) = .ok (.bool true) (w.drewN m)) ∧
    (¬ S f → ∀ m, (Instr.lookup 40 (.map (some b)) (.int .u64 f) false).run Try.prog (w.drewN m) = .ok (.bool false) (w.drewN m)) := by
  have key : ∀ (x : Bool) (m : Nat), (∃ D : DataW Unit, w.ownsMap Try.prog 22 (plainElem Try.prog 4) b n D ∧ D.atKey (.int .u64 f) (.lit (.bool false)) = .lit (.bool x)) →
      (Instr.lookup 40 (.map (some b)) (.int .u64 f) false).run Try.prog (w.drewN m) = .ok (.bool x) (w.drewN m) := by
    intro x m ⟨D, h1, h2⟩
    have h1' : (w.drewN m).ownsMap Try.prog 22 (plainElem Try.prog 4) b n D := h1.kept ((Drawn.of w m).below |> fun hb => Same.grown hb none) (by simp)
    obtain ⟨v, ps, hrun, hv⟩ := h1'.lookup lawU Try.underlying40 (zeroB _) (plainElem_bool Try.underlying4 false) (keyU hf)
    rw [h2] at hv
    have : v = .bool x := by
      unfold plainElem at hv
      rw [Try.underlying4] at hv
      cases v <;> simp at hv
      exact congrArg _ hv.1
    rw [hrun, this]
  obtain ⟨D, h1, h2⟩ := h
  exact ⟨fun hs m => key true m ⟨D, h1, (h2 f hf).1 hs⟩, fun hs m => key false m ⟨D, h1, (h2 f hf).2 hs⟩⟩
set_option maxRecDepth 100000 in
set_option maxHeartbeats 4000000 in
theorem kholds (b n : Nat) (S : Int → Prop) (r : RowD) (fa : Option Addr) (fn fc : Nat) (w : World) (hk : Knows w b n S) (hf : IntsAt w fa fn r.f) (hn : U64 r.n) (ha : U64 r.a) :
    Calls Try.prog 31 #[.map (some b), .agg #[.int .u64 r.n, .int .u64 r.a, .slice fa fn fc]] w fun e w' => e = .returned (.bool (rowB S r)) ∧ Same w w' := by
  obtain ⟨n0, n1⟩ := hn
  obtain ⟨a0, a1⟩ := ha
  have hlen := hf.len
  have hsmall := hf.small
  by_cases hA : 3 ≤ r.n ∧ r.n ≤ 4611686018427387904 ∧ 1 ≤ fn ∧ fn ≤ 16
  · obtain ⟨hA1, hA2, hA3, hA4⟩ := hA
    obtain ⟨fb, fo, rfl, hcells⟩ := hf.cells (by omega)
    have fnz : (((fn : Nat) : Int) == 0) = false := by rw [beq_eq_false_iff_ne]; omega
    by_cases hP : powI r.a (r.n - 1) r.n = 1
    case neg =>
      have hb := rowB_no (S := S) (r := r) (fun h => hP h.2.2.2.2.1)
      have HB := Lib.hid hb
      obtain ⟨p, hp⟩ : ∃ p, powI r.a (r.n - 1) r.n = p := ⟨_, rfl⟩
      rw [hp] at hP
      have hp1 : ((p : Int) != 1) = true := by rw [bne_iff_ne]; exact hP
      have HP := Lib.hid hp
      clear hb hP hp hlen hcells
      go_enter Try.func31, Try.ntmps31
      go_wp2_with fail
      refine (pow_any _ _ _ (by omega) (by omega) (by omega) (by omega) _).mono ?_
      rintro e1 w1 ⟨rfl, hD1⟩
      rw [show (powS r.a.toNat (r.n - 1).toNat r.n.toNat : Int) = p from HP.out]
      go_wp2_with fail
      go_ret
      exact ⟨ret_bool HB.out.symm, ((Same.refl w).alloc _).drawn hD1⟩
    have h0 : RowOk S r ↔ FacOk S r (r.n - 1) 1 r.f := ⟨fun h => h.2.2.2.2.2, fun h => ⟨hA1, hA2, by omega, by omega, hP, h⟩⟩
    have H0 := Lib.hid h0
    have HL := Lib.hid hlen
    have hwf : FacAt S r 0 (r.n - 1) 1 := ⟨by omega, by omega, by omega, by omega, by simp⟩
    have HW := Lib.hid hwf
    clear h0 hlen hwf
    go_enter Try.func31, Try.ntmps31
    go_wp2_with fail
    refine (pow_any _ _ _ (by omega) (by omega) (by omega) (by omega) _).mono ?_
    rintro e1 w1 ⟨rfl, hD1⟩
    rw [show (powS r.a.toNat (r.n - 1).toNat r.n.toNat : Int) = 1 from hP]
    have hS1 : Same (w.alloc (.cells #[.int .u64 r.n, .int .u64 r.a, .slice (some ⟨fb, fo, none⟩) fn fc] 37)) w1 := hD1.below
    have c0 : w1.cell? ⟨w.heap.size, 0, none⟩ = some (.int .u64 r.n) := same_cell hS1 (by simp [World.cell?_alloc_new])
    have c1 : w1.cell? ⟨w.heap.size, 1, none⟩ = some (.int .u64 r.a) := same_cell hS1 (by simp [World.cell?_alloc_new])
    have c2 : w1.cell? ⟨w.heap.size, 2, none⟩ = some (.slice (some ⟨fb, fo, none⟩) fn fc) := same_cell hS1 (by simp [World.cell?_alloc_new])
    have hS0 : Same w w1 := ((Same.refl w).alloc _).drawn hD1
    have hk1 := hk.same hS0
    have hc1 : ∀ j, j < fn → w1.cell? ⟨fb, fo + j, none⟩ = some (.int .u64 (r.f.getD j 0)) := fun j hj => same_cell hS0 (hcells j hj)
    have HC := Lib.hid hc1
    have hbd := hf.bd
    have HBd := Lib.hid hbd
    obtain ⟨bx, hbx⟩ : ∃ bx, bx = w.heap.size := ⟨_, rfl⟩
    rw [← hbx] at c0 c1 c2 ⊢
    clear hc1 hcells hk hf hD1 hS1 hbx hbd
    go_wp2_with fail
    go_loopw [5, 6, 46] (fun s5 s6 s46 wr => ∃ (i : Nat) (left last : Int), s5 = .int .u64 left ∧ s6 = .int .u64 last ∧ s46 = .int .i64 i ∧ i ≤ fn ∧ FacAt S r i left last ∧ Drawn w1 wr) (fun _ _ s46 _ => fn - (intOf s46).toNat)
    case atStart => exact ⟨0, _, _, rfl, rfl, rfl, by omega, HW.out, Drawn.refl _⟩
    case round =>
      obtain ⟨i, left, last, rfl, rfl, rfl, hi, hat, hDr⟩ := hrel
      have hSr := hDr.below
      have c0' := same_cell hSr c0
      have c1' := same_cell hSr c1
      have c2' := same_cell hSr c2
      have HAt := Lib.hid hat
      obtain ⟨l0, l1, k0, k1, _⟩ := hat
      by_cases hlt : i < fn
      · obtain ⟨f, hf⟩ : ∃ f, f = r.f.getD i 0 := ⟨_, rfl⟩
        have hcf : wr.cell? ⟨fb, fo + i, none⟩ = some (.int .u64 f) := by rw [hf]; exact same_cell hSr (HC.out i hlt)
        have hfu : U64 f := by rw [hf]; exact HBd.out i
        have hdrop : r.f.drop i = f :: r.f.drop (i + 1) := by rw [hf]; exact drop_getD (by rw [HL.out]; exact hlt)
        have heq : RowOk S r ↔ FacOk S r left last (f :: r.f.drop (i + 1)) := by rw [← hdrop]; exact H0.out.trans HAt.out.eq
        have HEq := Lib.hid heq
        have hask := (hk1.same hSr).asked hfu
        have HAsk := Lib.hid hask
        obtain ⟨f0, f1⟩ := hfu
        clear hf hdrop heq hask c0 c1 c2
        by_cases g1 : f ≤ last
        · have hb := rowB_no (S := S) (r := r) (fun h => by have := (HEq.out.1 h).1; omega)
          have HB := Lib.hid hb
          clear hb
          go_wp2_with fail
          go_quiet (fail)
          go_wp2_with fail
          go_ret
          exact ⟨ret_bool HB.out.symm, (hS0.trans hSr).drewN _⟩
        have f2 : 2 ≤ f := by omega
        have g1' : last < f := by omega
        have g1d : decide (f ≤ last) = false := decide_eq_false g1
        have hf0 : ¬ f = 0 := by omega
        obtain ⟨z, hz⟩ : ∃ z, left % f = z := ⟨_, rfl⟩
        have htm : left.tmod f = z := by rw [← hz]; exact Int.tmod_eq_emod_of_nonneg (by omega)
        have HZ := Lib.hid hz
        clear hz
        clear g1
        by_cases g2 : S f
        case neg =>
          have hb := rowB_no (S := S) (r := r) (fun h => g2 (HEq.out.1 h).2.1)
          have HB := Lib.hid hb
          have hrun := HAsk.out.2 g2
          clear hb g2
          go_wp2_with fail
          go_quiet (fail)
          go_wp2_with fail
          go_ret
          exact ⟨ret_bool HB.out.symm, (hS0.trans hSr).drewN _⟩
        have hrun := HAsk.out.1 g2
        by_cases g3 : z = 0
        case neg =>
          have hb := rowB_no (S := S) (r := r) (fun h => g3 (by rw [← HZ.out]; exact (HEq.out.1 h).2.2.1))
          have HB := Lib.hid hb
          have g3' : ((z : Int) != 0) = true := by rw [bne_iff_ne]; exact g3
          clear hb g2 g3
          go_wp2_with fail
          go_quiet (fail)
          go_wp2_with fail
          go_ret
          exact ⟨ret_bool HB.out.symm, (hS0.trans hSr).drewN _⟩
        have g3' : ((z : Int) != 0) = false := by rw [g3]; rfl
        have q1 : 0 ≤ (r.n - 1) / f := Int.ediv_nonneg (by omega) f0
        have q2 : (r.n - 1) / f ≤ r.n - 1 := Int.ediv_le_self f (by omega)
        obtain ⟨q, hq⟩ : ∃ q, (r.n - 1) / f = q := ⟨_, rfl⟩
        rw [hq] at q1 q2
        have eq1 : IntKind.u64.wrap (r.n - 1) = r.n - 1 := by rw [IntKind.wrap_u64]; omega
        have eq2 : IntKind.u64.wrap ((r.n - 1).tdiv f) = q := by rw [Int.tdiv_eq_ediv_of_nonneg (by omega), hq, IntKind.wrap_u64]; omega
        obtain ⟨p, hp⟩ : ∃ p, powI r.a q r.n = p := ⟨_, rfl⟩
        have hcall : ∀ W, Calls Try.prog 21 #[.int .u64 r.a, .int .u64 q, .int .u64 r.n] W fun e w' => e = .returned (.int .u64 p) ∧ Drawn W w' := fun W => by
          rw [← hp]; exact pow_any _ _ _ a0 q1 (by omega) n0 W
        have HCall := Lib.hid hcall
        clear hcall
        by_cases g4 : p = 1
        · have hb := rowB_no (S := S) (r := r) (fun h => (HEq.out.1 h).2.2.2.1 (by rw [hq, hp]; exact g4))
          have HB := Lib.hid hb
          have g4' : ((p : Int) == 1) = true := by rw [g4]; rfl
          clear hb g2 g3 g4 hp hq
          go_wp2_with fail
          go_quiet ((go_at_call 21; exact quiet_drawn (HCall.out _)))
          go_wp2_with fail
          go_ret
          exact ⟨ret_bool HB.out.symm, (hS0.trans hSr).drewN _⟩
        have g4' : ((p : Int) == 1) = false := by rw [beq_eq_false_iff_ne]; exact g4
        have hnext : ∀ l : Int, 1 ≤ l → l % f ≠ 0 → strip f.toNat l.toNat = strip f.toNat left.toNat → l < 18446744073709551616 → FacAt S r (i + 1) l f := by
          intro l hl0 hl1 hl2 hl3
          refine ⟨hl0, hl3, by omega, f1, ?_⟩
          rw [← H0.out, HEq.out]
          have e : (strip f.toNat left.toNat : Int) = l := by
            rw [← hl2, strip_end (fun h => hl1 (by
              obtain ⟨l, rfl⟩ := Int.eq_ofNat_of_zero_le (show 0 ≤ l by omega)
              obtain ⟨f, rfl⟩ := Int.eq_ofNat_of_zero_le f0
              simp only [Int.toNat_natCast] at h
              rw [← Int.natCast_emod, h]; rfl))]
            omega
          constructor
          · intro h; rw [← e]; exact h.2.2.2.2
          · intro h; exact ⟨by omega, g2, by rw [HZ.out]; exact g3, by rw [hq, hp]; exact g4, by rw [e]; exact h⟩
        have HN := Lib.hid hnext
        clear hnext g2 g3 g4 hp hq
        go_wp2_with fail
        go_quiet ((go_at_call 21; exact quiet_drawn (HCall.out _)))
        clear hrun eq1 eq2 htm g3' g4' q1 q2 g1d
        go_wp2_with fail
        go_loop [5] (fun s5 => ∃ l : Int, s5 = .int .u64 l ∧ 1 ≤ l ∧ l < 18446744073709551616 ∧ Hid (strip f.toNat l.toNat = strip f.toNat left.toNat)) (fun s5 => (intOf s5).toNat)
        case atStart => exact ⟨left, rfl, l0, l1, rfl⟩
        case round =>
          obtain ⟨l, rfl, m0, m1, hst⟩ := hrel
          by_cases hz : l % f = 0
          · have d1 : l / f < l := Int.ediv_lt_self_of_pos_of_ne_one (by omega) (by omega)
            have d2 : 1 ≤ l / f := by
              have := Int.mul_ediv_add_emod l f
              rw [hz, Int.add_zero] at this
              have d3 : 0 ≤ l / f := Int.ediv_nonneg (by omega) f0
              rcases Int.lt_or_le 0 (l / f) with h | h
              · omega
              · have : l / f = 0 := by omega
                rename_i hthis
                rw [this] at hthis
                omega
            have e1 : strip f.toNat l.toNat = strip f.toNat (l / f).toNat := by
              obtain ⟨l, rfl⟩ := Int.eq_ofNat_of_zero_le (show 0 ≤ l by omega)
              obtain ⟨f, rfl⟩ := Int.eq_ofNat_of_zero_le f0
              simp only [Int.toNat_natCast]
              rw [strip_step (by omega) (by omega) (by rw [← Int.natCast_emod] at hz; omega)]
              rfl
            have hst2 := Lib.hid (e1.symm.trans hst.out)
            have hz' : ((l % f : Int) == 0) = true := by rw [hz]; rfl
            clear hz e1
            go_wp2_with fail
            go_round
            case rel => exact ⟨l / f, rfl, d2, by omega, hst2⟩
            case measure => simp [intOf]; omega
          · have hz' : ((l % f : Int) == 0) = false := by rw [beq_eq_false_iff_ne]; exact hz
            have hnx := HN.out l m0 hz hst.out m1
            have HX := Lib.hid hnx
            clear hz hnx hst
            go_wp2_with fail
            go_roundw
            case rel => exact ⟨i + 1, l, f, rfl, rfl, by go_num, by omega, HX.out, hDr.drewN _⟩
            case measure => simp [intOf]; omega
      · obtain rfl : i = fn := by omega
        have hdrop : r.f.drop i = [] := List.drop_eq_nil_of_le (by rw [HL.out]; omega)
        have heq := H0.out.trans HAt.out.eq
        rw [hdrop] at heq
        have hb : (left == 1) = rowB S r := by
          by_cases h : left = 1
          · rw [rowB_yes (heq.2 h), h]; rfl
          · rw [rowB_no (fun x => h (heq.1 x)), beq_eq_false_iff_ne]; exact h
        have HB := Lib.hid hb
        clear heq hb hdrop
        go_wp2_with fail
        go_ret
        exact ⟨ret_bool HB.out, hS0.trans hSr⟩
  · have hb := rowB_no (S := S) (r := r) (fun h => hA ⟨h.1, h.2.1, by have := h.2.2.1; omega, by have := h.2.2.2.1; omega⟩)
    have HB := Lib.hid hb
    have HL := Lib.hid hlen
    clear hb hlen
    by_cases h1 : 3 ≤ r.n
    · by_cases h2 : r.n ≤ 4611686018427387904
      · by_cases h3 : fn = 0
        · subst h3
          clear hA
          go_enter Try.func31, Try.ntmps31
          go_wp2_with fail
          go_ret
          exact ⟨ret_bool HB.out.symm, (Same.refl w).alloc _⟩
        · have h4 : (16 : Int) < fn := by omega
          have fnz : (((fn : Nat) : Int) == 0) = false := by rw [beq_eq_false_iff_ne]; omega
          clear hA h3
          go_enter Try.func31, Try.ntmps31
          go_wp2_with fail
          go_ret
          exact ⟨ret_bool HB.out.symm, (Same.refl w).alloc _⟩
      · clear hA
        go_enter Try.func31, Try.ntmps31
        go_wp2_with fail
        go_ret
        exact ⟨ret_bool HB.out.symm, (Same.refl w).alloc _⟩
    · clear hA
      go_enter Try.func31, Try.ntmps31
      go_wp2_with fail
      go_ret
      exact ⟨ret_bool HB.out.symm, (Same.refl w).alloc _⟩
end Go.Proofs.Ytdinemhodnleeaa
