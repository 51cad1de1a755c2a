/- Merged texts: Ref2, Ref2B, RGrpExp, RGrpOver, RGrpIn, RGrpRight, PrimeN, Seven, SmallA. -/
import Derived.Test.YtlnkpbaibnfhhaaW3
import Derived.Test.YtlnkpbaibnfhhaaW2
import Derived.Outline
import Derived.Handy
set_option linter.unusedVariables false
set_option linter.unusedSimpArgs false
/- The reference of layer 2: ahead, holds, Holds, Proved. -/
namespace Go.Proofs.Ytlnkpbaibnfhhaa
open Go.RowKit NT
def Ahead (rs : List RowD) (k : Nat) (f : Int) : Prop := ∃ i, i < k ∧ (rs.getD i default).n = f
noncomputable def aheadB (rs : List RowD) (k : Nat) (f : Int) : Bool := open Classical in decide (Ahead rs k f)
theorem aheadB_yes {rs : List RowD} {k : Nat} {f : Int} (h : Ahead rs k f) : aheadB rs k f = true := by unfold aheadB; classical exact decide_eq_true h
theorem aheadB_no {rs : List RowD} {k : Nat} {f : Int} (h : ¬ Ahead rs k f) : aheadB rs k f = false := by unfold aheadB; classical exact decide_eq_false h
theorem ahead_any (a : Option Addr) (n cap k : Nat) (f : Int) (rs : List RowD) (w : World) (h : RowsAt w a n rs) (hk : k ≤ n) :
    Calls Try.prog 64 #[.slice a n cap, .int .i64 k, .int .u64 f] w fun e w' => e = .returned (.bool (aheadB rs k f)) ∧ w = w' := by
  have hsmall := h.small
  go_enter Try.func64, Try.ntmps64
  go_wp2_with fail
  go_loop [7] (fun s7 => ∃ i : Nat, s7 = .int .i64 i ∧ i ≤ k ∧ Hid (¬ Ahead rs i f)) (fun s7 => k - (intOf s7).toNat)
  case atStart => exact ⟨0, rfl, by omega, fun ⟨j, hj, _⟩ => by omega⟩
  case round =>
    obtain ⟨i, rfl, hi, hno⟩ := hrel
    by_cases hlt : i < k
    · obtain ⟨b, off, ha, hrows⟩ := h.rows (by omega)
      subst ha
      obtain ⟨x, hx⟩ : ∃ x, x = (rs.getD i default).n := ⟨_, rfl⟩
      have c0 : w.cell? ⟨b, off + i * 3, none⟩ = some (.int .u64 x) := by rw [hx]; exact (hrows i (by omega)).n
      have HX := Lib.hid hx
      have HR := Lib.hid hrows
      clear hx hrows
      by_cases he : x = f
      · have he' : ((x : Int) == f) = true := by rw [he]; simp
        have hb := aheadB_yes (rs := rs) (k := k) (f := f) ⟨i, hlt, by rw [← HX.out]; exact he⟩
        have HB := Lib.hid hb
        clear he hb
        go_wp2_with fail
        go_ret
        exact ⟨ret_bool HB.out.symm, rfl⟩
      · have he' : ((x : Int) == f) = false := by rw [beq_eq_false_iff_ne]; exact he
        have hn2 : ¬ Ahead rs (i + 1) f := by
          rintro ⟨j, hj, e⟩
          by_cases hji : j = i
          · subst hji; rw [← HX.out] at e; exact he e
          · exact hno ⟨j, by omega, e⟩
        have HN := Lib.hid hn2
        clear he hn2 hno
        go_wp2_with fail
        go_round
        case rel => exact ⟨i + 1, by go_num, by omega, HN⟩
        case measure => simp [intOf]; omega
    · obtain rfl : i = k := by omega
      have hb := aheadB_no hno.out
      have HB := Lib.hid hb
      clear hb hno
      go_wp2_with fail
      go_ret
      exact ⟨ret_bool HB.out.symm, rfl⟩
/-- the factor before place i, or 1 -/
def prevOf (r : RowD) (i : Nat) : Int := if i = 0 then 1 else r.f.getD (i - 1) 0
/-- the tests of one factor that the reference makes ahead of the division -/
def Passes (S : Int → Prop) (f prev left : Int) : Prop := prev < f ∧ S f ∧ left % f = 0
set_option maxRecDepth 100000 in
set_option maxHeartbeats 8000000 in
theorem rholds (a : Option Addr) (n cap k : Nat) (rs : List RowD) (w : World) (h : RowsAt w a n rs) (hk : k < n) :
    Calls Try.prog 67 #[.slice a n cap, .int .i64 k] w fun e w' => e = .returned (.bool (rowB (Kn rs k) (rs.getD k default))) ∧ Same w w' := by
  have hlen := h.len
  have hsmall := h.small
  obtain ⟨b, off, ha, hrows⟩ := h.rows (by omega)
  subst ha
  have hrow := hrows k hk
  obtain ⟨r, hr⟩ : ∃ r, r = rs.getD k default := ⟨_, rfl⟩
  rw [← hr] at hrow ⊢
  have HRr := Lib.hid hr
  clear hr
  obtain ⟨c0, c1, ⟨fa, fn, fc, c2, hf⟩, ⟨n0, n1⟩, ⟨a0, a1⟩⟩ := hrow
  have hflen := hf.len
  have hfsmall := hf.small
  have HRows := Lib.hid hrows
  have HLen := Lib.hid hlen
  clear hrows hlen
  obtain ⟨S, hS⟩ : ∃ S, S = Kn rs k := ⟨_, rfl⟩
  rw [← hS]
  have HKn := Lib.hid hS
  clear hS
  by_cases hA : 3 ≤ r.n ∧ r.n ≤ 4611686018427387904 ∧ 1 ≤ fn ∧ fn ≤ 16
  · obtain ⟨hA1, hA2, hA3, hA4⟩ := hA
    obtain ⟨fb, fo, rfl, hcells⟩ := hf.cells (by omega)
    have d1 : decide (r.n < 3) = false := decide_eq_false (by omega)
    have d2 : decide ((4611686018427387904 : Int) < r.n) = false := decide_eq_false (by omega)
    have d3 : decide ((fn : Int) < 1) = false := decide_eq_false (by omega)
    have d4 : decide ((16 : Int) < fn) = false := decide_eq_false (by omega)
    have hwf : FacAt S r 0 (r.n - 1) (prevOf r 0) := ⟨by omega, by omega, by simp [prevOf], by simp [prevOf], by simp [prevOf]⟩
    have HW := Lib.hid hwf
    have HL := Lib.hid hflen
    have hbd := hf.bd
    have HBd := Lib.hid hbd
    obtain ⟨bx, hbx⟩ : ∃ bx, bx = w.heap.size := ⟨_, rfl⟩
    have HC0 := Lib.hid hcells
    clear hwf hflen hbd hcells
    go_enter Try.func67, Try.ntmps67
    go_upto_region 5 with fail
    obtain ⟨w1, hw1⟩ : ∃ w1, w1 = w.alloc (.cells #[.int .u64 r.n, .int .u64 r.a, .slice (some ⟨fb, fo, none⟩) fn fc] 55) := ⟨_, rfl⟩
    have hS0 : Same w w1 := by rw [hw1]; exact (Same.refl w).alloc _
    have z0 : w1.cell? ⟨bx, 0, none⟩ = some (.int .u64 r.n) := by rw [hw1, hbx]; simp [World.cell?_alloc_new]
    have z1 : w1.cell? ⟨bx, 1, none⟩ = some (.int .u64 r.a) := by rw [hw1, hbx]; simp [World.cell?_alloc_new]
    have z2 : w1.cell? ⟨bx, 2, none⟩ = some (.slice (some ⟨fb, fo, none⟩) fn fc) := by rw [hw1, hbx]; simp [World.cell?_alloc_new]
    rw [← hw1, ← hbx]
    have hrs1 := h.same hS0
    have hc1 : ∀ j, j < fn → w1.cell? ⟨fb, fo + j, none⟩ = some (.int .u64 (r.f.getD j 0)) := fun j hj => same_cell hS0 (HC0.out j hj)
    have HC := Lib.hid hc1
    clear hw1 hbx hc1 HC0 c0 c1 c2 hf h
    go_wp2_with fail
    clear d1 d2 d3 d4
    go_loopw [6, 7] (fun s6 s7 wr => ∃ (i : Nat) (left : Int), s6 = .int .u64 left ∧ s7 = .int .i64 i ∧ i ≤ fn ∧ FacAt S r i left (prevOf r i) ∧ Drawn w1 wr) (fun _ s7 _ => fn - (intOf s7).toNat)
    case atStart => exact ⟨0, _, rfl, rfl, by omega, HW.out, Drawn.refl _⟩
    case round =>
      obtain ⟨i, left, rfl, rfl, hi, hat, hDr⟩ := hrel
      have hSr := hDr.below
      have c0' := same_cell hSr z0
      have c1' := same_cell hSr z1
      have c2' := same_cell hSr z2
      have HAt := Lib.hid hat
      obtain ⟨prev, hprev⟩ : ∃ prev, prev = prevOf r i := ⟨_, rfl⟩
      rw [← hprev] at hat HAt
      obtain ⟨l0, l1, k0, k1, heqv⟩ := hat
      have HEqv := Lib.hid heqv
      clear heqv z0 z1 z2
      by_cases hlt : i < fn
      · obtain ⟨f, hf⟩ : ∃ f, f = r.f.getD i 0 := ⟨_, rfl⟩
        have hcf : wr.cell? ⟨fb, fo + i, none⟩ = some (.int .u64 f) := by rw [hf]; exact same_cell hSr (HC.out i hlt)
        have hfu : U64 f := by rw [hf]; exact HBd.out i
        have hdrop : r.f.drop i = f :: r.f.drop (i + 1) := by rw [hf]; exact drop_getD (by rw [HL.out]; exact hlt)
        obtain ⟨f0, f1⟩ := hfu
        have hcp : 0 < i → wr.cell? ⟨fb, fo + (i - 1), none⟩ = some (.int .u64 prev) := fun hi0 => by
          rw [hprev]; unfold prevOf; rw [if_neg (by omega)]; exact same_cell hSr (HC.out (i - 1) (by omega))
        have HCp := Lib.hid hcp
        have hp0 : i = 0 → prev = 1 := fun e => by rw [hprev]; unfold prevOf; rw [if_pos e]
        have HP0 := Lib.hid hp0
        have hrs2 := hrs1.same hSr
        have HRs2 := Lib.hid hrs2
        have hsf : f ≠ 2 → (S f ↔ Ahead rs k f) := fun h2 => by
          rw [HKn.out]; exact ⟨fun x => x.resolve_left h2, .inr⟩
        have HSf := Lib.hid hsf
        have hs2 : S 2 := by rw [HKn.out]; exact .inl rfl
        have HS2 := Lib.hid hs2
        have hnx : f = prevOf r (i + 1) := by rw [hf]; unfold prevOf; rw [if_neg (by omega)]; rfl
        have HNx := Lib.hid hnx
        obtain ⟨c, hc⟩ : ∃ c : Bool, c = false ↔ Passes S f prev left := by
          classical exact ⟨!decide (Passes S f prev left), by simp⟩
        have Hc := Lib.hid hc
        have heq : FacOk S r (r.n - 1) 1 r.f ↔ FacOk S r left prev (f :: r.f.drop (i + 1)) := by rw [← hdrop]; exact HEqv.out
        have HEq := Lib.hid heq
        have f2 : 2 ≤ f ∨ f < 2 := by omega
        clear hf hdrop hprev hcp hp0 hrs2 hsf hs2 hnx hc heq hrs1
        go_upto_region 9 with fail
        go_cut [80] (fun s80 wx => s80 = .bool c ∧ wr = wx)
        case first =>
          by_cases g1 : f < 2
          · have hv : c = true := by
              cases c
              · have := (Hc.out.1 rfl).1; omega
              · rfl
            have d1 : decide (f < 2) = true := decide_eq_true g1
            have HV := Lib.hid hv
            clear hv f2
            go_wp2_with fail
            go_meet
            exact ⟨by rw [HV.out], rfl⟩
          have d1 : decide (f < 2) = false := decide_eq_false g1
          have hf0 : ¬ f = 0 := by omega
          obtain ⟨z, hz⟩ : ∃ z, left % f = z := ⟨_, rfl⟩
          have HZ := Lib.hid hz
          by_cases g2 : 0 < i ∧ f ≤ prev
          · obtain ⟨g3, g4⟩ := g2
            have hv : c = true := by
              cases c
              · have := (Hc.out.1 rfl).1; omega
              · rfl
            have HV := Lib.hid hv
            have hcp := HCp.out g3
            have d2 : decide ((0 : Int) < i) = true := decide_eq_true (by omega)
            have d3 : decide (f ≤ prev) = true := decide_eq_true g4
            clear hv hz f2
            go_wp2_with fail
            go_meet
            exact ⟨by rw [HV.out], rfl⟩
          have hpf : prev < f := by
            by_cases hi0 : 0 < i
            · omega
            · have := HP0.out (by omega); omega
          have d3 : decide (f ≤ prev) = false := decide_eq_false (by omega)
          clear hz f2 g1 g2
          by_cases hi0 : 0 < i
          · have hcp1 := HCp.out hi0
            have d2 : decide ((0 : Int) < i) = true := decide_eq_true (by omega)
            by_cases g5 : f = 2
            · have e2 : ((f : Int) != 2) = false := by rw [g5]; rfl
              have G5 := Lib.hid g5
              clear g5
              by_cases g6 : z = 0
              · have hv : c = false := Hc.out.2 ⟨hpf, by rw [G5.out]; exact HS2.out, by rw [HZ.out]; exact g6⟩
                have HV := Lib.hid hv
                have e3 : ((z : Int) != 0) = false := by rw [g6]; rfl
                clear hv g6 hpf
                go_wp2_with fail
                go_meet
                exact ⟨by rw [HV.out]; first | done | rw [HZ.out, e3], rfl⟩
              · have hv : c = true := by
                  cases c
                  · exact absurd ((Hc.out.1 rfl).2.2) (by rw [HZ.out]; exact g6)
                  · rfl
                have HV := Lib.hid hv
                have e3 : ((z : Int) != 0) = true := by rw [bne_iff_ne]; exact g6
                clear hv g6 hpf
                go_wp2_with fail
                go_meet
                exact ⟨by rw [HV.out]; first | done | rw [HZ.out, e3], rfl⟩
            · have e2 : ((f : Int) != 2) = true := by rw [bne_iff_ne]; exact g5
              by_cases g7 : Ahead rs k f
              · have hab := aheadB_yes g7
                have HAb := Lib.hid hab
                have hsf := (HSf.out g5).2 g7
                have HSF := Lib.hid hsf
                clear hab hsf g5 g7
                by_cases g6 : z = 0
                · have hv : c = false := Hc.out.2 ⟨hpf, HSF.out, by rw [HZ.out]; exact g6⟩
                  have HV := Lib.hid hv
                  have e3 : ((z : Int) != 0) = false := by rw [g6]; rfl
                  clear hv g6 hpf
                  go_wp2_with (go_at_call 64; refine (ahead_any _ n cap k f rs _ HRs2.out (by omega)).mono ?_; rintro e1 w' ⟨rfl, rfl⟩; rw [HAb.out])
                  go_meet
                  exact ⟨by rw [HV.out]; first | done | rw [HZ.out, e3], rfl⟩
                · have hv : c = true := by
                    cases c
                    · exact absurd ((Hc.out.1 rfl).2.2) (by rw [HZ.out]; exact g6)
                    · rfl
                  have HV := Lib.hid hv
                  have e3 : ((z : Int) != 0) = true := by rw [bne_iff_ne]; exact g6
                  clear hv g6 hpf
                  go_wp2_with (go_at_call 64; refine (ahead_any _ n cap k f rs _ HRs2.out (by omega)).mono ?_; rintro e1 w' ⟨rfl, rfl⟩; rw [HAb.out])
                  go_meet
                  exact ⟨by rw [HV.out]; first | done | rw [HZ.out, e3], rfl⟩
              · have hab := aheadB_no g7
                have HAb := Lib.hid hab
                have hv : c = true := by
                  cases c
                  · exact absurd ((HSf.out g5).1 (Hc.out.1 rfl).2.1) g7
                  · rfl
                have HV := Lib.hid hv
                clear hab hv g5 g7 hpf
                go_wp2_with (go_at_call 64; refine (ahead_any _ n cap k f rs _ HRs2.out (by omega)).mono ?_; rintro e1 w' ⟨rfl, rfl⟩; rw [HAb.out])
                go_meet
                exact ⟨by rw [HV.out]; first | done | rw [HZ.out, e3], rfl⟩
          · have d2 : decide ((0 : Int) < i) = false := decide_eq_false (by omega)
            by_cases g5 : f = 2
            · have e2 : ((f : Int) != 2) = false := by rw [g5]; rfl
              have G5 := Lib.hid g5
              clear g5
              by_cases g6 : z = 0
              · have hv : c = false := Hc.out.2 ⟨hpf, by rw [G5.out]; exact HS2.out, by rw [HZ.out]; exact g6⟩
                have HV := Lib.hid hv
                have e3 : ((z : Int) != 0) = false := by rw [g6]; rfl
                clear hv g6 hpf
                go_wp2_with fail
                go_meet
                exact ⟨by rw [HV.out]; first | done | rw [HZ.out, e3], rfl⟩
              · have hv : c = true := by
                  cases c
                  · exact absurd ((Hc.out.1 rfl).2.2) (by rw [HZ.out]; exact g6)
                  · rfl
                have HV := Lib.hid hv
                have e3 : ((z : Int) != 0) = true := by rw [bne_iff_ne]; exact g6
                clear hv g6 hpf
                go_wp2_with fail
                go_meet
                exact ⟨by rw [HV.out]; first | done | rw [HZ.out, e3], rfl⟩
            · have e2 : ((f : Int) != 2) = true := by rw [bne_iff_ne]; exact g5
              by_cases g7 : Ahead rs k f
              · have hab := aheadB_yes g7
                have HAb := Lib.hid hab
                have hsf := (HSf.out g5).2 g7
                have HSF := Lib.hid hsf
                clear hab hsf g5 g7
                by_cases g6 : z = 0
                · have hv : c = false := Hc.out.2 ⟨hpf, HSF.out, by rw [HZ.out]; exact g6⟩
                  have HV := Lib.hid hv
                  have e3 : ((z : Int) != 0) = false := by rw [g6]; rfl
                  clear hv g6 hpf
                  go_wp2_with (go_at_call 64; refine (ahead_any _ n cap k f rs _ HRs2.out (by omega)).mono ?_; rintro e1 w' ⟨rfl, rfl⟩; rw [HAb.out])
                  go_meet
                  exact ⟨by rw [HV.out]; first | done | rw [HZ.out, e3], rfl⟩
                · have hv : c = true := by
                    cases c
                    · exact absurd ((Hc.out.1 rfl).2.2) (by rw [HZ.out]; exact g6)
                    · rfl
                  have HV := Lib.hid hv
                  have e3 : ((z : Int) != 0) = true := by rw [bne_iff_ne]; exact g6
                  clear hv g6 hpf
                  go_wp2_with (go_at_call 64; refine (ahead_any _ n cap k f rs _ HRs2.out (by omega)).mono ?_; rintro e1 w' ⟨rfl, rfl⟩; rw [HAb.out])
                  go_meet
                  exact ⟨by rw [HV.out]; first | done | rw [HZ.out, e3], rfl⟩
              · have hab := aheadB_no g7
                have HAb := Lib.hid hab
                have hv : c = true := by
                  cases c
                  · exact absurd ((HSf.out g5).1 (Hc.out.1 rfl).2.1) g7
                  · rfl
                have HV := Lib.hid hv
                clear hab hv g5 g7 hpf
                go_wp2_with (go_at_call 64; refine (ahead_any _ n cap k f rs _ HRs2.out (by omega)).mono ?_; rintro e1 w' ⟨rfl, rfl⟩; rw [HAb.out])
                go_meet
                exact ⟨by rw [HV.out]; first | done | rw [HZ.out, e3], rfl⟩
        case rest =>
          obtain ⟨rfl, rfl⟩ := hcut
          cases c with
          | true =>
            have hb := rowB_no (S := S) (r := r) (fun h => by
              have h2 := HEq.out.1 h.2.2.2.2.2
              have := Hc.out.2 ⟨h2.1, h2.2.1, h2.2.2.1⟩
              cases this)
            have HB := Lib.hid hb
            clear hb f2
            go_wp2_with fail
            go_ret
            exact ⟨ret_bool HB.out.symm, hS0.trans hSr⟩
          | false =>
            obtain ⟨hpf, hsf, hlf⟩ := Hc.out.1 rfl
            have f2' : 2 ≤ f := by omega
            have hf0 : ¬ f = 0 := by omega
            have q1 : 0 ≤ (r.n - 1) / f := Int.ediv_nonneg (by omega) f0
            have q2 : (r.n - 1) / f ≤ r.n - 1 := Int.ediv_le_self f (by omega)
            obtain ⟨q, hq⟩ : ∃ q, (r.n - 1) / f = q := ⟨_, rfl⟩
            rw [hq] at q1 q2
            have eq1 : IntKind.u64.wrap (r.n - 1) = r.n - 1 := by rw [IntKind.wrap_u64]; omega
            have eq2 : IntKind.u64.wrap ((r.n - 1).tdiv f) = q := by rw [Int.tdiv_eq_ediv_of_nonneg (by omega), hq, IntKind.wrap_u64]; omega
            have E1 := Lib.hid eq1
            have E2 := Lib.hid eq2
            obtain ⟨p, hp⟩ : ∃ p, powI r.a q r.n = p := ⟨_, rfl⟩
            have hcall : ∀ W, Calls Try.prog 59 #[.int .u64 r.a, .int .u64 q, .int .u64 r.n] W fun e w' => e = .returned (.int .u64 p) ∧ Drawn W w' := fun W => by
              rw [← hp]; exact rpow_any _ _ _ a0 q1 (by omega) n0 W
            have HCall := Lib.hid hcall
            have hnext : ∀ l : Int, 1 ≤ l → l % f ≠ 0 → strip f.toNat l.toNat = strip f.toNat left.toNat → l < 18446744073709551616 → (p = 1 → ¬ FacOk S r (r.n - 1) 1 r.f) ∧ (p ≠ 1 → FacAt S r (i + 1) l (prevOf r (i + 1))) := by
              intro l hl0 hl1 hl2 hl3
              refine ⟨fun g4 h => (HEq.out.1 h).2.2.2.1 (by rw [hq, hp]; exact g4), fun g4 => ⟨hl0, hl3, by rw [← HNx.out]; omega, by rw [← HNx.out]; exact f1, ?_⟩⟩
              rw [HEq.out, ← HNx.out]
              have e : (strip f.toNat left.toNat : Int) = l := by
                rw [← hl2, strip_end (fun h => hl1 (by
                  obtain ⟨l, rfl⟩ := Int.eq_ofNat_of_zero_le (show 0 ≤ l by omega)
                  obtain ⟨f, rfl⟩ := Int.eq_ofNat_of_zero_le f0
                  simp only [Int.toNat_natCast] at h
                  rw [← Int.natCast_emod, h]; rfl))]
                omega
              constructor
              · intro h; rw [← e]; exact h.2.2.2.2
              · intro h; exact ⟨hpf, hsf, hlf, by rw [hq, hp]; exact g4, by rw [e]; exact h⟩
            have HN := Lib.hid hnext
            clear hnext hcall hsf hlf hp hq eq1 eq2 f2 hpf
            go_wp2_with fail
            go_loop [6] (fun s6 => ∃ l : Int, s6 = .int .u64 l ∧ 1 ≤ l ∧ l < 18446744073709551616 ∧ Hid (strip f.toNat l.toNat = strip f.toNat left.toNat)) (fun s6 => (intOf s6).toNat)
            case atStart => exact ⟨left, rfl, l0, l1, rfl⟩
            case round =>
              obtain ⟨l, rfl, m0, m1, hst⟩ := hrel
              by_cases hz : l % f = 0
              · obtain ⟨d1, d2, e1⟩ := strip_div m0 f2' hz
                have hst2 := Lib.hid (e1.symm.trans hst.out)
                have hz' : ((l % f : Int) == 0) = true := by rw [hz]; rfl
                clear hz e1
                go_wp2_with fail
                go_round
                case rel => exact ⟨l / f, rfl, d2, by omega, hst2⟩
                case measure => simp [intOf]; omega
              · have hz' : ((l % f : Int) == 0) = false := by rw [beq_eq_false_iff_ne]; exact hz
                have hnx := HN.out l m0 hz hst.out m1
                have HX := Lib.hid hnx
                clear hz hnx hst
                go_wp2_with fail
                have eq1 := E1.out
                have eq2 := E2.out
                by_cases g4 : p = 1
                · have hb := rowB_no (S := S) (r := r) (fun h => HX.out.1 g4 h.2.2.2.2.2)
                  have HB := Lib.hid hb
                  have g4' : ((p : Int) == 1) = true := by rw [g4]; rfl
                  clear hb g4
                  go_quiet ((go_at_call 59; exact quiet_drawn (HCall.out _)))
                  clear eq1 eq2
                  go_wp2_with fail
                  go_ret
                  exact ⟨ret_bool HB.out.symm, (hS0.trans hSr).drewN _⟩
                · have g4' : ((p : Int) == 1) = false := by rw [beq_eq_false_iff_ne]; exact g4
                  have HX2 := Lib.hid (HX.out.2 g4)
                  clear g4
                  go_quiet ((go_at_call 59; exact quiet_drawn (HCall.out _)))
                  clear eq1 eq2
                  go_wp2_with fail
                  go_roundw
                  case rel => exact ⟨i + 1, l, rfl, by go_num, by omega, HX2.out, hDr.drewN _⟩
                  case measure => simp [intOf]; omega
      · obtain rfl : i = fn := by omega
        have hdrop : r.f.drop i = [] := List.drop_eq_nil_of_le (by rw [HL.out]; omega)
        have heq := HEqv.out
        rw [hdrop] at heq
        obtain ⟨p, hp⟩ : ∃ p, powI r.a (r.n - 1) r.n = p := ⟨_, rfl⟩
        have hcall : ∀ W, Calls Try.prog 59 #[.int .u64 r.a, .int .u64 (r.n - 1), .int .u64 r.n] W fun e w' => e = .returned (.int .u64 p) ∧ Drawn W w' := fun W => by
          rw [← hp]; exact rpow_any _ _ _ a0 (by omega) (by omega) n0 W
        have HCall := Lib.hid hcall
        have hb : rowB S r = (left == 1 && p == 1) := by
          by_cases h : left = 1
          · by_cases hp1 : p = 1
            · rw [rowB_yes ⟨hA1, hA2, by have := HL.out; omega, by have := HL.out; omega, by rw [hp]; exact hp1, heq.2 h⟩, h, hp1]; rfl
            · rw [rowB_no (fun x => hp1 (by rw [← hp]; exact x.2.2.2.2.1)), h, show (p == 1) = false from beq_eq_false_iff_ne.2 hp1]; rfl
          · rw [rowB_no (fun x => h (heq.1 x.2.2.2.2.2)), show (left == 1) = false from beq_eq_false_iff_ne.2 h]; rfl
        have HB := Lib.hid hb
        clear heq hb hdrop hcall hp
        by_cases h : left = 1
        · have h' : ((left : Int) == 1) = true := by rw [h]; rfl
          clear h
          go_wp2_with (go_at_call 59; refine (HCall.out _).mono ?_; rintro e1 w2 ⟨rfl, hD2⟩)
          go_ret
          exact ⟨ret_bool (by rw [HB.out, h']; simp), (hS0.trans hSr).drawn hD2⟩
        · have h' : ((left : Int) == 1) = false := by rw [beq_eq_false_iff_ne]; exact h
          clear h
          go_wp2_with fail
          go_ret
          exact ⟨ret_bool (by rw [HB.out, h']; simp), hS0.trans hSr⟩
  · have hb := rowB_no (S := S) (r := r) (fun h => hA ⟨h.1, h.2.1, by have := h.2.2.1; omega, by have := h.2.2.2.1; omega⟩)
    have HB := Lib.hid hb
    have HL := Lib.hid hflen
    clear hb hflen
    by_cases h1 : 3 ≤ r.n
    · by_cases h2 : r.n ≤ 4611686018427387904
      · by_cases h3 : fn < 1
        · clear hA
          go_enter Try.func67, Try.ntmps67
          go_wp2_with fail
          go_ret
          exact ⟨ret_bool HB.out.symm, (Same.refl w).alloc _⟩
        · have h4 : (16 : Int) < fn := by omega
          clear hA
          go_enter Try.func67, Try.ntmps67
          go_wp2_with fail
          go_ret
          exact ⟨ret_bool HB.out.symm, (Same.refl w).alloc _⟩
      · clear hA
        go_enter Try.func67, Try.ntmps67
        go_wp2_with fail
        go_ret
        exact ⟨ret_bool HB.out.symm, (Same.refl w).alloc _⟩
    · clear hA
      go_enter Try.func67, Try.ntmps67
      go_wp2_with fail
      go_ret
      exact ⟨ret_bool HB.out.symm, (Same.refl w).alloc _⟩
end Go.Proofs.Ytlnkpbaibnfhhaa
/- The reference of layer 2: Holds and Proved. -/
namespace Go.Proofs.Ytlnkpbaibnfhhaa
open Go.RowKit NT
theorem rholds_any (a : Option Addr) (n cap : Nat) (rs : List RowD) (w : World) (h : RowsAt w a n rs) :
    Calls Try.prog 63 #[.slice a n cap] w fun e w' => e = .returned (.bool (holdsB rs)) ∧ Same w w' := by
  have hlen := h.len
  have hsmall := h.small
  have HLen := Lib.hid hlen
  clear hlen
  by_cases hn : n ≤ 64
  · have h64 : decide ((64 : Int) < n) = false := decide_eq_false (by omega)
    go_enter Try.func63, Try.ntmps63
    go_wp2_with fail
    go_loopw [3] (fun s3 wr => ∃ i : Nat, s3 = .int .i64 i ∧ i ≤ n ∧ Hid (UpTo rs i) ∧ Same w wr) (fun s3 _ => n - (intOf s3).toNat)
    case atStart => exact ⟨0, rfl, by omega, fun j hj => by omega, Same.refl w⟩
    case round =>
      obtain ⟨i, rfl, hi, hup, hS⟩ := hrel
      by_cases hlt : i < n
      · go_wp2_with fail
        refine (rholds a n cap i rs _ (h.same hS) hlt).mono ?_
        rintro e1 w2 ⟨rfl, hS2⟩
        by_cases hok : RowOk (Kn rs i) (rs.getD i default)
        · rw [rowB_yes hok]
          have hup2 : Hid (UpTo rs (i + 1)) := fun j hj => by
            by_cases e : j = i
            · subst e; exact hok
            · exact hup.out j (by omega)
          have HS := Lib.hid (hS.trans hS2)
          clear hok hup hS2
          go_wp2_with fail
          go_roundw
          case rel => exact ⟨i + 1, by go_num, by omega, hup2, HS.out⟩
          case measure => simp [intOf]; omega
        · rw [rowB_no hok]
          have hb := holdsB_no (rs := rs) (fun hA => hok (hA.2 i (by rw [HLen.out]; exact hlt)))
          have HB := Lib.hid hb
          have HS := Lib.hid (hS.trans hS2)
          clear hb hok hup hS2
          go_wp2_with fail
          go_ret
          exact ⟨ret_bool HB.out.symm, HS.out⟩
      · obtain rfl : i = n := by omega
        have hb := holdsB_yes (rs := rs) ⟨by rw [HLen.out]; exact hn, by rw [HLen.out]; exact hup.out⟩
        have HB := Lib.hid hb
        clear hb hup
        go_wp2_with fail
        go_ret
        exact ⟨ret_bool HB.out.symm, hS⟩
  · have h64 : decide ((64 : Int) < n) = true := decide_eq_true (by omega)
    have hb := holdsB_no (rs := rs) (fun hA => by have := hA.1; rw [HLen.out] at this; omega)
    have HB := Lib.hid hb
    clear hb hn
    go_enter Try.func63, Try.ntmps63
    go_wp2_with fail
    go_ret
    exact ⟨ret_bool HB.out.symm, Same.refl w⟩
theorem rproved_any (x : Int) (a : Option Addr) (n cap : Nat) (rs : List RowD) (w : World) (h : RowsAt w a n rs) (hx : U64 x) :
    Calls Try.prog 57 #[.int .u64 x, .slice a n cap] w fun e w' => e = .returned (.bool (provedB x rs)) ∧ Same w w' := by
  have hlen := h.len
  by_cases hA : AllOk rs
  · have hh := holdsB_yes hA
    by_cases h2 : x = 2
    · have h2' : ((x : Int) == 2) = true := by rw [h2]; rfl
      have hb := provedB_yes (n := x) (rs := rs) ⟨hA, .inl h2⟩
      have HB := Lib.hid hb
      have HH := Lib.hid hh
      clear hb h2 hh hlen hx
      go_enter Try.func57, Try.ntmps57
      go_wp2_with fail
      refine (rholds_any a n cap rs _ h).mono ?_
      rintro e1 w1 ⟨rfl, hS⟩
      rw [HH.out]
      go_wp2_with fail
      go_ret
      exact ⟨ret_bool HB.out.symm, hS⟩
    · have h2' : ((x : Int) == 2) = false := by rw [beq_eq_false_iff_ne]; exact h2
      have hb : provedB x rs = aheadB rs n x := by
        by_cases hk : Ahead rs n x
        · rw [aheadB_yes hk]; exact provedB_yes ⟨hA, .inr (by rw [hlen]; exact hk)⟩
        · rw [aheadB_no hk]; exact provedB_no (fun hp => hk (by have := hp.2.resolve_left h2; rwa [hlen] at this))
      have HB := Lib.hid hb
      have HH := Lib.hid hh
      clear hb h2 hh hlen hx
      go_enter Try.func57, Try.ntmps57
      go_wp2_with fail
      refine (rholds_any a n cap rs _ h).mono ?_
      rintro e1 w1 ⟨rfl, hS⟩
      rw [HH.out]
      go_wp2_with fail
      refine (ahead_any a n cap n x rs _ (h.same hS) (Nat.le_refl n)).mono ?_
      rintro e1 w2 ⟨rfl, rfl⟩
      go_wp2_with fail
      go_ret
      exact ⟨ret_bool (by rw [HB.out]), hS⟩
  · have hh := holdsB_no hA
    have hb := provedB_no (n := x) (rs := rs) (fun hp => hA hp.1)
    have HB := Lib.hid hb
    have HH := Lib.hid hh
    clear hb hh hlen hx
    go_enter Try.func57, Try.ntmps57
    go_wp2_with fail
    refine (rholds_any a n cap rs _ h).mono ?_
    rintro e1 w1 ⟨rfl, hS⟩
    rw [HH.out]
    go_wp2_with fail
    go_ret
    exact ⟨ret_bool HB.out.symm, hS⟩
end Go.Proofs.Ytlnkpbaibnfhhaa
/- spandrel/spandrelref04.Exp computes the power of an element. -/
namespace Go.Proofs.Ytlnkpbaibnfhhaa
open Go.RowKit NT
theorem rexp_any (P Q G H : Int) (ra : Option Addr) (rn rc : Nat) (x e : Int) (P0 : 0 ≤ P) (Q0 : 0 ≤ Q) (Q1 : Q < 18446744073709551616) (x0 : 0 ≤ x) (e0 : 0 ≤ e) (e1 : e < 18446744073709551616) (w : World) :
    Calls Try.prog 37 #[.agg #[.int .u64 P, .int .u64 Q, .int .u64 G, .int .u64 H, .slice ra rn rc], .int .u64 x, .int .u64 e] w fun z w' => z = .returned (.int .u64 (expI Q P x e)) ∧ Same w w' := by
  obtain ⟨W, bx, eW, eb, hS, c0, c1, c2, c3, c4⟩ := par_box w P Q G H (.slice ra rn rc)
  have EW := Lib.hid eW
  have EB := Lib.hid eb
  clear eW eb
  by_cases hq : Q < 2
  · have d1 : decide (Q < 2) = true := decide_eq_true hq
    have hv : expI Q P x e = 0 := by unfold expI; rw [if_pos hq]
    have HV := Lib.hid hv
    clear hv
    go_enter Try.func37, Try.ntmps37
    go_upto_region 1 with fail
    rw [EW.out, EB.out]
    go_wp2_with fail
    go_ret
    exact ⟨ret_int HV.out.symm, hS⟩
  · have d1 : decide (Q < 2) = false := decide_eq_false hq
    have z0 : ¬ Q = 0 := by omega
    have r1 := Int.emod_nonneg e (show Q ≠ 0 by omega)
    have r2 := Int.emod_lt_of_pos e (show 0 < Q by omega)
    obtain ⟨z, hz⟩ : ∃ z, e % Q = z := ⟨_, rfl⟩
    rw [hz] at r1 r2
    have et : e.tmod Q = z := by rw [← hz]; exact Int.tmod_eq_emod_of_nonneg e0
    have hcall : ∀ W, Calls Try.prog 59 #[.int .u64 x, .int .u64 z, .int .u64 P] W fun z' w' => z' = .returned (.int .u64 (expI Q P x e)) ∧ Drawn W w' := fun W => by
      unfold expI; rw [if_neg hq, hz]; exact rpow_any x z P x0 r1 (by omega) P0 W
    have HC := Lib.hid hcall
    clear hcall hz
    go_enter Try.func37, Try.ntmps37
    go_upto_region 1 with fail
    rw [EW.out, EB.out]
    go_wp2_with fail
    go_quiet ((go_at_call 59; exact quiet_drawn (HC.out _)))
    go_wp2_with fail
    go_ret
    exact ⟨rfl, hS.drewN _⟩
end Go.Proofs.Ytlnkpbaibnfhhaa
/- spandrel/spandrelref04.Over computes the quotient of two elements. -/
namespace Go.Proofs.Ytlnkpbaibnfhhaa
open Go.RowKit NT
theorem rover_any (P Q G H : Int) (ra : Option Addr) (rn rc : Nat) (x y : Int) (P0 : 0 ≤ P) (x0 : 0 ≤ x) (y0 : 0 ≤ y) (w : World) :
    Calls Try.prog 55 #[.agg #[.int .u64 P, .int .u64 Q, .int .u64 G, .int .u64 H, .slice ra rn rc], .int .u64 x, .int .u64 y] w fun z w' => z = .returned (.int .u64 (overI P x y)) ∧ Same w w' := by
  obtain ⟨W, bx, eW, eb, hS, c0, c1, c2, c3, c4⟩ := par_box w P Q G H (.slice ra rn rc)
  have EW := Lib.hid eW
  have EB := Lib.hid eb
  have hi := invI_u y P
  obtain ⟨v, hv⟩ : ∃ v, (invS y.toNat P.toNat : Int) = v := ⟨_, rfl⟩
  have hv0 : 0 ≤ v := by rw [← hv]; omega
  have HV := Lib.hid hv
  clear eW eb hi hv
  go_enter Try.func55, Try.ntmps55
  go_upto_region 1 with fail
  rw [EW.out, EB.out]
  go_wp2_with fail
  refine (rinv_any y P y0 P0 _).mono ?_
  rintro e1 w1 ⟨rfl, hD1⟩
  rw [HV.out]
  have c0' := same_cell hD1.below c0
  clear c0 c1 c2 c3 c4
  go_wp2_with fail
  refine (rmul_any x v P x0 hv0 P0 _).mono ?_
  rintro e1 w2 ⟨rfl, rfl⟩
  go_wp2_with fail
  go_ret
  exact ⟨ret_int (by unfold overI mulI invI; rw [HV.out]), hS.drawn hD1⟩
end Go.Proofs.Ytlnkpbaibnfhhaa
/- spandrel/spandrelref04.In: is it an element? -/
namespace Go.Proofs.Ytlnkpbaibnfhhaa
open Go.RowKit NT
theorem rin_any (P Q G H : Int) (ra : Option Addr) (rn rc : Nat) (x : Int) (P0 : 0 ≤ P) (Q0 : 0 ≤ Q) (Q1 : Q < 18446744073709551616) (x0 : 0 ≤ x) (w : World) :
    Calls Try.prog 41 #[.agg #[.int .u64 P, .int .u64 Q, .int .u64 G, .int .u64 H, .slice ra rn rc], .int .u64 x] w fun z w' => z = .returned (.bool (inB P Q x)) ∧ Same w w' := by
  obtain ⟨W, bx, eW, eb, hS, c0, c1, c2, c3, c4⟩ := par_box w P Q G H (.slice ra rn rc)
  have EW := Lib.hid eW
  have EB := Lib.hid eb
  clear eW eb
  obtain ⟨v, hv⟩ : ∃ v, (powS x.toNat Q.toNat P.toNat : Int) = v := ⟨_, rfl⟩
  have HV := Lib.hid hv
  have hin : InP P Q x ↔ 0 < x ∧ x < P ∧ v = 1 := by unfold InP powI; rw [hv]
  have HI := Lib.hid hin
  clear hv hin
  by_cases g1 : 0 < x
  case neg =>
    have hb := inB_no (p := P) (q := Q) (x := x) (fun h => g1 h.1)
    have HB := Lib.hid hb
    have d1 : decide (1 ≤ x) = false := decide_eq_false (by omega)
    clear hb
    go_enter Try.func41, Try.ntmps41
    go_upto_region 1 with fail
    rw [EW.out, EB.out]
    go_wp2_with fail
    go_ret
    exact ⟨ret_bool HB.out.symm, hS⟩
  have d1 : decide (1 ≤ x) = true := decide_eq_true (by omega)
  by_cases g2 : x < P
  case neg =>
    have hb := inB_no (p := P) (q := Q) (x := x) (fun h => g2 h.2.1)
    have HB := Lib.hid hb
    have d2 : decide (x < P) = false := decide_eq_false g2
    clear hb
    go_enter Try.func41, Try.ntmps41
    go_upto_region 1 with fail
    rw [EW.out, EB.out]
    go_wp2_with fail
    go_ret
    exact ⟨ret_bool HB.out.symm, hS⟩
  have d2 : decide (x < P) = true := decide_eq_true g2
  have hb : inB P Q x = (v == 1) := by
    by_cases h : v = 1
    · rw [inB_yes (HI.out.2 ⟨g1, g2, h⟩), h]; rfl
    · rw [inB_no (fun x => h (HI.out.1 x).2.2), show (v == 1) = false from beq_eq_false_iff_ne.2 h]
  have HB := Lib.hid hb
  clear hb
  go_enter Try.func41, Try.ntmps41
  go_upto_region 1 with fail
  rw [EW.out, EB.out]
  go_wp2_with fail
  refine (rpow_any x Q P x0 Q0 Q1 P0 _).mono ?_
  rintro e1 w1 ⟨rfl, hD1⟩
  rw [HV.out]
  go_wp2_with fail
  go_ret
  exact ⟨ret_bool (by rw [HB.out]), hS.drawn hD1⟩
end Go.Proofs.Ytlnkpbaibnfhhaa
/- The reference's Right: is it a group? -/
namespace Go.Proofs.Ytlnkpbaibnfhhaa
open Go.RowKit NT
set_option maxHeartbeats 2000000 in
theorem rright_any (P Q G H : Int) (ra : Option Addr) (rn rc : Nat) (rs : List RowD) (hP : U64 P) (hQ : U64 Q) (hG : U64 G) (hH : U64 H) (w : World) (h : RowsAt w ra rn rs) :
    Calls Try.prog 33 #[.agg #[.int .u64 P, .int .u64 Q, .int .u64 G, .int .u64 H, .slice ra rn rc]] w fun z w' => z = .returned (.bool (grpB P Q G H rs)) ∧ Same w w' := by
  obtain ⟨W, bx, eW, eb, hS, c0, c1, c2, c3, c4⟩ := par_box w P Q G H (.slice ra rn rc)
  have EW := Lib.hid eW
  have EB := Lib.hid eb
  clear eW eb
  have h1 := h.same hS
  obtain ⟨P0, P1⟩ := hP
  obtain ⟨Q0, Q1⟩ := hQ
  obtain ⟨G0, G1⟩ := hG
  obtain ⟨H0, H1⟩ := hH
  clear h
  by_cases g1 : 5 ≤ Q
  case neg =>
    have hb := grpB_no (P := P) (Q := Q) (G := G) (H := H) (rs := rs) (fun h => by exact g1 h.1)
    have HB := Lib.hid hb
    have d1 : decide (Q < 5) = true := decide_eq_true (by omega)
    clear hb
    go_enter Try.func33, Try.ntmps33
    go_upto_region 1 with fail
    rw [EW.out, EB.out]
    go_wp2_with fail
    go_ret
    exact ⟨ret_bool HB.out.symm, hS⟩
  have d1 : decide (Q < 5) = false := decide_eq_false (by omega)
  by_cases g2 : Q < 2305843009213693952
  case neg =>
    have hb := grpB_no (P := P) (Q := Q) (G := G) (H := H) (rs := rs) (fun h => by exact g2 h.2.1)
    have HB := Lib.hid hb
    have d2 : decide ((2305843009213693952 : Int) ≤ Q) = true := decide_eq_true (by omega)
    clear hb
    go_enter Try.func33, Try.ntmps33
    go_upto_region 1 with fail
    rw [EW.out, EB.out]
    go_wp2_with fail
    go_ret
    exact ⟨ret_bool HB.out.symm, hS⟩
  have d2 : decide ((2305843009213693952 : Int) ≤ Q) = false := decide_eq_false (by omega)
  by_cases g3 : P = 2 * Q + 1
  case neg =>
    have hb := grpB_no (P := P) (Q := Q) (G := G) (H := H) (rs := rs) (fun h => by exact g3 h.2.2.1)
    have HB := Lib.hid hb
    have d3 : ((P : Int) != 2 * Q + 1) = true := by rw [bne_iff_ne]; exact g3
    clear g3
    clear hb
    go_enter Try.func33, Try.ntmps33
    go_upto_region 1 with fail
    rw [EW.out, EB.out]
    go_wp2_with fail
    go_ret
    exact ⟨ret_bool HB.out.symm, hS⟩
  have d3 : ((P : Int) != 2 * Q + 1) = false := by rw [← g3]; simp
  have G3 := Lib.hid g3
  clear g3
  go_enter Try.func33, Try.ntmps33
  go_upto_region 1 with fail
  rw [EW.out, EB.out]
  have hS0 : Same W W := Same.refl W
  go_wp2_with fail
  refine (rproved_any P ra rn rc rs _ (h1.same hS0) ⟨P0, P1⟩).mono ?_
  rintro e1 w1 ⟨rfl, hT1⟩
  have hS1 : Same W w1 := hS0.trans hT1
  by_cases k0 : ProvedP P rs
  case neg =>
    rw [provedB_no k0]
    have hb := grpB_no (P := P) (Q := Q) (G := G) (H := H) (rs := rs) (fun h => k0 h.2.2.2.1)
    have HB := Lib.hid hb
    clear hb k0
    go_wp2_with fail
    go_ret
    exact ⟨ret_bool HB.out.symm, hS.trans hS1⟩
  rw [provedB_yes k0]
  have K0 := Lib.hid k0
  clear k0 hT1
  have c0' := same_cell hS1 c0
  have c1' := same_cell hS1 c1
  have c2' := same_cell hS1 c2
  have c3' := same_cell hS1 c3
  have c4' := same_cell hS1 c4
  go_wp2_with fail
  refine (rproved_any Q ra rn rc rs _ (h1.same hS1) ⟨Q0, Q1⟩).mono ?_
  rintro e1 w2 ⟨rfl, hT2⟩
  have hS2 : Same W w2 := hS1.trans hT2
  by_cases k1 : ProvedP Q rs
  case neg =>
    rw [provedB_no k1]
    have hb := grpB_no (P := P) (Q := Q) (G := G) (H := H) (rs := rs) (fun h => k1 h.2.2.2.2.1)
    have HB := Lib.hid hb
    clear hb k1
    go_wp2_with fail
    go_ret
    exact ⟨ret_bool HB.out.symm, hS.trans hS2⟩
  rw [provedB_yes k1]
  have K1 := Lib.hid k1
  clear k1 hT2
  have c0'' := same_cell hS2 c0
  have c1'' := same_cell hS2 c1
  have c2'' := same_cell hS2 c2
  have c3'' := same_cell hS2 c3
  have c4'' := same_cell hS2 c4
  clear c0' c1' c2' c3' c4'
  go_wp2_with fail
  refine (rin_any P Q G H ra rn rc G P0 Q0 Q1 G0 _).mono ?_
  rintro e1 w3 ⟨rfl, hT3⟩
  have hS3 : Same W w3 := hS2.trans hT3
  by_cases k2 : InP P Q G
  case neg =>
    rw [inB_no k2]
    have hb := grpB_no (P := P) (Q := Q) (G := G) (H := H) (rs := rs) (fun h => k2 h.2.2.2.2.2.1)
    have HB := Lib.hid hb
    clear hb k2
    go_wp2_with fail
    go_ret
    exact ⟨ret_bool HB.out.symm, hS.trans hS3⟩
  rw [inB_yes k2]
  have K2 := Lib.hid k2
  clear k2 hT3
  have c0''' := same_cell hS3 c0
  have c1''' := same_cell hS3 c1
  have c2''' := same_cell hS3 c2
  have c3''' := same_cell hS3 c3
  have c4''' := same_cell hS3 c4
  clear c0'' c1'' c2'' c3'' c4''
  go_wp2_with fail
  refine (rin_any P Q G H ra rn rc H P0 Q0 Q1 H0 _).mono ?_
  rintro e1 w4 ⟨rfl, hT4⟩
  have hS4 : Same W w4 := hS3.trans hT4
  by_cases k3 : InP P Q H
  case neg =>
    rw [inB_no k3]
    have hb := grpB_no (P := P) (Q := Q) (G := G) (H := H) (rs := rs) (fun h => k3 h.2.2.2.2.2.2.1)
    have HB := Lib.hid hb
    clear hb k3
    go_wp2_with fail
    go_ret
    exact ⟨ret_bool HB.out.symm, hS.trans hS4⟩
  rw [inB_yes k3]
  have K3 := Lib.hid k3
  clear k3 hT4
  have c0'''' := same_cell hS4 c0
  have c1'''' := same_cell hS4 c1
  have c2'''' := same_cell hS4 c2
  have c3'''' := same_cell hS4 c3
  have c4'''' := same_cell hS4 c4
  clear c0''' c1''' c2''' c3''' c4'''
  have hb : grpB P Q G H rs = ((G != 1) && ((H != 1) && (G != H))) := by
    by_cases a1 : G = 1
    · rw [grpB_no (fun h => h.2.2.2.2.2.2.2.1 a1), a1]; rfl
    · by_cases a2 : H = 1
      · rw [grpB_no (fun h => h.2.2.2.2.2.2.2.2.1 a2), a2]; simp
      · by_cases a3 : G = H
        · rw [grpB_no (fun h => h.2.2.2.2.2.2.2.2.2 a3), a3]; simp
        · rw [grpB_yes ⟨g1, g2, G3.out, K0.out, K1.out, K2.out, K3.out, a1, a2, a3⟩, bne_iff_ne.2 a1, bne_iff_ne.2 a2, bne_iff_ne.2 a3]; rfl
  have HB := Lib.hid hb
  clear hb c0 c1 c2 c3 c4
  by_cases a1 : G = 1
  · have b1 : ((G : Int) != 1) = false := by rw [a1]; rfl
    clear a1
    go_wp2_with fail
    go_ret
    exact ⟨ret_bool (by rw [HB.out, b1]; rfl), hS.trans hS4⟩
  have b1 : ((G : Int) != 1) = true := bne_iff_ne.2 a1
  clear a1
  by_cases a2 : H = 1
  · have b2 : ((H : Int) != 1) = false := by rw [a2]; rfl
    clear a2
    go_wp2_with fail
    go_ret
    exact ⟨ret_bool (by rw [HB.out, b1, b2]; rfl), hS.trans hS4⟩
  have b2 : ((H : Int) != 1) = true := bne_iff_ne.2 a2
  clear a2
  go_wp2_with fail
  go_ret
  exact ⟨ret_bool (by rw [HB.out, b1, b2]; simp), hS.trans hS4⟩
end Go.Proofs.Ytlnkpbaibnfhhaa
/- What a certificate proves is prime: plain Lean, no program in it. -/
namespace Go.Proofs.Ytlnkpbaibnfhhaa
open NT
theorem strip_eq {f : Nat} : ∀ (l : Nat), ∃ k, l = strip f l * f ^ k := by
  intro l
  induction l using Nat.strongRecOn with
  | _ l ih =>
    rw [strip]
    split
    · rename_i hc
      obtain ⟨k, hk⟩ := ih (l / f) (Nat.div_lt_self hc.2.1 (by omega))
      refine ⟨k + 1, ?_⟩
      rw [Nat.pow_succ, ← Nat.mul_assoc, ← hk]
      exact (Nat.div_mul_cancel (Nat.dvd_of_mod_eq_zero hc.2.2)).symm
    · exact ⟨0, by simp⟩
theorem powI_eq {a e n : Int} (h2 : 2 ≤ n) (h1 : n ≤ 4611686018427387904) : powI a e n = (a.toNat ^ e.toNat % n.toNat : Nat) := by
  unfold powI; rw [powS_yes ⟨by omega, by omega⟩]
/-- each prime that divides what is left is one of the factors, and passes its test -/
theorem fac_tests {S : Int → Prop} {r : RowD} (hS : ∀ f, S f → Prime f.toNat) (hU : ∀ j, U64 (r.f.getD j 0)) :
    ∀ (fs : List Int) (left last : Int), (∀ f ∈ fs, 0 ≤ f) → 1 ≤ left → FacOk S r left last fs → ∀ q : Nat, Prime q → q ∣ left.toNat → powI r.a ((r.n - 1) / (q : Int)) r.n ≠ 1 := by
  intro fs
  induction fs with
  | nil =>
    intro left last _ h1 h q hq hd
    have h : left = 1 := h
    subst h
    have := hq.1
    have h2 : q ∣ 1 := hd
    have := Nat.eq_one_of_dvd_one h2
    omega
  | cons f fs ih =>
    intro left last h0 h1 h q hq hd
    obtain ⟨g1, g2, g3, g4, g5⟩ := h
    have hf := hS f g2
    have f0 := h0 f (by simp)
    by_cases e : q = f.toNat
    · rw [e, Int.toNat_of_nonneg f0]; exact g4
    · obtain ⟨k, hk⟩ := strip_eq (f := f.toNat) left.toNat
      have hd2 : q ∣ strip f.toNat left.toNat := by
        rw [hk] at hd
        rcases hq.dvd_mul hd with h | h
        · exact h
        · have h3 := hq.dvd_pow h
          rcases hf.2 q h3 with h4 | h4
          · have := hq.1; omega
          · exact absurd h4 e
      have hp := strip_lt (f := f.toNat) (l := left.toNat) (by omega)
      exact ih _ _ (fun x hx => h0 x (by simp [hx])) (by omega) g5 q hq (by simpa using hd2)
theorem row_root {S : Int → Prop} {r : RowD} (hS : ∀ f, S f → Prime f.toNat) (hU : ∀ f ∈ r.f, 0 ≤ f) (hU2 : ∀ j, U64 (r.f.getD j 0)) (h : RowOk S r) : Root r.n.toNat r.a.toNat := by
  obtain ⟨h1, h2, h3, h4, h5, h6⟩ := h
  refine root_of_lucas (by omega) ?_ ?_
  · rw [powI_eq (by omega) h2] at h5
    rw [Cg.one (by omega)]
    rw [show (r.n - 1).toNat = r.n.toNat - 1 by omega] at h5
    omega
  · intro q hq hd hc
    have := fac_tests hS hU2 r.f (r.n - 1) 1 hU (by omega) h6 q hq (by rw [show (r.n - 1).toNat = r.n.toNat - 1 by omega]; exact hd)
    apply this
    rw [powI_eq (by omega) h2]
    rw [Cg.one (by omega)] at hc
    rw [show ((r.n - 1) / (q : Int)).toNat = (r.n.toNat - 1) / q by
      obtain ⟨m, hm⟩ := Int.eq_ofNat_of_zero_le (show 0 ≤ r.n - 1 by omega)
      rw [hm, ← Int.natCast_ediv]
      rw [show r.n.toNat - 1 = m by omega]
      rfl, hc]
    rfl
/-- the factors are no negative numbers -/
def Fine (rs : List RowD) : Prop := ∀ i, (∀ f ∈ (rs.getD i default).f, 0 ≤ f) ∧ ∀ j, U64 ((rs.getD i default).f.getD j 0)
theorem two_root : Root 2 1 := ⟨by omega, rfl, fun k h0 h1 => by omega⟩
theorem upto_roots {rs : List RowD} (hF : Fine rs) {k : Nat} (h : UpTo rs k) : ∀ i, i < k → Root (rs.getD i default).n.toNat (rs.getD i default).a.toNat := by
  intro i
  induction i using Nat.strongRecOn with
  | _ i ih =>
    intro hi
    refine row_root (S := Kn rs i) (fun f hf => ?_) (hF i).1 (hF i).2 (h i hi)
    rcases hf with rfl | ⟨j, hj, e⟩
    · exact two_root.prime
    · rw [← e]; exact (ih j hj (by omega)).prime
theorem proved_root {n : Int} {rs : List RowD} (hF : Fine rs) (h : ProvedP n rs) : 2 ≤ n ∧ n ≤ 4611686018427387904 ∧ ∃ g, Root n.toNat g := by
  obtain ⟨hA, hk⟩ := h
  rcases hk with rfl | ⟨j, hj, e⟩
  · exact ⟨by omega, by omega, 1, two_root⟩
  · have hr := hA.2 j hj
    refine ⟨by have := hr.1; omega, by have := hr.2.1; omega, ?_⟩
    rw [← e]
    exact ⟨_, upto_roots hF hA.2 j hj⟩
theorem take_getD {rs : List RowD} {k i : Nat} (h : i < k) : (rs.take k).getD i default = rs.getD i default := by
  simp [List.getD, List.getElem?_take, h]
theorem Kn_take {rs : List RowD} {k j : Nat} (h : j ≤ k) {f : Int} : Kn (rs.take k) j f ↔ Kn rs j f := by
  unfold Kn
  constructor
  · rintro (x | ⟨i, hi, e⟩)
    · exact .inl x
    · exact .inr ⟨i, hi, by rw [← e, take_getD (by omega)]⟩
  · rintro (x | ⟨i, hi, e⟩)
    · exact .inl x
    · exact .inr ⟨i, hi, by rw [take_getD (by omega)]; exact e⟩
theorem allOk_take {rs : List RowD} {k : Nat} (hk : k ≤ rs.length) (h : AllOk rs) : AllOk (rs.take k) := by
  have hl : (rs.take k).length = k := by simp; omega
  refine ⟨by rw [hl]; have := h.1; omega, ?_⟩
  rw [hl]
  intro j hj
  rw [take_getD hj]
  have e : Kn (rs.take k) j = Kn rs j := funext fun f => propext (Kn_take (by omega))
  rw [e]
  exact h.2 j (by omega)
theorem proved_take {rs : List RowD} {k : Nat} (hk : k ≤ rs.length) (h : AllOk rs) {n : Int} (hp : ProvedP n (rs.take k)) : ProvedP n rs := by
  refine ⟨h, ?_⟩
  have hl : (rs.take k).length = k := by simp; omega
  have := hp.2
  rw [hl, Kn_take (Nat.le_refl k)] at this
  rcases this with x | ⟨i, hi, e⟩
  · exact .inl x
  · exact .inr ⟨i, by omega, e⟩
end Go.Proofs.Ytlnkpbaibnfhhaa
/- The certificate of 7 that the law's awake makes: it holds, proves 7, and not 5. -/
namespace Go.Proofs.Ytlnkpbaibnfhhaa
open Go.RowKit NT
def rs7 : List RowD := [⟨3, 2, [2]⟩, ⟨7, 3, [2, 3]⟩]
theorem strip_2_2 : strip 2 2 = 1 := by rw [strip_step (by omega) (by omega) rfl, strip_end (by decide)]
theorem strip_2_6 : strip 2 6 = 3 := by rw [strip_step (by omega) (by omega) rfl, strip_end (by decide)]
theorem strip_3_3 : strip 3 3 = 1 := by rw [strip_step (by omega) (by omega) rfl, strip_end (by decide)]
theorem powI_num {a e n : Nat} (v : Nat) (h2 : 2 ≤ n) (h1 : n ≤ 4611686018427387904) (h : a ^ e % n = v) : powI (a : Int) (e : Int) (n : Int) = v := by
  rw [powI_eq (by omega) (by omega)]
  simp only [Int.toNat_natCast]
  rw [h]
theorem ok7 : AllOk rs7 := by
  refine ⟨by decide, fun j hj => ?_⟩
  have hj' : j < 2 := hj
  match j, hj' with
  | 0, _ =>
    refine ⟨by decide, by decide, by decide, by decide, powI_num (a := 2) (e := 2) (n := 3) 1 (by omega) (by omega) rfl, ?_⟩
    refine ⟨by decide, .inl rfl, by decide, ?_, ?_⟩
    · have := powI_num (a := 2) (e := 1) (n := 3) 2 (by omega) (by omega) rfl
      intro h
      have h' : powI ((2 : Nat) : Int) ((1 : Nat) : Int) ((3 : Nat) : Int) = 1 := h
      rw [this] at h'; cases h'
    · show ((strip 2 2 : Nat) : Int) = 1
      rw [strip_2_2]; rfl
  | 1, _ =>
    refine ⟨by decide, by decide, by decide, by decide, powI_num (a := 3) (e := 6) (n := 7) 1 (by omega) (by omega) rfl, ?_⟩
    refine ⟨by decide, .inl rfl, by decide, ?_, ?_⟩
    · have := powI_num (a := 3) (e := 3) (n := 7) 6 (by omega) (by omega) rfl
      intro h
      have h' : powI ((3 : Nat) : Int) ((3 : Nat) : Int) ((7 : Nat) : Int) = 1 := h
      rw [this] at h'; cases h'
    · show FacOk (Kn rs7 1) ⟨7, 3, [2, 3]⟩ ((strip 2 6 : Nat) : Int) 2 [3]
      rw [strip_2_6]
      refine ⟨by decide, .inr ⟨0, by omega, rfl⟩, by decide, ?_, ?_⟩
      · have := powI_num (a := 3) (e := 2) (n := 7) 2 (by omega) (by omega) rfl
        intro h
        have h' : powI ((3 : Nat) : Int) ((2 : Nat) : Int) ((7 : Nat) : Int) = 1 := h
        rw [this] at h'; cases h'
      · show ((strip 3 3 : Nat) : Int) = 1
        rw [strip_3_3]; rfl
theorem proved7 : ProvedP 7 rs7 := ⟨ok7, .inr ⟨1, by decide, rfl⟩⟩
theorem proved5 : ¬ ProvedP 5 rs7 := by
  rintro ⟨_, h⟩
  rcases h with h | ⟨i, hi, e⟩
  · cases h
  · have hi' : i < 2 := hi
    match i, hi' with
    | 0, _ => cases e
    | 1, _ => cases e
theorem ints_lit {w : World} {b : Nat} {xs : List Int} (hb : ∀ j, j < xs.length → w.cell? ⟨b, j, none⟩ = some (.int .u64 (xs.getD j 0))) (hu : ∀ j, U64 (xs.getD j 0)) (hs : xs.length ≤ 16) : IntsAt w (some ⟨b, 0, none⟩) xs.length xs :=
  ⟨rfl, by omega, fun _ => ⟨b, 0, rfl, fun j hj => by rw [Nat.zero_add]; exact hb j hj⟩, hu⟩
theorem lit7 (w : World) (t : TypeId) (u : TypeId) : RowsAt (((w.alloc (.cells #[.int .u64 2] t)).alloc (.cells #[.int .u64 2, .int .u64 3] t)).alloc
    (.cells #[.int .u64 3, .int .u64 2, .slice (some ⟨w.heap.size, 0, none⟩) 1 1, .int .u64 7, .int .u64 3, .slice (some ⟨w.heap.size + 1, 0, none⟩) 2 2] u)) (some ⟨w.heap.size + 1 + 1, 0, none⟩) 2 rs7 := by
  obtain ⟨w1, h1⟩ : ∃ w1, w1 = w.alloc (.cells #[.int .u64 2] t) := ⟨_, rfl⟩
  have s1 : w.heap.size + 1 = w1.heap.size := by rw [h1]; simp
  have i1 : IntsAt w1 (some ⟨w.heap.size, 0, none⟩) 1 [2] := ints_lit (xs := [2]) (fun j hj => by
      have hj' : j < 1 := hj
      match j, hj' with
      | 0, _ => rw [h1]; simp [World.cell?_alloc_new]) (fun j => by
      match j with
      | 0 => exact ⟨by decide, by decide⟩
      | _ + 1 => exact ⟨by simp, by simp⟩) (by decide)
  rw [← h1, s1]
  obtain ⟨w2, h2⟩ : ∃ w2, w2 = w1.alloc (.cells #[.int .u64 2, .int .u64 3] t) := ⟨_, rfl⟩
  have s2 : w1.heap.size + 1 = w2.heap.size := by rw [h2]; simp
  have S12 : Same w1 w2 := by rw [h2]; exact (Same.refl w1).alloc _
  have i2 : IntsAt w2 (some ⟨w1.heap.size, 0, none⟩) 2 [2, 3] := ints_lit (xs := [2, 3]) (fun j hj => by
      have hj' : j < 2 := hj
      match j, hj' with
      | 0, _ => rw [h2]; simp [World.cell?_alloc_new]
      | 1, _ => rw [h2]; simp [World.cell?_alloc_new]) (fun j => by
      match j with
      | 0 => exact ⟨by decide, by decide⟩
      | 1 => exact ⟨by decide, by decide⟩
      | _ + 2 => exact ⟨by simp, by simp⟩) (by decide)
  rw [← h2, s2]
  obtain ⟨O, hO⟩ : ∃ O, O = Obj.cells #[.int .u64 3, .int .u64 2, .slice (some ⟨w.heap.size, 0, none⟩) 1 1, .int .u64 7, .int .u64 3, .slice (some ⟨w1.heap.size, 0, none⟩) 2 2] u := ⟨_, rfl⟩
  rw [← hO]
  have S2 : Same w2 (w2.alloc O) := (Same.refl w2).alloc _
  refine ⟨rfl, by decide, fun _ => ⟨w2.heap.size, 0, rfl, fun j hj => ?_⟩⟩
  match j, hj with
  | 0, _ =>
    exact ⟨by rw [hO]; simp [World.cell?_alloc_new, rs7], by rw [hO]; simp [World.cell?_alloc_new, rs7], ⟨some ⟨w.heap.size, 0, none⟩, 1, 1, by rw [hO]; simp [World.cell?_alloc_new], (i1.same S12).same S2⟩, ⟨by decide, by decide⟩, ⟨by decide, by decide⟩⟩
  | 1, _ =>
    exact ⟨by rw [hO]; simp [World.cell?_alloc_new, rs7], by rw [hO]; simp [World.cell?_alloc_new, rs7], ⟨some ⟨w1.heap.size, 0, none⟩, 2, 2, by rw [hO]; simp [World.cell?_alloc_new], i2.same S2⟩, ⟨by decide, by decide⟩, ⟨by decide, by decide⟩⟩
end Go.Proofs.Ytlnkpbaibnfhhaa
/- The small group that the laws' awake makes: it is right. -/
namespace Go.Proofs.Ytlnkpbaibnfhhaa
open Go.RowKit NT
def rs4 : List RowD := [⟨5, 2, [2]⟩, ⟨11, 2, [2, 5]⟩, ⟨23, 5, [2, 11]⟩, ⟨1013, 3, [2, 11, 23]⟩, ⟨2027, 2, [2, 1013]⟩]
theorem strip4_2_4 : strip 2 4 = 1 := by rw [strip_step (by omega) (by omega) rfl, strip_step (by omega) (by omega) rfl, strip_end (by decide)]
theorem strip4_2_10 : strip 2 10 = 5 := by rw [strip_step (by omega) (by omega) rfl, strip_end (by decide)]
theorem strip4_5_5 : strip 5 5 = 1 := by rw [strip_step (by omega) (by omega) rfl, strip_end (by decide)]
theorem strip4_2_22 : strip 2 22 = 11 := by rw [strip_step (by omega) (by omega) rfl, strip_end (by decide)]
theorem strip4_11_11 : strip 11 11 = 1 := by rw [strip_step (by omega) (by omega) rfl, strip_end (by decide)]
theorem strip4_2_1012 : strip 2 1012 = 253 := by rw [strip_step (by omega) (by omega) rfl, strip_step (by omega) (by omega) rfl, strip_end (by decide)]
theorem strip4_11_253 : strip 11 253 = 23 := by rw [strip_step (by omega) (by omega) rfl, strip_end (by decide)]
theorem strip4_23_23 : strip 23 23 = 1 := by rw [strip_step (by omega) (by omega) rfl, strip_end (by decide)]
theorem strip4_2_2026 : strip 2 2026 = 1013 := by rw [strip_step (by omega) (by omega) rfl, strip_end (by decide)]
theorem strip4_1013_1013 : strip 1013 1013 = 1 := by rw [strip_step (by omega) (by omega) rfl, strip_end (by decide)]
theorem fac_step {S : Int → Prop} {r : RowD} {left last f : Int} {fs : List Int} (l' : Nat) (h1 : last < f) (h2 : S f) (h3 : left % f = 0) (h4 : powI r.a ((r.n - 1) / f) r.n ≠ 1)
    (h5 : strip f.toNat left.toNat = l') (h6 : FacOk S r l' f fs) : FacOk S r left last (f :: fs) := ⟨h1, h2, h3, h4, by rw [h5]; exact h6⟩
theorem powI_ne {a e n : Nat} (v : Nat) (h2 : 2 ≤ n) (h1 : n ≤ 4611686018427387904) (h : a ^ e % n = v) (hv : v ≠ 1) : powI (a : Int) (e : Int) (n : Int) ≠ 1 := by
  rw [powI_num v h2 h1 h]; omega
theorem pw4_2_2_5 : 2 ^ 2 % 5 = 4 := by kernel_rfl
theorem pw4_2_4_5 : 2 ^ 4 % 5 = 1 := by kernel_rfl
theorem pw4_2_5_11 : 2 ^ 5 % 11 = 10 := by kernel_rfl
theorem pw4_2_2_11 : 2 ^ 2 % 11 = 4 := by kernel_rfl
theorem pw4_2_10_11 : 2 ^ 10 % 11 = 1 := by kernel_rfl
theorem pw4_5_11_23 : 5 ^ 11 % 23 = 22 := by kernel_rfl
theorem pw4_5_2_23 : 5 ^ 2 % 23 = 2 := by kernel_rfl
theorem pw4_5_22_23 : 5 ^ 22 % 23 = 1 := by kernel_rfl
theorem pw4_3_506_1013 : 3 ^ 506 % 1013 = 1012 := by kernel_rfl
theorem pw4_3_92_1013 : 3 ^ 92 % 1013 = 122 := by kernel_rfl
theorem pw4_3_44_1013 : 3 ^ 44 % 1013 = 586 := by kernel_rfl
theorem pw4_3_1012_1013 : 3 ^ 1012 % 1013 = 1 := by kernel_rfl
theorem pw4_2_1013_2027 : 2 ^ 1013 % 2027 = 2026 := by kernel_rfl
theorem pw4_2_2_2027 : 2 ^ 2 % 2027 = 4 := by kernel_rfl
theorem pw4_2_2026_2027 : 2 ^ 2026 % 2027 = 1 := by kernel_rfl
theorem pw4_4_1013_2027 : 4 ^ 1013 % 2027 = 1 := by kernel_rfl
theorem pw4_9_1013_2027 : 9 ^ 1013 % 2027 = 1 := by kernel_rfl
theorem row4_0 : RowOk (Kn rs4 0) ⟨5, 2, [2]⟩ := by
  refine ⟨by decide, by decide, by decide, by decide, powI_num (a := 2) (e := 4) (n := 5) 1 (by omega) (by omega) pw4_2_4_5, ?_⟩
  refine fac_step 1 (by decide) (.inl rfl) (by decide) (powI_ne (a := 2) (e := 2) (n := 5) 4 (by omega) (by omega) pw4_2_2_5 (by decide)) strip4_2_4 ?_
  rfl
theorem row4_1 : RowOk (Kn rs4 1) ⟨11, 2, [2, 5]⟩ := by
  refine ⟨by decide, by decide, by decide, by decide, powI_num (a := 2) (e := 10) (n := 11) 1 (by omega) (by omega) pw4_2_10_11, ?_⟩
  refine fac_step 5 (by decide) (.inl rfl) (by decide) (powI_ne (a := 2) (e := 5) (n := 11) 10 (by omega) (by omega) pw4_2_5_11 (by decide)) strip4_2_10 ?_
  refine fac_step 1 (by decide) (.inr ⟨0, by omega, rfl⟩) (by decide) (powI_ne (a := 2) (e := 2) (n := 11) 4 (by omega) (by omega) pw4_2_2_11 (by decide)) strip4_5_5 ?_
  rfl
theorem row4_2 : RowOk (Kn rs4 2) ⟨23, 5, [2, 11]⟩ := by
  refine ⟨by decide, by decide, by decide, by decide, powI_num (a := 5) (e := 22) (n := 23) 1 (by omega) (by omega) pw4_5_22_23, ?_⟩
  refine fac_step 11 (by decide) (.inl rfl) (by decide) (powI_ne (a := 5) (e := 11) (n := 23) 22 (by omega) (by omega) pw4_5_11_23 (by decide)) strip4_2_22 ?_
  refine fac_step 1 (by decide) (.inr ⟨1, by omega, rfl⟩) (by decide) (powI_ne (a := 5) (e := 2) (n := 23) 2 (by omega) (by omega) pw4_5_2_23 (by decide)) strip4_11_11 ?_
  rfl
theorem row4_3 : RowOk (Kn rs4 3) ⟨1013, 3, [2, 11, 23]⟩ := by
  refine ⟨by decide, by decide, by decide, by decide, powI_num (a := 3) (e := 1012) (n := 1013) 1 (by omega) (by omega) pw4_3_1012_1013, ?_⟩
  refine fac_step 253 (by decide) (.inl rfl) (by decide) (powI_ne (a := 3) (e := 506) (n := 1013) 1012 (by omega) (by omega) pw4_3_506_1013 (by decide)) strip4_2_1012 ?_
  refine fac_step 23 (by decide) (.inr ⟨1, by omega, rfl⟩) (by decide) (powI_ne (a := 3) (e := 92) (n := 1013) 122 (by omega) (by omega) pw4_3_92_1013 (by decide)) strip4_11_253 ?_
  refine fac_step 1 (by decide) (.inr ⟨2, by omega, rfl⟩) (by decide) (powI_ne (a := 3) (e := 44) (n := 1013) 586 (by omega) (by omega) pw4_3_44_1013 (by decide)) strip4_23_23 ?_
  rfl
theorem row4_4 : RowOk (Kn rs4 4) ⟨2027, 2, [2, 1013]⟩ := by
  refine ⟨by decide, by decide, by decide, by decide, powI_num (a := 2) (e := 2026) (n := 2027) 1 (by omega) (by omega) pw4_2_2026_2027, ?_⟩
  refine fac_step 1013 (by decide) (.inl rfl) (by decide) (powI_ne (a := 2) (e := 1013) (n := 2027) 2026 (by omega) (by omega) pw4_2_1013_2027 (by decide)) strip4_2_2026 ?_
  refine fac_step 1 (by decide) (.inr ⟨3, by omega, rfl⟩) (by decide) (powI_ne (a := 2) (e := 2) (n := 2027) 4 (by omega) (by omega) pw4_2_2_2027 (by decide)) strip4_1013_1013 ?_
  rfl
theorem ok4 : AllOk rs4 := by
  refine ⟨by decide, fun j hj => ?_⟩
  have hj' : j < 5 := hj
  match j, hj' with
  | 0, _ => exact row4_0
  | 1, _ => exact row4_1
  | 2, _ => exact row4_2
  | 3, _ => exact row4_3
  | 4, _ => exact row4_4
theorem in4_4 : InP 2027 1013 4 := ⟨by decide, by decide, powI_num (a := 4) (e := 1013) (n := 2027) 1 (by omega) (by omega) pw4_4_1013_2027⟩
theorem in4_9 : InP 2027 1013 9 := ⟨by decide, by decide, powI_num (a := 9) (e := 1013) (n := 2027) 1 (by omega) (by omega) pw4_9_1013_2027⟩
theorem right4 : RightP 2027 1013 4 9 rs4 := ⟨by decide, by decide, by decide, ⟨ok4, .inr ⟨4, by decide, rfl⟩⟩, ⟨ok4, .inr ⟨3, by decide, rfl⟩⟩, in4_4, in4_9, by decide, by decide, by decide⟩
theorem ints_alloc (w : World) (k : Nat) (hk : w.heap.size = k) (xs : List Int) (hu : ∀ j, U64 (xs.getD j 0)) (hs : xs.length ≤ 16) (arr : Array Value) (ha : ∀ j, j < xs.length → arr[j]? = some (.int .u64 (xs.getD j 0))) (t : TypeId) :
    IntsAt (w.alloc (.cells arr t)) (some ⟨k, 0, none⟩) xs.length xs ∧ Same w (w.alloc (.cells arr t)) ∧ (w.alloc (.cells arr t)).heap.size = k + 1 := by
  subst hk
  exact ⟨ints_lit (fun j hj => by rw [World.cell?_alloc_new]; exact ha j hj) hu hs, (Same.refl w).alloc _, by simp⟩
theorem small4_any (w : World) : Calls Try.prog 32 #[] w fun z w' => ∃ a, z = .returned (.agg #[.int .u64 2027, .int .u64 1013, .int .u64 4, .int .u64 9, .slice a 5 5]) ∧ RowsAt w' a 5 rs4 ∧ Same w w' := by
  go_enter Try.func32, Try.ntmps32
  go_wp2_with fail
  go_returns
  refine ⟨_, rfl, ?_⟩
  obtain ⟨w0, h0, S0⟩ : ∃ w0, w0 = w.alloc (.cells #[.int .u64 2027, .int .u64 1013, .int .u64 4, .int .u64 9, .slice (some ⟨w.heap.size + 1 + 1 + 1 + 1 + 1 + 1, 0, none⟩) 5 5] 25) ∧ Same w w0 := ⟨_, rfl, (Same.refl w).alloc _⟩
  have z0 : w0.heap.size = w.heap.size + 1 := by rw [h0]; simp
  rw [← h0]
  obtain ⟨z, hz⟩ : ∃ z, w.heap.size = z := ⟨_, rfl⟩
  rw [hz] at z0
  rw [hz]
  clear h0
  obtain ⟨i1, s1, z1⟩ := ints_alloc w0 (z + 1) z0 [2] (fun j => by match j with | 0 => exact ⟨by decide, by decide⟩ | _ + 1 => exact ⟨by simp, by simp⟩) (by decide) #[.int .u64 2] (fun j hj => by match j, hj with | 0, _ => rfl) 22
  obtain ⟨w1, h1⟩ : ∃ w1, w0.alloc (.cells #[.int .u64 2] 22) = w1 := ⟨_, rfl⟩
  rw [h1] at i1 s1 z1
  rw [h1]
  clear h1
  obtain ⟨i2, s2, z2⟩ := ints_alloc w1 (z + 1 + 1) z1 [2, 5] (fun j => by match j with | 0 => exact ⟨by decide, by decide⟩ | 1 => exact ⟨by decide, by decide⟩ | _ + 2 => exact ⟨by simp, by simp⟩) (by decide) #[.int .u64 2, .int .u64 5] (fun j hj => by match j, hj with | 0, _ => rfl | 1, _ => rfl) 22
  obtain ⟨w2, h2⟩ : ∃ w2, w1.alloc (.cells #[.int .u64 2, .int .u64 5] 22) = w2 := ⟨_, rfl⟩
  rw [h2] at i2 s2 z2
  rw [h2]
  clear h2
  obtain ⟨i3, s3, z3⟩ := ints_alloc w2 (z + 1 + 1 + 1) z2 [2, 11] (fun j => by match j with | 0 => exact ⟨by decide, by decide⟩ | 1 => exact ⟨by decide, by decide⟩ | _ + 2 => exact ⟨by simp, by simp⟩) (by decide) #[.int .u64 2, .int .u64 11] (fun j hj => by match j, hj with | 0, _ => rfl | 1, _ => rfl) 22
  obtain ⟨w3, h3⟩ : ∃ w3, w2.alloc (.cells #[.int .u64 2, .int .u64 11] 22) = w3 := ⟨_, rfl⟩
  rw [h3] at i3 s3 z3
  rw [h3]
  clear h3
  obtain ⟨i4, s4, z4⟩ := ints_alloc w3 (z + 1 + 1 + 1 + 1) z3 [2, 11, 23] (fun j => by match j with | 0 => exact ⟨by decide, by decide⟩ | 1 => exact ⟨by decide, by decide⟩ | 2 => exact ⟨by decide, by decide⟩ | _ + 3 => exact ⟨by simp, by simp⟩) (by decide) #[.int .u64 2, .int .u64 11, .int .u64 23] (fun j hj => by match j, hj with | 0, _ => rfl | 1, _ => rfl | 2, _ => rfl) 22
  obtain ⟨w4, h4⟩ : ∃ w4, w3.alloc (.cells #[.int .u64 2, .int .u64 11, .int .u64 23] 22) = w4 := ⟨_, rfl⟩
  rw [h4] at i4 s4 z4
  rw [h4]
  clear h4
  obtain ⟨i5, s5, z5⟩ := ints_alloc w4 (z + 1 + 1 + 1 + 1 + 1) z4 [2, 1013] (fun j => by match j with | 0 => exact ⟨by decide, by decide⟩ | 1 => exact ⟨by decide, by decide⟩ | _ + 2 => exact ⟨by simp, by simp⟩) (by decide) #[.int .u64 2, .int .u64 1013] (fun j hj => by match j, hj with | 0, _ => rfl | 1, _ => rfl) 22
  obtain ⟨w5, h5⟩ : ∃ w5, w4.alloc (.cells #[.int .u64 2, .int .u64 1013] 22) = w5 := ⟨_, rfl⟩
  rw [h5] at i5 s5 z5
  rw [h5]
  clear h5
  obtain ⟨O, hO⟩ : ∃ O, O = Obj.cells #[.int .u64 5, .int .u64 2, .slice (some ⟨z + 1, 0, none⟩) 1 1, .int .u64 11, .int .u64 2, .slice (some ⟨z + 1 + 1, 0, none⟩) 2 2, .int .u64 23, .int .u64 5, .slice (some ⟨z + 1 + 1 + 1, 0, none⟩) 2 2, .int .u64 1013, .int .u64 3, .slice (some ⟨z + 1 + 1 + 1 + 1, 0, none⟩) 3 3, .int .u64 2027, .int .u64 2, .slice (some ⟨z + 1 + 1 + 1 + 1 + 1, 0, none⟩) 2 2] 55 := ⟨_, rfl⟩
  rw [← hO]
  have S9 : Same w5 (w5.alloc O) := (Same.refl w5).alloc _
  refine ⟨⟨rfl, by decide, fun _ => ⟨z + 1 + 1 + 1 + 1 + 1 + 1, 0, rfl, fun j hj => ?_⟩⟩, S0 |>.trans s1 |>.trans s2 |>.trans s3 |>.trans s4 |>.trans s5 |>.trans S9⟩
  rw [← z5]
  match j, hj with
  | 0, _ => exact ⟨by rw [hO]; simp [World.cell?_alloc_new, rs4], by rw [hO]; simp [World.cell?_alloc_new, rs4], ⟨some ⟨z + 1, 0, none⟩, 1, 1, by rw [hO]; simp [World.cell?_alloc_new], ((((i1.same s2).same s3).same s4).same s5).same S9⟩, ⟨by decide, by decide⟩, ⟨by decide, by decide⟩⟩
  | 1, _ => exact ⟨by rw [hO]; simp [World.cell?_alloc_new, rs4], by rw [hO]; simp [World.cell?_alloc_new, rs4], ⟨some ⟨z + 1 + 1, 0, none⟩, 2, 2, by rw [hO]; simp [World.cell?_alloc_new], (((i2.same s3).same s4).same s5).same S9⟩, ⟨by decide, by decide⟩, ⟨by decide, by decide⟩⟩
  | 2, _ => exact ⟨by rw [hO]; simp [World.cell?_alloc_new, rs4], by rw [hO]; simp [World.cell?_alloc_new, rs4], ⟨some ⟨z + 1 + 1 + 1, 0, none⟩, 2, 2, by rw [hO]; simp [World.cell?_alloc_new], ((i3.same s4).same s5).same S9⟩, ⟨by decide, by decide⟩, ⟨by decide, by decide⟩⟩
  | 3, _ => exact ⟨by rw [hO]; simp [World.cell?_alloc_new, rs4], by rw [hO]; simp [World.cell?_alloc_new, rs4], ⟨some ⟨z + 1 + 1 + 1 + 1, 0, none⟩, 3, 3, by rw [hO]; simp [World.cell?_alloc_new], (i4.same s5).same S9⟩, ⟨by decide, by decide⟩, ⟨by decide, by decide⟩⟩
  | 4, _ => exact ⟨by rw [hO]; simp [World.cell?_alloc_new, rs4], by rw [hO]; simp [World.cell?_alloc_new, rs4], ⟨some ⟨z + 1 + 1 + 1 + 1 + 1, 0, none⟩, 2, 2, by rw [hO]; simp [World.cell?_alloc_new], i5.same S9⟩, ⟨by decide, by decide⟩, ⟨by decide, by decide⟩⟩
end Go.Proofs.Ytlnkpbaibnfhhaa
