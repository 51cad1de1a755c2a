/- The reference of layer 2: ahead, holds, Holds, Proved. -/
import Derived.Test.YtfoncfojljmimaaPrimeS
import Derived.Test.YtfoncfojljmimaaRefPow
import Derived.Test.YtfoncfojljmimaaFacN
import Derived.Outline
set_option linter.unusedVariables false
set_option linter.unusedSimpArgs false
namespace Go.Proofs.Ytfoncfojljmimaa
open Go.RowKit NT
def Ahead (rs : List RowD) (k : Nat) (f : Int) : Prop := ∃ i, i < k ∧ (rs.getD i default).n = f
noncomputable def aheadB (rs : List RowD) (k : Nat) (f : Int) : Bool := open Classical in decide (Ahead rs k f)
theorem aheadB_yes {rs : List RowD} {k : Nat} {f : Int} (h : Ahead rs k f) : aheadB rs k f = true := by unfold aheadB; classical exact decide_eq_true h
theorem aheadB_no {rs : List RowD} {k : Nat} {f : Int} (h : ¬ Ahead rs k f) : aheadB rs k f = false := by unfold aheadB; classical exact decide_eq_false h
theorem ahead_any (a : Option Addr) (n cap k : Nat) (f : Int) (rs : List RowD) (w : World) (h : RowsAt w a n rs) (hk : k ≤ n) :
    Calls Try.prog 48 #[.slice a n cap, .int .i64 k, .int .u64 f] w fun e w' => e = .returned (.bool (aheadB rs k f)) ∧ w = w' := by
  have hsmall := h.small
  go_enter Try.func48, Try.ntmps48
  go_wp2_with fail
  go_loop [7] (fun s7 => ∃ i : Nat, s7 = .int .i64 i ∧ i ≤ k ∧ Hid (¬ Ahead rs i f)) (fun s7 => k - (intOf s7).toNat)
  case atStart => exact ⟨0, rfl, by omega, fun ⟨j, hj, _⟩ => by omega⟩
  case round =>
    obtain ⟨i, rfl, hi, hno⟩ := hrel
    by_cases hlt : i < k
    · obtain ⟨b, off, ha, hrows⟩ := h.rows (by omega)
      subst ha
      obtain ⟨x, hx⟩ : ∃ x, x = (rs.getD i default).n := ⟨_, rfl⟩
      have c0 : w.cell? ⟨b, off + i * 3, none⟩ = some (.int .u64 x) := by rw [hx]; exact (hrows i (by omega)).n
      have HX := Lib.hid hx
      have HR := Lib.hid hrows
      clear hx hrows
      by_cases he : x = f
      · have he' : ((x : Int) == f) = true := by rw [he]; simp
        have hb := aheadB_yes (rs := rs) (k := k) (f := f) ⟨i, hlt, by rw [← HX.out]; exact he⟩
        have HB := Lib.hid hb
        clear he hb
        go_wp2_with fail
        go_ret
        exact ⟨ret_bool HB.out.symm, rfl⟩
      · have he' : ((x : Int) == f) = false := by rw [beq_eq_false_iff_ne]; exact he
        have hn2 : ¬ Ahead rs (i + 1) f := by
          rintro ⟨j, hj, e⟩
          by_cases hji : j = i
          · subst hji; rw [← HX.out] at e; exact he e
          · exact hno ⟨j, by omega, e⟩
        have HN := Lib.hid hn2
        clear he hn2 hno
        go_wp2_with fail
        go_round
        case rel => exact ⟨i + 1, by go_num, by omega, HN⟩
        case measure => simp [intOf]; omega
    · obtain rfl : i = k := by omega
      have hb := aheadB_no hno.out
      have HB := Lib.hid hb
      clear hb hno
      go_wp2_with fail
      go_ret
      exact ⟨ret_bool HB.out.symm, rfl⟩
/-- the factor before place i, or 1 -/
def prevOf (r : RowD) (i : Nat) : Int := if i = 0 then 1 else r.f.getD (i - 1) 0
/-- the tests of one factor that the reference makes ahead of the division -/
def Passes (S : Int → Prop) (f prev left : Int) : Prop := prev < f ∧ S f ∧ left % f = 0
set_option maxRecDepth 100000 in
set_option maxHeartbeats 8000000 in
theorem rholds (a : Option Addr) (n cap k : Nat) (rs : List RowD) (w : World) (h : RowsAt w a n rs) (hk : k < n) :
    Calls Try.prog 54 #[.slice a n cap, .int .i64 k] w fun e w' => e = .returned (.bool (rowB (Kn rs k) (rs.getD k default))) ∧ Same w w' := by
  have hlen := h.len
  have hsmall := h.small
  obtain ⟨b, off, ha, hrows⟩ := h.rows (by omega)
  subst ha
  have hrow := hrows k hk
  obtain ⟨r, hr⟩ : ∃ r, r = rs.getD k default := ⟨_, rfl⟩
  rw [← hr] at hrow ⊢
  have HRr := Lib.hid hr
  clear hr
  obtain ⟨c0, c1, ⟨fa, fn, fc, c2, hf⟩, ⟨n0, n1⟩, ⟨a0, a1⟩⟩ := hrow
  have hflen := hf.len
  have hfsmall := hf.small
  have HRows := Lib.hid hrows
  have HLen := Lib.hid hlen
  clear hrows hlen
  obtain ⟨S, hS⟩ : ∃ S, S = Kn rs k := ⟨_, rfl⟩
  rw [← hS]
  have HKn := Lib.hid hS
  clear hS
  by_cases hA : 3 ≤ r.n ∧ r.n ≤ 4611686018427387904 ∧ 1 ≤ fn ∧ fn ≤ 16
  · obtain ⟨hA1, hA2, hA3, hA4⟩ := hA
    obtain ⟨fb, fo, rfl, hcells⟩ := hf.cells (by omega)
    have d1 : decide (r.n < 3) = false := decide_eq_false (by omega)
    have d2 : decide ((4611686018427387904 : Int) < r.n) = false := decide_eq_false (by omega)
    have d3 : decide ((fn : Int) < 1) = false := decide_eq_false (by omega)
    have d4 : decide ((16 : Int) < fn) = false := decide_eq_false (by omega)
    have hwf : FacAt S r 0 (r.n - 1) (prevOf r 0) := ⟨by omega, by omega, by simp [prevOf], by simp [prevOf], by simp [prevOf]⟩
    have HW := Lib.hid hwf
    have HL := Lib.hid hflen
    have hbd := hf.bd
    have HBd := Lib.hid hbd
    obtain ⟨bx, hbx⟩ : ∃ bx, bx = w.heap.size := ⟨_, rfl⟩
    have HC0 := Lib.hid hcells
    clear hwf hflen hbd hcells
    go_enter Try.func54, Try.ntmps54
    go_upto_region 5 with fail
    obtain ⟨w1, hw1⟩ : ∃ w1, w1 = w.alloc (.cells #[.int .u64 r.n, .int .u64 r.a, .slice (some ⟨fb, fo, none⟩) fn fc] 57) := ⟨_, rfl⟩
    have hS0 : Same w w1 := by rw [hw1]; exact (Same.refl w).alloc _
    have z0 : w1.cell? ⟨bx, 0, none⟩ = some (.int .u64 r.n) := by rw [hw1, hbx]; simp [World.cell?_alloc_new]
    have z1 : w1.cell? ⟨bx, 1, none⟩ = some (.int .u64 r.a) := by rw [hw1, hbx]; simp [World.cell?_alloc_new]
    have z2 : w1.cell? ⟨bx, 2, none⟩ = some (.slice (some ⟨fb, fo, none⟩) fn fc) := by rw [hw1, hbx]; simp [World.cell?_alloc_new]
    rw [← hw1, ← hbx]
    have hrs1 := h.same hS0
    have hc1 : ∀ j, j < fn → w1.cell? ⟨fb, fo + j, none⟩ = some (.int .u64 (r.f.getD j 0)) := fun j hj => same_cell hS0 (HC0.out j hj)
    have HC := Lib.hid hc1
    clear hw1 hbx hc1 HC0 c0 c1 c2 hf h
    go_wp2_with fail
    clear d1 d2 d3 d4
    go_loopw [6, 7] (fun s6 s7 wr => ∃ (i : Nat) (left : Int), s6 = .int .u64 left ∧ s7 = .int .i64 i ∧ i ≤ fn ∧ FacAt S r i left (prevOf r i) ∧ Drawn w1 wr) (fun _ s7 _ => fn - (intOf s7).toNat)
    case atStart => exact ⟨0, _, rfl, rfl, by omega, HW.out, Drawn.refl _⟩
    case round =>
      obtain ⟨i, left, rfl, rfl, hi, hat, hDr⟩ := hrel
      have hSr := hDr.below
      have c0' := same_cell hSr z0
      have c1' := same_cell hSr z1
      have c2' := same_cell hSr z2
      have HAt := Lib.hid hat
      obtain ⟨prev, hprev⟩ : ∃ prev, prev = prevOf r i := ⟨_, rfl⟩
      rw [← hprev] at hat HAt
      obtain ⟨l0, l1, k0, k1, heqv⟩ := hat
      have HEqv := Lib.hid heqv
      clear heqv z0 z1 z2
      by_cases hlt : i < fn
      · obtain ⟨f, hf⟩ : ∃ f, f = r.f.getD i 0 := ⟨_, rfl⟩
        have hcf : wr.cell? ⟨fb, fo + i, none⟩ = some (.int .u64 f) := by rw [hf]; exact same_cell hSr (HC.out i hlt)
        have hfu : U64 f := by rw [hf]; exact HBd.out i
        have hdrop : r.f.drop i = f :: r.f.drop (i + 1) := by rw [hf]; exact drop_getD (by rw [HL.out]; exact hlt)
        obtain ⟨f0, f1⟩ := hfu
        have hcp : 0 < i → wr.cell? ⟨fb, fo + (i - 1), none⟩ = some (.int .u64 prev) := fun hi0 => by
          rw [hprev]; unfold prevOf; rw [if_neg (by omega)]; exact same_cell hSr (HC.out (i - 1) (by omega))
        have HCp := Lib.hid hcp
        have hp0 : i = 0 → prev = 1 := fun e => by rw [hprev]; unfold prevOf; rw [if_pos e]
        have HP0 := Lib.hid hp0
        have hrs2 := hrs1.same hSr
        have HRs2 := Lib.hid hrs2
        have hsf : f ≠ 2 → (S f ↔ Ahead rs k f) := fun h2 => by
          rw [HKn.out]; exact ⟨fun x => x.resolve_left h2, .inr⟩
        have HSf := Lib.hid hsf
        have hs2 : S 2 := by rw [HKn.out]; exact .inl rfl
        have HS2 := Lib.hid hs2
        have hnx : f = prevOf r (i + 1) := by rw [hf]; unfold prevOf; rw [if_neg (by omega)]; rfl
        have HNx := Lib.hid hnx
        obtain ⟨c, hc⟩ : ∃ c : Bool, c = false ↔ Passes S f prev left := by
          classical exact ⟨!decide (Passes S f prev left), by simp⟩
        have Hc := Lib.hid hc
        have heq : FacOk S r (r.n - 1) 1 r.f ↔ FacOk S r left prev (f :: r.f.drop (i + 1)) := by rw [← hdrop]; exact HEqv.out
        have HEq := Lib.hid heq
        have f2 : 2 ≤ f ∨ f < 2 := by omega
        clear hf hdrop hprev hcp hp0 hrs2 hsf hs2 hnx hc heq hrs1
        go_upto_region 9 with fail
        go_cut [80] (fun s80 wx => s80 = .bool c ∧ wr = wx)
        case first =>
          by_cases g1 : f < 2
          · have hv : c = true := by
              cases c
              · have := (Hc.out.1 rfl).1; omega
              · rfl
            have d1 : decide (f < 2) = true := decide_eq_true g1
            have HV := Lib.hid hv
            clear hv f2
            go_wp2_with fail
            go_meet
            exact ⟨by rw [HV.out], rfl⟩
          have d1 : decide (f < 2) = false := decide_eq_false g1
          have hf0 : ¬ f = 0 := by omega
          obtain ⟨z, hz⟩ : ∃ z, left % f = z := ⟨_, rfl⟩
          have HZ := Lib.hid hz
          by_cases g2 : 0 < i ∧ f ≤ prev
          · obtain ⟨g3, g4⟩ := g2
            have hv : c = true := by
              cases c
              · have := (Hc.out.1 rfl).1; omega
              · rfl
            have HV := Lib.hid hv
            have hcp := HCp.out g3
            have d2 : decide ((0 : Int) < i) = true := decide_eq_true (by omega)
            have d3 : decide (f ≤ prev) = true := decide_eq_true g4
            clear hv hz f2
            go_wp2_with fail
            go_meet
            exact ⟨by rw [HV.out], rfl⟩
          have hpf : prev < f := by
            by_cases hi0 : 0 < i
            · omega
            · have := HP0.out (by omega); omega
          have d3 : decide (f ≤ prev) = false := decide_eq_false (by omega)
          clear hz f2 g1 g2
          by_cases hi0 : 0 < i
          · have hcp1 := HCp.out hi0
            have d2 : decide ((0 : Int) < i) = true := decide_eq_true (by omega)
            by_cases g5 : f = 2
            · have e2 : ((f : Int) != 2) = false := by rw [g5]; rfl
              have G5 := Lib.hid g5
              clear g5
              by_cases g6 : z = 0
              · have hv : c = false := Hc.out.2 ⟨hpf, by rw [G5.out]; exact HS2.out, by rw [HZ.out]; exact g6⟩
                have HV := Lib.hid hv
                have e3 : ((z : Int) != 0) = false := by rw [g6]; rfl
                clear hv g6 hpf
                go_wp2_with fail
                go_meet
                exact ⟨by rw [HV.out]; first | done | rw [HZ.out, e3], rfl⟩
              · have hv : c = true := by
                  cases c
                  · exact absurd ((Hc.out.1 rfl).2.2) (by rw [HZ.out]; exact g6)
                  · rfl
                have HV := Lib.hid hv
                have e3 : ((z : Int) != 0) = true := by rw [bne_iff_ne]; exact g6
                clear hv g6 hpf
                go_wp2_with fail
                go_meet
                exact ⟨by rw [HV.out]; first | done | rw [HZ.out, e3], rfl⟩
            · have e2 : ((f : Int) != 2) = true := by rw [bne_iff_ne]; exact g5
              by_cases g7 : Ahead rs k f
              · have hab := aheadB_yes g7
                have HAb := Lib.hid hab
                have hsf := (HSf.out g5).2 g7
                have HSF := Lib.hid hsf
                clear hab hsf g5 g7
                by_cases g6 : z = 0
                · have hv : c = false := Hc.out.2 ⟨hpf, HSF.out, by rw [HZ.out]; exact g6⟩
                  have HV := Lib.hid hv
                  have e3 : ((z : Int) != 0) = false := by rw [g6]; rfl
                  clear hv g6 hpf
                  go_wp2_with (go_at_call 48; refine (ahead_any _ n cap k f rs _ HRs2.out (by omega)).mono ?_; rintro e1 w' ⟨rfl, rfl⟩; rw [HAb.out])
                  go_meet
                  exact ⟨by rw [HV.out]; first | done | rw [HZ.out, e3], rfl⟩
                · have hv : c = true := by
                    cases c
                    · exact absurd ((Hc.out.1 rfl).2.2) (by rw [HZ.out]; exact g6)
                    · rfl
                  have HV := Lib.hid hv
                  have e3 : ((z : Int) != 0) = true := by rw [bne_iff_ne]; exact g6
                  clear hv g6 hpf
                  go_wp2_with (go_at_call 48; refine (ahead_any _ n cap k f rs _ HRs2.out (by omega)).mono ?_; rintro e1 w' ⟨rfl, rfl⟩; rw [HAb.out])
                  go_meet
                  exact ⟨by rw [HV.out]; first | done | rw [HZ.out, e3], rfl⟩
              · have hab := aheadB_no g7
                have HAb := Lib.hid hab
                have hv : c = true := by
                  cases c
                  · exact absurd ((HSf.out g5).1 (Hc.out.1 rfl).2.1) g7
                  · rfl
                have HV := Lib.hid hv
                clear hab hv g5 g7 hpf
                go_wp2_with (go_at_call 48; refine (ahead_any _ n cap k f rs _ HRs2.out (by omega)).mono ?_; rintro e1 w' ⟨rfl, rfl⟩; rw [HAb.out])
                go_meet
                exact ⟨by rw [HV.out]; first | done | rw [HZ.out, e3], rfl⟩
          · have d2 : decide ((0 : Int) < i) = false := decide_eq_false (by omega)
            by_cases g5 : f = 2
            · have e2 : ((f : Int) != 2) = false := by rw [g5]; rfl
              have G5 := Lib.hid g5
              clear g5
              by_cases g6 : z = 0
              · have hv : c = false := Hc.out.2 ⟨hpf, by rw [G5.out]; exact HS2.out, by rw [HZ.out]; exact g6⟩
                have HV := Lib.hid hv
                have e3 : ((z : Int) != 0) = false := by rw [g6]; rfl
                clear hv g6 hpf
                go_wp2_with fail
                go_meet
                exact ⟨by rw [HV.out]; first | done | rw [HZ.out, e3], rfl⟩
              · have hv : c = true := by
                  cases c
                  · exact absurd ((Hc.out.1 rfl).2.2) (by rw [HZ.out]; exact g6)
                  · rfl
                have HV := Lib.hid hv
                have e3 : ((z : Int) != 0) = true := by rw [bne_iff_ne]; exact g6
                clear hv g6 hpf
                go_wp2_with fail
                go_meet
                exact ⟨by rw [HV.out]; first | done | rw [HZ.out, e3], rfl⟩
            · have e2 : ((f : Int) != 2) = true := by rw [bne_iff_ne]; exact g5
              by_cases g7 : Ahead rs k f
              · have hab := aheadB_yes g7
                have HAb := Lib.hid hab
                have hsf := (HSf.out g5).2 g7
                have HSF := Lib.hid hsf
                clear hab hsf g5 g7
                by_cases g6 : z = 0
                · have hv : c = false := Hc.out.2 ⟨hpf, HSF.out, by rw [HZ.out]; exact g6⟩
                  have HV := Lib.hid hv
                  have e3 : ((z : Int) != 0) = false := by rw [g6]; rfl
                  clear hv g6 hpf
                  go_wp2_with (go_at_call 48; refine (ahead_any _ n cap k f rs _ HRs2.out (by omega)).mono ?_; rintro e1 w' ⟨rfl, rfl⟩; rw [HAb.out])
                  go_meet
                  exact ⟨by rw [HV.out]; first | done | rw [HZ.out, e3], rfl⟩
                · have hv : c = true := by
                    cases c
                    · exact absurd ((Hc.out.1 rfl).2.2) (by rw [HZ.out]; exact g6)
                    · rfl
                  have HV := Lib.hid hv
                  have e3 : ((z : Int) != 0) = true := by rw [bne_iff_ne]; exact g6
                  clear hv g6 hpf
                  go_wp2_with (go_at_call 48; refine (ahead_any _ n cap k f rs _ HRs2.out (by omega)).mono ?_; rintro e1 w' ⟨rfl, rfl⟩; rw [HAb.out])
                  go_meet
                  exact ⟨by rw [HV.out]; first | done | rw [HZ.out, e3], rfl⟩
              · have hab := aheadB_no g7
                have HAb := Lib.hid hab
                have hv : c = true := by
                  cases c
                  · exact absurd ((HSf.out g5).1 (Hc.out.1 rfl).2.1) g7
                  · rfl
                have HV := Lib.hid hv
                clear hab hv g5 g7 hpf
                go_wp2_with (go_at_call 48; refine (ahead_any _ n cap k f rs _ HRs2.out (by omega)).mono ?_; rintro e1 w' ⟨rfl, rfl⟩; rw [HAb.out])
                go_meet
                exact ⟨by rw [HV.out]; first | done | rw [HZ.out, e3], rfl⟩
        case rest =>
          obtain ⟨rfl, rfl⟩ := hcut
          cases c with
          | true =>
            have hb := rowB_no (S := S) (r := r) (fun h => by
              have h2 := HEq.out.1 h.2.2.2.2.2
              have := Hc.out.2 ⟨h2.1, h2.2.1, h2.2.2.1⟩
              cases this)
            have HB := Lib.hid hb
            clear hb f2
            go_wp2_with fail
            go_ret
            exact ⟨ret_bool HB.out.symm, hS0.trans hSr⟩
          | false =>
            obtain ⟨hpf, hsf, hlf⟩ := Hc.out.1 rfl
            have f2' : 2 ≤ f := by omega
            have hf0 : ¬ f = 0 := by omega
            have q1 : 0 ≤ (r.n - 1) / f := Int.ediv_nonneg (by omega) f0
            have q2 : (r.n - 1) / f ≤ r.n - 1 := Int.ediv_le_self f (by omega)
            obtain ⟨q, hq⟩ : ∃ q, (r.n - 1) / f = q := ⟨_, rfl⟩
            rw [hq] at q1 q2
            have eq1 : IntKind.u64.wrap (r.n - 1) = r.n - 1 := by rw [IntKind.wrap_u64]; omega
            have eq2 : IntKind.u64.wrap ((r.n - 1).tdiv f) = q := by rw [Int.tdiv_eq_ediv_of_nonneg (by omega), hq, IntKind.wrap_u64]; omega
            have E1 := Lib.hid eq1
            have E2 := Lib.hid eq2
            obtain ⟨p, hp⟩ : ∃ p, powI r.a q r.n = p := ⟨_, rfl⟩
            have hcall : ∀ W, Calls Try.prog 41 #[.int .u64 r.a, .int .u64 q, .int .u64 r.n] W fun e w' => e = .returned (.int .u64 p) ∧ Drawn W w' := fun W => by
              rw [← hp]; exact rpow_any _ _ _ a0 q1 (by omega) n0 W
            have HCall := Lib.hid hcall
            have hnext : ∀ l : Int, 1 ≤ l → l % f ≠ 0 → strip f.toNat l.toNat = strip f.toNat left.toNat → l < 18446744073709551616 → (p = 1 → ¬ FacOk S r (r.n - 1) 1 r.f) ∧ (p ≠ 1 → FacAt S r (i + 1) l (prevOf r (i + 1))) := by
              intro l hl0 hl1 hl2 hl3
              refine ⟨fun g4 h => (HEq.out.1 h).2.2.2.1 (by rw [hq, hp]; exact g4), fun g4 => ⟨hl0, hl3, by rw [← HNx.out]; omega, by rw [← HNx.out]; exact f1, ?_⟩⟩
              rw [HEq.out, ← HNx.out]
              have e : (strip f.toNat left.toNat : Int) = l := by
                rw [← hl2, strip_end (fun h => hl1 (by
                  obtain ⟨l, rfl⟩ := Int.eq_ofNat_of_zero_le (show 0 ≤ l by omega)
                  obtain ⟨f, rfl⟩ := Int.eq_ofNat_of_zero_le f0
                  simp only [Int.toNat_natCast] at h
                  rw [← Int.natCast_emod, h]; rfl))]
                omega
              constructor
              · intro h; rw [← e]; exact h.2.2.2.2
              · intro h; exact ⟨hpf, hsf, hlf, by rw [hq, hp]; exact g4, by rw [e]; exact h⟩
            have HN := Lib.hid hnext
            clear hnext hcall hsf hlf hp hq eq1 eq2 f2 hpf
            go_wp2_with fail
            go_loop [6] (fun s6 => ∃ l : Int, s6 = .int .u64 l ∧ 1 ≤ l ∧ l < 18446744073709551616 ∧ Hid (strip f.toNat l.toNat = strip f.toNat left.toNat)) (fun s6 => (intOf s6).toNat)
            case atStart => exact ⟨left, rfl, l0, l1, rfl⟩
            case round =>
              obtain ⟨l, rfl, m0, m1, hst⟩ := hrel
              by_cases hz : l % f = 0
              · obtain ⟨d1, d2, e1⟩ := strip_div m0 f2' hz
                have hst2 := Lib.hid (e1.symm.trans hst.out)
                have hz' : ((l % f : Int) == 0) = true := by rw [hz]; rfl
                clear hz e1
                go_wp2_with fail
                go_round
                case rel => exact ⟨l / f, rfl, d2, by omega, hst2⟩
                case measure => simp [intOf]; omega
              · have hz' : ((l % f : Int) == 0) = false := by rw [beq_eq_false_iff_ne]; exact hz
                have hnx := HN.out l m0 hz hst.out m1
                have HX := Lib.hid hnx
                clear hz hnx hst
                go_wp2_with fail
                have eq1 := E1.out
                have eq2 := E2.out
                by_cases g4 : p = 1
                · have hb := rowB_no (S := S) (r := r) (fun h => HX.out.1 g4 h.2.2.2.2.2)
                  have HB := Lib.hid hb
                  have g4' : ((p : Int) == 1) = true := by rw [g4]; rfl
                  clear hb g4
                  go_quiet ((go_at_call 41; exact quiet_drawn (HCall.out _)))
                  clear eq1 eq2
                  go_wp2_with fail
                  go_ret
                  exact ⟨ret_bool HB.out.symm, (hS0.trans hSr).drewN _⟩
                · have g4' : ((p : Int) == 1) = false := by rw [beq_eq_false_iff_ne]; exact g4
                  have HX2 := Lib.hid (HX.out.2 g4)
                  clear g4
                  go_quiet ((go_at_call 41; exact quiet_drawn (HCall.out _)))
                  clear eq1 eq2
                  go_wp2_with fail
                  go_roundw
                  case rel => exact ⟨i + 1, l, rfl, by go_num, by omega, HX2.out, hDr.drewN _⟩
                  case measure => simp [intOf]; omega
      · obtain rfl : i = fn := by omega
        have hdrop : r.f.drop i = [] := List.drop_eq_nil_of_le (by rw [HL.out]; omega)
        have heq := HEqv.out
        rw [hdrop] at heq
        obtain ⟨p, hp⟩ : ∃ p, powI r.a (r.n - 1) r.n = p := ⟨_, rfl⟩
        have hcall : ∀ W, Calls Try.prog 41 #[.int .u64 r.a, .int .u64 (r.n - 1), .int .u64 r.n] W fun e w' => e = .returned (.int .u64 p) ∧ Drawn W w' := fun W => by
          rw [← hp]; exact rpow_any _ _ _ a0 (by omega) (by omega) n0 W
        have HCall := Lib.hid hcall
        have hb : rowB S r = (left == 1 && p == 1) := by
          by_cases h : left = 1
          · by_cases hp1 : p = 1
            · rw [rowB_yes ⟨hA1, hA2, by have := HL.out; omega, by have := HL.out; omega, by rw [hp]; exact hp1, heq.2 h⟩, h, hp1]; rfl
            · rw [rowB_no (fun x => hp1 (by rw [← hp]; exact x.2.2.2.2.1)), h, show (p == 1) = false from beq_eq_false_iff_ne.2 hp1]; rfl
          · rw [rowB_no (fun x => h (heq.1 x.2.2.2.2.2)), show (left == 1) = false from beq_eq_false_iff_ne.2 h]; rfl
        have HB := Lib.hid hb
        clear heq hb hdrop hcall hp
        by_cases h : left = 1
        · have h' : ((left : Int) == 1) = true := by rw [h]; rfl
          clear h
          go_wp2_with (go_at_call 41; refine (HCall.out _).mono ?_; rintro e1 w2 ⟨rfl, hD2⟩)
          go_ret
          exact ⟨ret_bool (by rw [HB.out, h']; simp), (hS0.trans hSr).drawn hD2⟩
        · have h' : ((left : Int) == 1) = false := by rw [beq_eq_false_iff_ne]; exact h
          clear h
          go_wp2_with fail
          go_ret
          exact ⟨ret_bool (by rw [HB.out, h']; simp), hS0.trans hSr⟩
  · have hb := rowB_no (S := S) (r := r) (fun h => hA ⟨h.1, h.2.1, by have := h.2.2.1; omega, by have := h.2.2.2.1; omega⟩)
    have HB := Lib.hid hb
    have HL := Lib.hid hflen
    clear hb hflen
    by_cases h1 : 3 ≤ r.n
    · by_cases h2 : r.n ≤ 4611686018427387904
      · by_cases h3 : fn < 1
        · clear hA
          go_enter Try.func54, Try.ntmps54
          go_wp2_with fail
          go_ret
          exact ⟨ret_bool HB.out.symm, (Same.refl w).alloc _⟩
        · have h4 : (16 : Int) < fn := by omega
          clear hA
          go_enter Try.func54, Try.ntmps54
          go_wp2_with fail
          go_ret
          exact ⟨ret_bool HB.out.symm, (Same.refl w).alloc _⟩
      · clear hA
        go_enter Try.func54, Try.ntmps54
        go_wp2_with fail
        go_ret
        exact ⟨ret_bool HB.out.symm, (Same.refl w).alloc _⟩
    · clear hA
      go_enter Try.func54, Try.ntmps54
      go_wp2_with fail
      go_ret
      exact ⟨ret_bool HB.out.symm, (Same.refl w).alloc _⟩
end Go.Proofs.Ytfoncfojljmimaa
