/- prime.all, prime.Holds, prime.Proved: what a certificate proves. -/
import Derived.Test.YtdinemhodnleeaaKnown
import Derived.Carry
set_option linter.unusedVariables false
set_option linter.unusedSimpArgs false
namespace Go.Proofs.Ytdinemhodnleeaa
open Go.RowKit Go.Maps NT
/-- The insert of a map's literal, at the operation. -/
theorem wpList_insert_own {H : Type} {P : Program} (w : World) {ops : Array Oper} {rest : List Oper} {o : Oper} {a : Act} {Q : Exit → Act → World → Prop}
    (hg : o.guard = none) (m x v : Operand) (t : TypeId) (hop : o.op = Op.insert t m x v)
    (k e : TypeId) (K : Keyed P k) (ht : P.underlying t = some (.map k e)) (R : Value → Option (DataW H × List MemPlace)) (b n : Nat) (D : DataW H)
    (hm : a.eval m = .map (some b)) (hown : w.ownsMap P k R b n D) (hn : n < maxLen) (key val : Value) (kl : Lit) (hx : a.eval x = key) (hv : a.eval v = val) (hkey : keyOf P k key = some kl)
    (d : DataW H) (ps : List MemPlace) (hval : R val = some (d, ps))
    (hK : ∀ w', w'.ownsMap P k R b (n + 1) (D.put kl d) → w.grownBy w' (some b) → wpList P ops Q rest (a.put o.dst undef) w') :
    wpList P ops Q (o :: rest) a w := by
  refine wpList_plain hg fun K' hK' => ?_
  obtain ⟨w', hrun, r1, r2⟩ := hown.update K ht hn hkey hval
  unfold Oper.wp
  simp [execOp, hop, hm, hx, hv, hrun, Result.andThen]
  exact hK' _ _ (hK w' r1 r2)
theorem Knows.put {w : World} {b : Nat} {S : Int → Prop} {D : DataW Unit} {x : Int} (hx : U64 x) {n' : Nat}
    (hD : ∀ f, U64 f → (S f → D.atKey (.int .u64 f) (.lit (.bool false)) = .lit (.bool true)) ∧ (¬ S f → D.atKey (.int .u64 f) (.lit (.bool false)) = .lit (.bool false)))
    (hm : IsMap D) (h : w.ownsMap Try.prog 22 (plainElem Try.prog 4) b n' (D.put (.int .u64 x) (.lit (.bool true)))) : Knows w b n' (fun f => f = x ∨ S f) := by
  refine ⟨_, h, fun f hf => ?_⟩
  by_cases e : f = x
  · subst e
    refine ⟨fun _ => atKey_put_same hm (k := Lit.int .u64 f) trivial _ _, fun hn => absurd (.inl rfl) hn⟩
  · have e' : (Lit.int .u64 f) ≠ .int .u64 x := by intro h; cases h; exact e rfl
    refine ⟨fun hs => ?_, fun hs => ?_⟩
    · rw [atKey_put_other e']
      exact (hD f hf).1 (hs.resolve_left e)
    · rw [atKey_put_other e']
      exact (hD f hf).2 (fun s => hs (.inr s))
/-- What prime.all leaves. -/
def AllPost (w : World) (rs : List RowD) (e : Ending) (w' : World) : Prop :=
  ((AllOk rs ∧ ∃ b m, e = .returned (.map (some b)) ∧ Knows w' b m (Kn rs rs.length)) ∨ (¬ AllOk rs ∧ e = .returned (.map none))) ∧ Same w w'
/-- Where prime.all stands at row i. -/
structure AllAt (w : World) (rs : List RowD) (b i : Nat) (wr : World) : Prop where
  ok : UpTo rs i
  kn : Knows wr b (i + 1) (Kn rs i)
  same : Same w wr
  new : w.heap.size ≤ b
theorem below_of_grown {w w1 w2 : World} {b : Nat} (h : Same w w1) (hg : w1.grownBy w2 (some b)) (hb : w.heap.size ≤ b) : Same w w2 :=
  Below.grown h hg h.size (fun k hk => by cases hk; exact hb)
set_option maxRecDepth 100000 in
set_option maxHeartbeats 4000000 in
theorem all_any (a : Option Addr) (n cap : Nat) (rs : List RowD) (w : World) (h : RowsAt w a n rs) :
    Calls Try.prog 24 #[.slice a n cap] w (AllPost w rs) := by
  have hlen := h.len
  have hsmall := h.small
  by_cases hn : n ≤ 64
  · have hmm := @run_makeMap Try.prog
    have h64 : decide ((64 : Int) < n) = false := decide_eq_false (by omega)
    go_enter Try.func24, Try.ntmps24
    go_wp2_with (refine wpList_insert_own _ rfl _ _ _ 40 rfl 22 4 lawU Try.underlying40 (plainElem (H := Unit) Try.prog 4) w.heap.size 0 (.map []) rfl (World.ownsMap_made _ _ _ _) (by unfold maxLen; omega) (.int .u64 2) (.bool true) (.int .u64 2) rfl rfl (keyU ⟨by omega, by omega⟩) (.lit (.bool true)) [] (plainElem_bool Try.underlying4 true) ?_)
    intro w1 hown1 hgrow1
    go_wp2_with fail
    have hD0 : ∀ f, U64 f → (False → (DataW.map [] : DataW Unit).atKey (.int .u64 f) (.lit (.bool false)) = .lit (.bool true)) ∧ (¬ False → (DataW.map [] : DataW Unit).atKey (.int .u64 f) (.lit (.bool false)) = .lit (.bool false)) :=
      fun f _ => ⟨fun x => x.elim, fun _ => rfl⟩
    have hk1 : Knows w1 w.heap.size 1 (Kn rs 0) := (Knows.put ⟨by omega, by omega⟩ hD0 ⟨_, rfl⟩ hown1).congr (fun f => by rw [Kn_zero]; simp)
    have hat0 : AllAt w rs w.heap.size 0 w1 := ⟨fun j hj => by omega, hk1, below_of_grown ((Same.refl w).alloc _) hgrow1 (Nat.le_refl _), Nat.le_refl _⟩
    have HA := Lib.hid hat0
    obtain ⟨B, hB⟩ : ∃ B, B = w.heap.size := ⟨_, rfl⟩
    rw [← hB] at HA ⊢
    clear hown1 hgrow1 hD0 hk1 hat0 hmm hB
    go_loopw [13] (fun s13 wr => ∃ i : Nat, s13 = .int .i64 i ∧ i ≤ n ∧ AllAt w rs B i wr) (fun s13 _ => n - (intOf s13).toNat)
    case atStart => exact ⟨0, rfl, by omega, HA.out⟩
    case round =>
      obtain ⟨i, rfl, hi, hat⟩ := hrel
      by_cases hlt : i < n
      · obtain ⟨b, off, ha, hrows⟩ := h.rows (by omega)
        subst ha
        have hrow := (hrows i hlt).same hat.same
        obtain ⟨r, hr⟩ : ∃ r, r = rs.getD i default := ⟨_, rfl⟩
        rw [← hr] at hrow
        obtain ⟨c0, c1, ⟨fa, fn, fc, c2, hf⟩, hnb, hab⟩ := hrow
        have HF := Lib.hid hf
        have HNb := Lib.hid hnb
        have HR := Lib.hid hr
        have HRows := Lib.hid hrows
        clear hf hnb hr hrows
        go_wp2_with fail
        refine (kholds B (i + 1) (Kn rs i) r fa fn fc _ (hat.kn.same ((Same.refl wr).alloc _)) (HF.out.same ((Same.refl wr).alloc _)) HNb.out hab).mono ?_
        rintro e1 w2 ⟨rfl, hS2⟩
        by_cases hok : RowOk (Kn rs i) r
        · rw [rowB_yes hok]
          have hS3 : Same wr w2 := ((Same.refl wr).alloc _).trans hS2
          have hk2 := hat.kn.same hS3
          obtain ⟨D, hown, hD⟩ := hk2
          have hm := hown.isMap
          have cn : w2.cell? ⟨wr.heap.size, 0, none⟩ = some (.int .u64 r.n) := same_cell hS2 (by simp [World.cell?_alloc_new])
          obtain ⟨bx, hbx⟩ : ∃ bx, bx = wr.heap.size := ⟨_, rfl⟩
          rw [← hbx] at cn ⊢
          have HS3 := Lib.hid hS3
          have HDD := Lib.hid hD
          have HOk := Lib.hid hok
          clear hS2 hS3 hD hok c0 c1 c2 hbx
          go_wp2_with (at_mapUpdate; refine wpList_mapUpdate_own _ rfl _ _ _ 40 rfl 22 4 lawU Try.underlying40 _ B (i + 1) D rfl hown (by unfold maxLen; omega) (.int .u64 r.n) (.bool true) (.int .u64 r.n) rfl rfl (keyU HNb.out) (.lit (.bool true)) [] (plainElem_bool Try.underlying4 true) ?_)
          intro w3 hown3 hgrow3
          have hk3 : Knows w3 B (i + 1 + 1) (Kn rs (i + 1)) := (Knows.put HNb.out HDD.out hm hown3).congr (fun f => by rw [Kn_succ, ← HR.out])
          have hat3 : AllAt w rs B (i + 1) w3 := ⟨fun j hj => by
              by_cases e : j = i
              · subst e; rw [← HR.out]; exact HOk.out
              · exact hat.ok j (by omega), hk3, below_of_grown (hat.same.trans HS3.out) hgrow3 hat.new, hat.new⟩
          have HA3 := Lib.hid hat3
          clear hown3 hgrow3 hk3 hat3 hown
          go_wp2_with fail
          go_roundw
          case rel => exact ⟨i + 1, by go_num, by omega, HA3.out⟩
          case measure => simp [intOf]; omega
        · rw [rowB_no hok]
          have hno : ¬ AllOk rs := fun hA => hok (by have := hA.2 i (by rw [hlen]; exact hlt); rwa [← HR.out] at this)
          have HNo := Lib.hid hno
          have HS := Lib.hid ((hat.same.alloc _).trans hS2)
          clear hok hno hS2
          go_wp2_with fail
          go_ret
          exact ⟨.inr ⟨HNo.out, rfl⟩, HS.out⟩
      · obtain rfl : i = n := by omega
        go_wp2_with fail
        go_ret
        exact ⟨.inl ⟨⟨by omega, fun j hj => hat.ok j (by omega)⟩, B, _, rfl, by rw [hlen]; exact hat.kn⟩, hat.same⟩
  · have h64 : decide ((64 : Int) < n) = true := decide_eq_true (by omega)
    go_enter Try.func24, Try.ntmps24
    go_wp2_with fail
    go_ret
    exact ⟨.inr ⟨fun hA => by have := hA.1; omega, rfl⟩, Same.refl w⟩
theorem all_yes (a : Option Addr) (n cap : Nat) (rs : List RowD) (w : World) (h : RowsAt w a n rs) (hA : AllOk rs) :
    Calls Try.prog 24 #[.slice a n cap] w fun e w' => (∃ b m, e = .returned (.map (some b)) ∧ Knows w' b m (Kn rs rs.length)) ∧ Same w w' := by
  refine (all_any a n cap rs w h).mono ?_
  rintro e w' ⟨(⟨_, b, m, he, hk⟩ | ⟨hno, _⟩), hS⟩
  · exact ⟨⟨b, m, he, hk⟩, hS⟩
  · exact absurd hA hno
theorem all_no (a : Option Addr) (n cap : Nat) (rs : List RowD) (w : World) (h : RowsAt w a n rs) (hA : ¬ AllOk rs) :
    Calls Try.prog 24 #[.slice a n cap] w fun e w' => e = .returned (.map none) ∧ Same w w' := by
  refine (all_any a n cap rs w h).mono ?_
  rintro e w' ⟨(⟨hy, _⟩ | ⟨_, he⟩), hS⟩
  · exact absurd hy hA
  · exact ⟨he, hS⟩
theorem proved_any (x : Int) (a : Option Addr) (n cap : Nat) (rs : List RowD) (w : World) (h : RowsAt w a n rs) (hx : U64 x) :
    Calls Try.prog 19 #[.int .u64 x, .slice a n cap] w fun e w' => e = .returned (.bool (provedB x rs)) ∧ Same w w' := by
  by_cases hA : AllOk rs
  · have hlook : ∀ (W : World) (b m : Nat), Knows W b m (Kn rs rs.length) → (Instr.lookup 40 (.map (some b)) (.int .u64 x) false).run Try.prog W = .ok (.bool (provedB x rs)) W := by
      intro W b m hkn
      have hask := hkn.asked hx
      by_cases hk : Kn rs rs.length x
      · rw [provedB_yes ⟨hA, hk⟩]; exact hask.1 hk 0
      · rw [provedB_no (fun h => hk h.2)]; exact hask.2 hk 0
    have HL := Lib.hid hlook
    clear hlook hx
    go_enter Try.func19, Try.ntmps19
    go_wp2_with fail
    refine (all_yes a n cap rs _ h hA).mono ?_
    rintro e1 w1 ⟨⟨b, m, rfl, hkn⟩, hS⟩
    have hrun := HL.out w1 b m hkn
    go_wp2_with fail
    go_ret
    exact ⟨rfl, hS⟩
  · have hb := provedB_no (n := x) (rs := rs) (fun h => hA h.1)
    have HB := Lib.hid hb
    have hrun : ∀ W : World, (Instr.lookup 40 (.map none) (.int .u64 x) false).run Try.prog W = .ok (.bool false) W := fun W => by
      simpa using Maps.look_nil (w := W) false lawU Try.underlying40 (zeroB W) (keyU hx)
    clear hb hx
    go_enter Try.func19, Try.ntmps19
    go_wp2_with fail
    refine (all_no a n cap rs _ h hA).mono ?_
    rintro e1 w1 ⟨rfl, hS⟩
    go_wp2_with fail
    go_ret
    exact ⟨ret_bool HB.out.symm, hS⟩
end Go.Proofs.Ytdinemhodnleeaa
