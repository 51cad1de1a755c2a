/- Layer 10: the document's reader: numbers, counts, where it begins and ends. -/
import Derived.Test.YtdbhcdhenapfoaaDocC
import Derived.Deep.RegionHeld3
set_option linter.unusedVariables false
set_option linter.unusedSimpArgs false
namespace Go.Proofs.Ytdbhcdhenapfoaa
open Go.RowKit Go.Maps
/-- the document's reader -/
structure RdD (w : World) (rb : Nat) (o : Option Bs) : Prop where
  ex : ∃ s, w.heap[rb]? = some (.cells #[.string s, .bool o.isNone] 96 (0, 0)) ∧ ∀ l, o = some l → s = ofL l ∧ l.length ≤ 1000000000
theorem RdD.same {w w' : World} {rb : Nat} {o : Option Bs} (h : RdD w rb o) (hs : Same w w') : RdD w' rb o := by
  obtain ⟨s, h1, h2⟩ := h.ex
  exact ⟨s, hs.keep h1, h2⟩
theorem RdD.lt {w : World} {rb : Nat} {o : Option Bs} (h : RdD w rb o) : rb < w.heap.size := by
  obtain ⟨s, h1, _⟩ := h.ex
  exact (Array.getElem?_eq_some_iff.1 h1).1
theorem RdD.far {w w' : World} {rb : Nat} {o : Option Bs} (h : RdD w rb o) (e : w'.heap[rb]? = w.heap[rb]?) : RdD w' rb o := by
  obtain ⟨s, h1, h2⟩ := h.ex
  exact ⟨s, e.trans h1, h2⟩
theorem RdD.put {w : World} {rb b k : Nat} {o : Option Bs} (h : RdD w rb o) (hne : rb ≠ b) (v : Value) : RdD (w.setCell ⟨b, k, none⟩ v) rb o := h.far (heap_far w hne v)
theorem RdD.bad {w : World} {rb : Nat} {o : Option Bs} (h : RdD w rb o) : RdD (w.setCell ⟨rb, 1, none⟩ (.bool true)) rb none := by
  obtain ⟨s, h1, _⟩ := h.ex
  exact ⟨s, by rw [heap_set h1]; rfl, fun l e => by cases e⟩
theorem RdD.left {w : World} {rb : Nat} {l m : Bs} (h : RdD w rb (some l)) (hm : m.length ≤ l.length) : RdD (w.setCell ⟨rb, 0, none⟩ (.string (ofL m))) rb (some m) := by
  obtain ⟨s, h1, h2⟩ := h.ex
  obtain ⟨_, h3⟩ := h2 l rfl
  exact ⟨ofL m, by rw [heap_set h1]; rfl, fun l' e => by obtain rfl := Option.some.inj e; exact ⟨rfl, by omega⟩⟩
set_option maxHeartbeats 800000 in
theorem dnum_any (rb : Nat) (o : Option Bs) (w : World) (h : RdD w rb o) :
    Calls Try.prog 59 #[.pointer (some ⟨rb, 0, none⟩)] w fun z w' =>
      Off (· = rb) w w' ∧ ∃ x o1, U64 x ∧ z = .returned (.int .u64 x) ∧ Step parN o x o1 ∧ RdD w' rb o1 := by
  have HR := Lib.hid h
  obtain ⟨s, hb, hl⟩ := h.ex
  have HBAD := Lib.hid h.bad
  have k0 : w.cell? ⟨rb, 0, none⟩ = some (.string s) := by rw [cell_at hb]; rfl
  have k1 : w.cell? ⟨rb, 1, none⟩ = some (.bool o.isNone) := by rw [cell_at hb]; rfl
  have f0 : w.frozen? ⟨rb, 0, none⟩ = false := free_at hb
  have f1 : w.frozen? ⟨rb, 1, none⟩ = false := free_at hb
  have hu0 : U64 0 := ⟨by decide, by decide⟩
  cases o with
  | none =>
    have k1 : w.cell? ⟨rb, 1, none⟩ = some (.bool true) := k1
    clear hb hl h
    go_enter Try.func59, Try.ntmps59
    go_wp2_with fail
    go_ret
    exact ⟨Off.set (S := (· = rb)) w rfl _ _, 0, none, hu0, rfl, Or.inr ⟨rfl, rfl⟩, HBAD.out⟩
  | some l =>
    obtain ⟨rfl, hll⟩ := hl l rfl
    have k1 : w.cell? ⟨rb, 1, none⟩ = some (.bool false) := k1
    have hsz := size_ofL l
    have hdr := drop_ofL l 8
    obtain ⟨m, em⟩ : ∃ m, l.length = m := ⟨_, rfl⟩
    obtain ⟨t, et⟩ : ∃ t, ofL l = t := ⟨_, rfl⟩
    have ET := Lib.hid et
    have EM := Lib.hid em
    rw [em] at hsz hll hdr
    rw [et] at hsz k0 hdr
    clear hb hl h em et
    by_cases h8 : m < 8
    · have d0 : decide ((m : Int) < 8) = true := decide_eq_true (by omega)
      have HP := Lib.hid (show parN l = none by unfold parN; rw [if_pos (by rw [EM.out]; exact h8)])
      go_enter Try.func59, Try.ntmps59
      go_wp2_with fail
      go_ret
      exact ⟨Off.set (S := (· = rb)) w rfl _ _, 0, none, hu0, rfl, Or.inr ⟨HP.out, rfl⟩, HBAD.out⟩
    · have d0 : decide ((m : Int) < 8) = false := decide_eq_false (by omega)
      have HP := Lib.hid (show parN l = some (((numV (l.take 8) : Nat) : Int), l.drop 8) by unfold parN; rw [if_neg (by rw [EM.out]; exact h8)])
      have HLEFT := Lib.hid (HR.out.left (m := l.drop 8) (by rw [List.length_drop]; omega))
      have hm8 : (8 : Int) ≤ m := by omega
      go_enter Try.func59, Try.ntmps59
      go_wp2_with fail
      go_loopw [3, 4] (fun s3 s4 wr => ∃ i : Nat, s4 = .int .i64 i ∧ s3 = .int .u64 (numV (l.take i) : Nat) ∧ i ≤ 8 ∧ Hid (wr = w)) (fun _ s4 _ => 8 - (intOf s4).toNat)
      case atStart => exact ⟨0, rfl, rfl, by omega, Lib.hid rfl⟩
      case round =>
        obtain ⟨i, rfl, rfl, hi, hW⟩ := hrel
        obtain ⟨wa, rfl⟩ : ∃ wz, wz = wr := ⟨_, rfl⟩
        by_cases hlt : i < 8
        · have c0 : wa.cell? ⟨rb, 0, none⟩ = some (.string t) := by rw [hW.out]; exact k0
          have HV := Lib.hid (show numV (l.take (i + 1)) = numV (l.take i) * 256 + (l.getD i 0).toNat by rw [take_snocB l i (by rw [EM.out]; omega), numV_snoc])
          obtain ⟨b, eb⟩ : ∃ b, (l.getD i 0).toNat = b := ⟨_, rfl⟩
          have hb : b < 256 := by rw [← eb]; exact UInt8.toNat_lt _
          have HT := Lib.hid (show ∀ h : i < t.size, (t[i]'h).toNat = b by
            have e := ET.out
            subst e
            intro h
            have h2 : i < l.length := by rw [EM.out]; omega
            have h3 : (ofL l)[i]? = some ((ofL l)[i]'h) := by rw [ByteArray.getElem?_lt' _ _ h]
            rw [get_ofL l i h2] at h3
            rw [← Option.some.inj h3, ← eb]
            simp [List.getD, List.getElem?_eq_getElem h2])
          obtain ⟨v, ev⟩ : ∃ v, numV (l.take i) = v := ⟨_, rfl⟩
          have hv : v < 72057594037927936 := by
            have h1 := numV_lt i (l.take i) (by rw [List.length_take, EM.out]; omega)
            have h2 : 256 ^ i ≤ 256 ^ 7 := Nat.pow_le_pow_right (by omega) (by omega)
            rw [← ev]; omega
          rw [eb, ev] at HV
          rw [ev]
          have hi0 : (0 : Int) ≤ i := by omega
          have hi8 : (i : Int) < 8 := by omega
          have him : i < m := by omega
          clear eb ev
          go_wp2_with (first | (rw [HT.out]))
          go_roundw
          case rel => exact ⟨i + 1, by go_num, by rw [HV.out]; go_num, by omega, hW⟩
          case measure => simp [intOf]; omega
        · obtain rfl : i = 8 := by omega
          have c0 : wa.cell? ⟨rb, 0, none⟩ = some (.string t) := by rw [hW.out]; exact k0
          have e0 : wa.frozen? ⟨rb, 0, none⟩ = false := by rw [hW.out]; exact f0
          have hU : U64 ((numV (l.take 8) : Nat) : Int) := by
            have h1 := numV_lt 8 (l.take 8) (by rw [List.length_take, EM.out]; omega)
            exact ⟨by omega, by simp at h1; omega⟩
          have HFIN := Lib.hid (show Off (· = rb) w (wa.setCell ⟨rb, 0, none⟩ (.string (ofL (l.drop 8)))) ∧ RdD (wa.setCell ⟨rb, 0, none⟩ (.string (ofL (l.drop 8)))) rb (some (l.drop 8)) by rw [hW.out]; exact ⟨Off.set (S := (· = rb)) w rfl _ _, HLEFT.out⟩)
          go_wp2_with fail
          go_ret
          exact ⟨HFIN.out.1, _, some (l.drop 8), hU, rfl, Or.inl ⟨_, HP.out, rfl⟩, HFIN.out.2⟩
theorem parC_short {most : Nat} : ∀ {l : Bs}, l.length < 2 → parC most l = none
  | [], _ => rfl
  | [a], _ => rfl
  | a :: b :: q, h => by rw [List.length_cons, List.length_cons] at h; omega
theorem two_of : ∀ {l : Bs}, ¬ l.length < 2 → ∃ a b r, l = a :: b :: r
  | [], h => absurd (by simp) h
  | [a], h => absurd (by simp) h
  | a :: b :: r, _ => ⟨a, b, r, rfl⟩
theorem wrap_two {x y : Nat} (hx : x < 256) (hy : y < 256) : IntKind.i64.wrap (IntKind.i64.wrap (IntKind.i64.wrap (x : Int) * 256) + IntKind.i64.wrap (y : Int)) = ((x * 256 + y : Nat) : Int) := by
  have a1 : IntKind.i64.wrap (x : Int) = x := by rw [IntKind.wrap_i64]; omega
  have a2 : IntKind.i64.wrap (y : Int) = y := by rw [IntKind.wrap_i64]; omega
  have a3 : IntKind.i64.wrap ((x : Int) * 256) = x * 256 := by rw [IntKind.wrap_i64]; omega
  have a4 : IntKind.i64.wrap ((x : Int) * 256 + y) = x * 256 + y := by rw [IntKind.wrap_i64]; omega
  rw [a1, a2, a3, a4]
  omega
set_option maxHeartbeats 800000 in
theorem dcount_any (rb most : Nat) (hm : most ≤ 64) (o : Option Bs) (w : World) (h : RdD w rb o) :
    Calls Try.prog 57 #[.pointer (some ⟨rb, 0, none⟩), .int .i64 most] w fun z w' =>
      Off (· = rb) w w' ∧ ∃ (n : Nat) (o1 : Option Bs), n ≤ most ∧ z = .returned (.int .i64 n) ∧ Step (parC most) o n o1 ∧ RdD w' rb o1 := by
  have HR := Lib.hid h
  obtain ⟨s, hb, hl⟩ := h.ex
  have HBAD := Lib.hid h.bad
  have HBK := Lib.hid hb
  have k0 : w.cell? ⟨rb, 0, none⟩ = some (.string s) := by rw [cell_at hb]; rfl
  have k1 : w.cell? ⟨rb, 1, none⟩ = some (.bool o.isNone) := by rw [cell_at hb]; rfl
  have f0 : w.frozen? ⟨rb, 0, none⟩ = false := free_at hb
  have f1 : w.frozen? ⟨rb, 1, none⟩ = false := free_at hb
  cases o with
  | none =>
    have k1 : w.cell? ⟨rb, 1, none⟩ = some (.bool true) := k1
    clear hb hl h
    go_enter Try.func57, Try.ntmps57
    go_wp2_with fail
    go_ret
    exact ⟨Off.set (S := (· = rb)) w rfl _ _, 0, none, by omega, rfl, Or.inr ⟨rfl, rfl⟩, HBAD.out⟩
  | some l =>
    obtain ⟨rfl, hll⟩ := hl l rfl
    have k1 : w.cell? ⟨rb, 1, none⟩ = some (.bool false) := k1
    by_cases h2 : l.length < 2
    · have hsz := size_ofL l
      obtain ⟨m, em⟩ : ∃ m, l.length = m := ⟨_, rfl⟩
      obtain ⟨t, et⟩ : ∃ t, ofL l = t := ⟨_, rfl⟩
      have HP := Lib.hid (parC_short (most := most) h2)
      rw [em] at hsz hll h2
      rw [et] at hsz k0
      have d0 : decide ((m : Int) < 2) = true := decide_eq_true (by omega)
      clear hb hl h em et HBK
      go_enter Try.func57, Try.ntmps57
      go_wp2_with fail
      go_ret
      exact ⟨Off.set (S := (· = rb)) w rfl _ _, 0, none, by omega, rfl, Or.inr ⟨HP.out, rfl⟩, HBAD.out⟩
    · obtain ⟨a, b, r, rfl⟩ := two_of h2
      have hsz := size_ofL (a :: b :: r)
      have hdr := drop_ofL (a :: b :: r) 2
      rw [show (a :: b :: r).drop 2 = r from rfl] at hdr
      have g0 : (ofL (a :: b :: r))[0]? = some a := rfl
      have g1 : (ofL (a :: b :: r))[1]? = some b := rfl
      obtain ⟨m, em⟩ : ∃ m, (a :: b :: r).length = m := ⟨_, rfl⟩
      rw [em] at hsz hll h2 hdr
      have hm2 : (2 : Int) ≤ m := by omega
      have d0 : decide ((m : Int) < 2) = false := decide_eq_false (by omega)
      obtain ⟨t, et⟩ : ∃ t, ofL (a :: b :: r) = t := ⟨_, rfl⟩
      have ha := a.toNat_lt
      have hb8 := b.toNat_lt
      obtain ⟨x, ex⟩ : ∃ x, a.toNat = x := ⟨_, rfl⟩
      obtain ⟨y, ey⟩ : ∃ y, b.toNat = y := ⟨_, rfl⟩
      have HP := Lib.hid (show parC most (a :: b :: r) = if x * 256 + y > most then none else some (x * 256 + y, r) by simp only [parC]; rw [ex, ey])
      rw [ex] at ha
      rw [ey] at hb8
      have HT0 := Lib.hid (show ∀ h : 0 < t.size, (t[0]'h).toNat = x by subst et; intro _; exact ex)
      have HT1 := Lib.hid (show ∀ h : 1 < t.size, (t[1]'h).toNat = y by subst et; intro _; exact ey)
      have HLEFT := Lib.hid (HR.out.left (m := r) (by rw [List.length_cons, List.length_cons]; omega))
      rw [et] at hsz k0 hdr g0 g1
      obtain ⟨wd, ewd⟩ : ∃ wd, w.drew = wd := ⟨_, rfl⟩
      have hsd : Same w wd := by rw [← ewd]; exact drew_same w
      have HS0 := Lib.hid (show w.drew.cell? ⟨rb, 0, none⟩ = some (.string t) ∧ Same w w.drew from ⟨same_cell (drew_same w) k0, drew_same w⟩)
      have hbd := hsd.keep HBK.out
      have e0 : wd.cell? ⟨rb, 0, none⟩ = some (.string t) := same_cell hsd k0
      have ef0 : wd.frozen? ⟨rb, 0, none⟩ = false := free_at hbd
      obtain ⟨w5, ew5⟩ : ∃ w5, wd.setCell ⟨rb, 0, none⟩ (.string (ofL r)) = w5 := ⟨_, rfl⟩
      have hb5 := heap_set (o := 0) hbd (.string (ofL r))
      rw [ew5] at hb5
      have e1 : w5.cell? ⟨rb, 1, none⟩ = some (.bool false) := by rw [cell_at hb5]; rfl
      have ef1 : w5.frozen? ⟨rb, 1, none⟩ = false := free_at hb5
      have HO5 := Lib.hid (show Off (· = rb) w w5 from (Off.of_same hsd).trans (by rw [← ew5]; exact Off.set (S := (· = rb)) wd rfl _ _))
      have HR5 := Lib.hid (show RdD w5 rb (some r) by rw [← ew5]; exact (HR.out.same hsd).left (by rw [List.length_cons, List.length_cons]; omega))
      have HWX := Lib.hid (wrap_two ha hb8)
      have EWD := Lib.hid ewd
      have EW5 := Lib.hid ew5
      clear hb hl h em et ex ey ewd ew5 hsd hbd hb5
      go_enter Try.func57, Try.ntmps57
      go_upto_region 4 with fail
      go_region_held3 (fun w' => w'.cell? ⟨rb, 0, none⟩ = some (.string t) ∧ Same w w')
        (first
          | exact HS0.out
          | assumption
          | go_keep)
        (fail)
      all_goals
        rw [HT0.out, HT1.out, HWX.out, EWD.out]
        obtain ⟨n, en⟩ : ∃ n, x * 256 + y = n := ⟨_, rfl⟩
        rw [en]
        have HP2 := Lib.hid (show parC most (a :: b :: r) = if n > most then none else some (n, r) by rw [HP.out, en])
        clear en g0 g1
        by_cases hgt : n > most
        · have hd : decide ((n : Int) > (most : Int)) = true := decide_eq_true (by omega)
          go_upto_region 6 with fail
          rw [EW5.out]
          go_wp2_with fail
          go_ret
          exact ⟨HO5.out.trans (Off.set (S := (· = rb)) w5 rfl _ _), 0, none, by omega, rfl, Or.inr ⟨by show parC most (a :: b :: r) = none; rw [HP2.out, if_pos hgt], rfl⟩, HR5.out.bad⟩
        · have hd : decide ((n : Int) > (most : Int)) = false := decide_eq_false (by omega)
          go_upto_region 6 with fail
          rw [EW5.out]
          go_wp2_with fail
          go_ret
          exact ⟨HO5.out, n, some r, by omega, rfl, Or.inl ⟨r, by show parC most (a :: b :: r) = _; rw [HP2.out, if_neg hgt], rfl⟩, HR5.out⟩
theorem dend_any (rb : Nat) (o : Option Bs) (w : World) (h : RdD w rb o) :
    Calls Try.prog 56 #[.pointer (some ⟨rb, 0, none⟩)] w fun z w' => z = .returned (.bool (isEnd o)) ∧ w' = w := by
  obtain ⟨s, hb, hl⟩ := h.ex
  have k0 : w.cell? ⟨rb, 0, none⟩ = some (.string s) := by rw [cell_at hb]; rfl
  have k1 : w.cell? ⟨rb, 1, none⟩ = some (.bool o.isNone) := by rw [cell_at hb]; rfl
  cases o with
  | none =>
    have k1 : w.cell? ⟨rb, 1, none⟩ = some (.bool true) := k1
    clear hb hl h
    go_enter Try.func56, Try.ntmps56
    go_wp2_with fail
    go_ret
    exact ⟨rfl, rfl⟩
  | some l =>
    obtain ⟨rfl, _⟩ := hl l rfl
    have k1 : w.cell? ⟨rb, 1, none⟩ = some (.bool false) := k1
    have he := bytes_eq_nil l
    have HE := Lib.hid (show isEnd (some l) = l.isEmpty by cases l <;> rfl)
    obtain ⟨q, eq⟩ : ∃ q, l.isEmpty = q := ⟨_, rfl⟩
    rw [eq] at HE he
    obtain ⟨t, et⟩ : ∃ t, ofL l = t := ⟨_, rfl⟩
    have HQ := Lib.hid (show t.toList.isEmpty = q by rw [← et, toList_ofL]; exact eq)
    rw [et] at k0 he
    clear hb hl h eq et he
    rw [HE.out]
    go_enter Try.func56, Try.ntmps56
    go_wp2_with fail
    go_ret
    exact ⟨congrArg (fun q => Ending.returned (.bool q)) HQ.out, rfl⟩
theorem dbegin_any (l : Bs) (hl : l.length ≤ 1000000000) (k : UInt8) (kk : Int) (hk : (k.toNat : Int) = kk) (w : World) :
    Calls Try.prog 53 #[.string (ofL l), .int .u8 kk] w fun z w' =>
      Same w w' ∧ w'.heap.size = w.heap.size + 1 ∧ z = .returned (.pointer (some ⟨w.heap.size, 0, none⟩)) ∧ RdD w' w.heap.size (beg k l) := by
  have HBADN := Lib.hid (show ∀ s, RdD (w.alloc (.cells #[.string s, .bool true] 96)) w.heap.size none from fun s => ⟨s, heap_new w _, fun l e => by cases e⟩)
  have HNEW := Lib.hid (show ∀ r : Bs, r.length ≤ 1000000000 → RdD (w.alloc (.cells #[.string (ofL r), .bool false] 96)) w.heap.size (some r) from fun r hr => ⟨ofL r, heap_new w _, fun l e => by obtain rfl := Option.some.inj e; exact ⟨rfl, hr⟩⟩)
  have HZ := Lib.hid (show ∀ o : Obj, (w.alloc o).heap.size = w.heap.size + 1 from fun o => by simp)
  cases l with
  | nil =>
    have he := bytes_eq_nil []
    rw [show ([] : Bs).isEmpty = true from rfl] at he
    obtain ⟨t, et⟩ : ∃ t, ofL [] = t := ⟨_, rfl⟩
    have hq : t.toList.isEmpty = true := by rw [← et, toList_ofL]; rfl
    rw [et] at he ⊢
    clear et he
    go_enter Try.func53, Try.ntmps53
    go_wp2_with fail
    go_ret
    exact ⟨(Same.refl w).alloc _, HZ.out _, rfl, HBADN.out _⟩
  | cons b r =>
    have he := bytes_eq_nil (b :: r)
    rw [show (b :: r).isEmpty = false from rfl] at he
    have hsz := size_ofL (b :: r)
    have hdr := drop_ofL (b :: r) 1
    rw [show (b :: r).drop 1 = r from rfl] at hdr
    have g0 : (ofL (b :: r))[0]? = some b := rfl
    have hrl : r.length ≤ 1000000000 := by rw [List.length_cons] at hl; omega
    obtain ⟨m, em⟩ : ∃ m, (b :: r).length = m := ⟨_, rfl⟩
    have hm1 : 0 < m := by rw [← em]; simp
    rw [em] at hsz hdr hl
    obtain ⟨t, et⟩ : ∃ t, ofL (b :: r) = t := ⟨_, rfl⟩
    obtain ⟨x, ex⟩ : ∃ x, b.toNat = x := ⟨_, rfl⟩
    have HT0 := Lib.hid (show ∀ h : 0 < t.size, (t[0]'h).toNat = x by subst et; intro _; exact ex)
    have hq : t.toList.isEmpty = false := by rw [← et, toList_ofL]; rfl
    rw [et] at he hsz hdr g0 ⊢
    have hix : ∀ w : World, (Instr.index 9 (.string t) (.int .i64 0)).run Try.prog w = .ok (.int .u8 x) w := by
      intro w
      rw [run_index_string w 9 t .i64 0 Try.underlying9, dif_pos (by omega)]
      rw [show ((t[(0 : Int).toNat]'(by omega)).toNat) = x from HT0.out (by omega)]
    have HNB := Lib.hid (HNEW.out r hrl)
    have hx8 : x < 256 := by rw [← ex]; exact b.toNat_lt
    by_cases hbk : b = k
    · have hxk : (x : Int) = kk := by rw [← ex, hbk]; exact hk
      have HBG := Lib.hid (show beg k (b :: r) = some r by simp [beg, hbk])
      rw [HBG.out]
      subst hxk
      have hne : ((x : Int) != x) = false := by simp
      clear et em ex hk hbk he g0
      go_enter Try.func53, Try.ntmps53
      go_wp2_with fail
      go_ret
      exact ⟨(Same.refl w).alloc _, HZ.out _, rfl, HNB.out⟩
    · have hne : ((x : Int) != kk) = true := by
        simp
        intro e
        apply hbk
        apply UInt8.toNat_inj.1
        omega
      have HBG := Lib.hid (show beg k (b :: r) = none by simp [beg, hbk])
      rw [HBG.out]
      clear et em ex hk hbk he g0
      go_enter Try.func53, Try.ntmps53
      go_wp2_with fail
      go_ret
      exact ⟨(Same.refl w).alloc _, HZ.out _, rfl, HBADN.out _⟩
end Go.Proofs.Ytdbhcdhenapfoaa
