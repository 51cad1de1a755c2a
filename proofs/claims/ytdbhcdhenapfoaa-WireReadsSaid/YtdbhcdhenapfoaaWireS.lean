/- Layer 10: bytes as strings; blocks that a call may turn; the reader's take. -/
import Derived.Test.YtdbhcdhenapfoaaWireC
import Derived.Test.YtdbhcdhenapfoaaProg
import Derived.Maps.AppendAt
import Derived.Maps.OwnOps
import Derived.ArgAppend
import Derived.ChangeKeysEq
import Derived.Deep.RegionHeld3
import Derived.Laws.IdiomStrings
import Derived.Laws.Concat
import Derived.Laws.StructEq
import Derived.RowKit
import Derived.Laws.BitsLemmas
set_option linter.unusedVariables false
set_option linter.unusedSimpArgs false
namespace Go.Proofs.Ytdbhcdhenapfoaa
open Go.RowKit Go.Maps
def ofL (l : Bs) : ByteArray := ⟨l.toArray⟩
theorem size_ofL (l : Bs) : (ofL l).size = l.length := by simp [ofL, ByteArray.size]
theorem extract_ofL (l : Bs) (i j : Nat) : (ofL l).extract i j = ofL ((l.drop i).take (j - i)) := ByteArray.extract_mk l i j
theorem take_ofL (l : Bs) (n : Nat) : (ofL l).extract 0 n = ofL (l.take n) := by rw [extract_ofL]; simp
theorem drop_ofL (l : Bs) (n : Nat) : (ofL l).extract n l.length = ofL (l.drop n) := by rw [extract_ofL, List.take_of_length_le (by rw [List.length_drop]; omega)]
theorem toList_ofL (l : Bs) : (ofL l).toList = l := by rw [ByteArray.toList_eq]; simp [ofL]
theorem of_toList (s : ByteArray) : ofL s.toList = s := by rw [ByteArray.toList_eq]; rfl
theorem get_ofL (l : Bs) (i : Nat) (h : i < l.length) : (ofL l)[i]? = some (l[i]'h) := by
  rw [ByteArray.getElem?_lt' _ _ (by rw [size_ofL]; exact h)]
  rfl
theorem append_ofL (l m : Bs) : ofL l ++ ofL m = ofL (l ++ m) := ByteArray.mk_append_mk l m
theorem ofL_nil : ofL [] = { data := #[] } := rfl
/-- what a call has turned lies in S or is new -/
structure Off (S : Nat → Prop) (w w' : World) : Prop where
  os : w'.os = w.os
  tape : w'.tape = w.tape
  output : w'.output = w.output
  size : w.heap.size ≤ w'.heap.size
  block : ∀ k, k < w.heap.size → ¬ S k → w'.heap[k]? = w.heap[k]?
theorem Off.refl (S : Nat → Prop) (w : World) : Off S w w := ⟨rfl, rfl, rfl, Nat.le_refl _, fun _ _ _ => rfl⟩
theorem Off.trans {S : Nat → Prop} {a b c : World} (h : Off S a b) (k : Off S b c) : Off S a c :=
  ⟨k.os.trans h.os, k.tape.trans h.tape, k.output.trans h.output, Nat.le_trans h.size k.size, fun i hi hne => (k.block i (Nat.lt_of_lt_of_le hi h.size) hne).trans (h.block i hi hne)⟩
theorem Off.mono {S T : Nat → Prop} {w w' : World} (h : Off S w w') (hs : ∀ k, k < w.heap.size → S k → T k) : Off T w w' := ⟨h.os, h.tape, h.output, h.size, fun k hk hne => h.block k hk (fun e => hne (hs k hk e))⟩
theorem Off.of_same {S : Nat → Prop} {w w' : World} (h : Same w w') : Off S w w' := ⟨h.os, h.tape, h.output, h.size, fun k hk _ => h.block k hk⟩
theorem Off.same {w w' : World} (h : Off (fun _ => False) w w') : Same w w' := ⟨h.os, h.tape, h.output, h.size, fun k hk => h.block k hk (fun e => e)⟩
theorem heap_far (w : World) {g o k : Nat} (hk : k ≠ g) (v : Value) : (w.setCell ⟨g, o, none⟩ v).heap[k]? = w.heap[k]? := by
  show (w.heap.modify g _)[k]? = _
  rw [Array.getElem?_modify]
  split
  · rename_i e; exact absurd e.symm hk
  · rfl
theorem Off.set {S : Nat → Prop} (w : World) {b : Nat} (hb : S b) (o : Nat) (v : Value) : Off S w (w.setCell ⟨b, o, none⟩ v) := ⟨rfl, rfl, rfl, by simp [World.setCell], fun k _ hne => heap_far w (fun e => hne (by rw [e]; exact hb)) v⟩
theorem Off.alloc {S : Nat → Prop} {a w : World} (h : Off S a w) (o : Obj) : Off S a (w.alloc o) := h.trans (Off.of_same ((Same.refl w).alloc o))
theorem Off.cell {S : Nat → Prop} {w w' : World} (h : Off S w w') {b o : Nat} {v : Value} (hne : ¬ S b) (hc : w.cell? ⟨b, o, none⟩ = some v) : w'.cell? ⟨b, o, none⟩ = some v :=
  (World.cell?_of_block (w := w) (h.block b (World.block_lt_of_cell? w ⟨b, o, none⟩ hc) hne)).trans hc
theorem Off.keep {S : Nat → Prop} {w w' : World} (h : Off S w w') {b : Nat} {o : Obj} (hne : ¬ S b) (hc : w.heap[b]? = some o) : w'.heap[b]? = some o := by
  rw [h.block b (Array.getElem?_eq_some_iff.1 hc).1 hne]; exact hc
theorem Off.below {S : Nat → Prop} {w w' : World} {B : Nat} (h : Off S w w') (hB : ∀ k, k < B → ¬ S k) (hw : B ≤ w.heap.size) : Below B w w' := ⟨h.os, h.tape, h.output, h.size, fun k hk => h.block k (by omega) (hB k hk)⟩
theorem cell_at {w : World} {g o : Nat} {cur : Array Value} {t : TypeId} {f : Nat × Nat} (h : w.heap[g]? = some (.cells cur t f)) : w.cell? ⟨g, o, none⟩ = cur[o]? := by simp [World.cell?, h]
theorem free_at {w : World} {g o : Nat} {cur : Array Value} {t : TypeId} (h : w.heap[g]? = some (.cells cur t (0, 0))) : w.frozen? ⟨g, o, none⟩ = false := by simp [World.frozen?, h]
theorem heap_set {w : World} {g o : Nat} {cur : Array Value} {t : TypeId} {f : Nat × Nat} (h : w.heap[g]? = some (.cells cur t f)) (v : Value) : (w.setCell ⟨g, o, none⟩ v).heap[g]? = some (.cells (cur.setIfInBounds o v) t f) := by
  have hlt := (Array.getElem?_eq_some_iff.1 h).1
  have h' : w.heap[g] = .cells cur t f := (Array.getElem?_eq_some_iff.1 h).2
  show (w.heap.modify g _)[g]? = _
  rw [Array.getElem?_eq_getElem (by simpa using hlt), Array.getElem_modify_self, h']
  rfl
theorem heap_new (w : World) (o : Obj) : (w.alloc o).heap[w.heap.size]? = some o := (MapKept.heap_alloc _ _).1
theorem drew_same (w : World) : Same w w.drew := (Below.refl _ w).drew
theorem Same.keep {w w' : World} (h : Same w w') {b : Nat} {o : Obj} (hc : w.heap[b]? = some o) : w'.heap[b]? = some o := by
  rw [h.block b (Array.getElem?_eq_some_iff.1 hc).1]; exact hc
/-- what is given up with -/
abbrev badP : PanicEntry := { v := .iface 103 (.agg #[]), recovered := false }
/-- a reader that has l left -/
abbrev RdrAt (w : World) (rb : Nat) (l : Bs) : Prop := w.heap[rb]? = some (.cells #[.string (ofL l)] 106 (0, 0))
theorem take_any (rb : Nat) (l : Bs) (n : Nat) (hl : l.length ≤ 1000000000) (hn : n ≤ 1000000000) (w : World) (h : RdrAt w rb l) :
    Calls Try.prog 62 #[.pointer (some ⟨rb, 0, none⟩), .int .i64 n] w fun z w' =>
      (n ≤ l.length ∧ z = .returned (.string (ofL (l.take n))) ∧ w' = w.setCell ⟨rb, 0, none⟩ (.string (ofL (l.drop n)))) ∨ (l.length < n ∧ z = .panicked [badP] ∧ w' = w) := by
  have h0 : w.cell? ⟨rb, 0, none⟩ = some (.string (ofL l)) := by rw [cell_at h]; rfl
  have hf : w.frozen? ⟨rb, 0, none⟩ = false := free_at h
  have hsz := size_ofL l
  obtain ⟨m, em⟩ : ∃ m, l.length = m := ⟨_, rfl⟩
  have ht := take_ofL l n
  have hd := drop_ofL l n
  rw [em] at hsz hl hd ⊢
  obtain ⟨tl, etl⟩ : ∃ x, ofL l = x := ⟨_, rfl⟩
  rw [etl] at h0 hsz ht hd
  clear h em
  by_cases hnm : n ≤ m
  · have d0 : decide ((n : Int) > (m : Int)) = false := decide_eq_false (by omega)
    have hn0 : (0 : Int) ≤ n := by omega
    have hn1 : (n : Int) ≤ m := by omega
    go_enter Try.func62, Try.ntmps62
    go_wp2_with fail
    go_ret
    exact Or.inl ⟨hnm, rfl, rfl⟩
  · have d0 : decide ((n : Int) > (m : Int)) = true := decide_eq_true (by omega)
    go_enter Try.func62, Try.ntmps62
    go_wp2_with fail
    exact ⟨rfl, Or.inr ⟨by omega, rfl, rfl⟩⟩
theorem str_bytes (w : World) (l : Bs) : ∃ cap w', (convert 9 99 (.string (ofL l))).run Try.prog w = .ok (.slice (some ⟨w.heap.size, 0, none⟩) l.length cap) w' ∧ Same w w' ∧ ∀ i, i < l.length → w'.cell? ⟨w.heap.size, i, none⟩ = some (.int .u8 (l.getD i 0).toNat) := by
  have h := run_bytes_of_string (P := Try.prog) w 9 99 5 (ofL l) Try.underlying9 Try.underlying99 Try.underlying5
  rw [size_ofL] at h
  refine ⟨_, _, h, (drew_same w).trans ((Same.refl _).alloc _), fun i hi => ?_⟩
  have e := World.cell?_alloc_mark w.drew (bytesRow (ofL l) (grownCap w l.length 0 5)) 5 ((bytesRow (ofL l) (grownCap w l.length 0 5)).size, (bytesRow (ofL l) (grownCap w l.length 0 5)).size + 1) i
  refine (e : _).trans ?_
  rw [bytesRow_at _ _ _ (show i < (ofL l).data.size by simpa [ofL] using hi)]
  simp [ofL, List.getD, List.getElem?_eq_getElem hi]
theorem take_snocB (l : Bs) (n : Nat) (h : n < l.length) : l.take (n + 1) = l.take n ++ [l.getD n 0] := by
  rw [List.take_add_one]; simp [List.getD, List.getElem?_eq_getElem h]
theorem or_u64 (x y : Int) (h0 : 0 ≤ x) (h1 : x % 256 = 0) (h2 : x < 18446744073709551616) (h3 : 0 ≤ y) (h4 : y < 256) : bits .or .u64 x y = x + y :=
  bits_join .u64 64 (by decide) (fun n h h' => by rw [IntKind.wrap_u64]; omega) 8 x y h0 h1 h2 h3 h4 (by omega)
theorem or_i64 (x y : Int) (h0 : 0 ≤ x) (h1 : x % 256 = 0) (h2 : x < 9223372036854775808) (h3 : 0 ≤ y) (h4 : y < 256) : bits .or .i64 x y = x + y :=
  bits_join .i64 63 (by decide) (fun n h h' => by rw [IntKind.wrap_i64]; omega) 8 x y h0 h1 h2 h3 h4 (by omega)
theorem num_any (rb : Nat) (l : Bs) (hl : l.length ≤ 1000000000) (w : World) (h : RdrAt w rb l) :
    Calls Try.prog 49 #[.pointer (some ⟨rb, 0, none⟩)] w fun z w' =>
      Off (· = rb) w w' ∧ ((∃ x r, parN l = some (x, r) ∧ z = .returned (.int .u64 x) ∧ RdrAt w' rb r) ∨ (parN l = none ∧ z = .panicked [badP])) := by
  have HR := Lib.hid h
  go_enter Try.func49, Try.ntmps49
  go_wp2_with fail
  refine (take_any rb l 8 hl (by omega) w HR.out).mono ?_
  rintro e w2 (⟨h8, rfl, rfl⟩ | ⟨h8, rfl, rfl⟩)
  · obtain ⟨w2, ew2⟩ : ∃ w2, w.setCell ⟨rb, 0, none⟩ (.string (ofL (l.drop 8))) = w2 := ⟨_, rfl⟩
    have HO2 := Lib.hid (show Off (· = rb) w w2 by rw [← ew2]; exact Off.set (S := (· = rb)) w rfl _ _)
    have HR2 := Lib.hid (show RdrAt w2 rb (l.drop 8) by rw [← ew2]; exact heap_set HR.out _)
    obtain ⟨l8, el8⟩ : ∃ l8, l.take 8 = l8 := ⟨_, rfl⟩
    have h88 : l8.length = 8 := by rw [← el8, List.length_take]; omega
    obtain ⟨cap, w3, hconv, hs3, hc3⟩ := str_bytes w2 l8
    have HP := Lib.hid (show parN l = some (((numV l8 : Nat) : Int), l.drop 8) by unfold parN; rw [if_neg (by omega), el8])
    rw [h88] at hconv
    rw [el8, ew2]
    have HC3 := Lib.hid hc3
    have HS3 := Lib.hid hs3
    have HL8 := Lib.hid h88
    clear ew2 el8 hs3 hc3 h88 h h8
    go_wp2_with fail
    go_loopw [3, 10] (fun s3 s10 wr => ∃ i : Nat, s10 = .int .i64 i ∧ s3 = .int .u64 (numV (l8.take i) : Nat) ∧ i ≤ 8 ∧ Hid (Same w3 wr)) (fun _ s10 _ => 8 - (intOf s10).toNat)
    case atStart => exact ⟨0, rfl, rfl, by omega, Lib.hid (Same.refl _)⟩
    case round =>
      obtain ⟨i, rfl, rfl, hi, hD⟩ := hrel
      by_cases hlt : i < 8
      · have hci := same_cell hD.out (HC3.out i (by rw [HL8.out]; exact hlt))
        have HV := Lib.hid (show numV (l8.take (i + 1)) = numV (l8.take i) * 256 + (l8.getD i 0).toNat by rw [take_snocB l8 i (by rw [HL8.out]; exact hlt), numV_snoc])
        obtain ⟨b, eb⟩ : ∃ b, (l8.getD i 0).toNat = b := ⟨_, rfl⟩
        have hb : b < 256 := by rw [← eb]; exact UInt8.toNat_lt _
        obtain ⟨v, ev⟩ : ∃ v, numV (l8.take i) = v := ⟨_, rfl⟩
        have hv : v < 72057594037927936 := by
          have h1 := numV_lt i (l8.take i) (by rw [List.length_take, HL8.out]; omega)
          have h2 : 256 ^ i ≤ 256 ^ 7 := Nat.pow_le_pow_right (by omega) (by omega)
          rw [← ev]; omega
        rw [eb] at hci
        rw [eb, ev] at HV
        rw [ev]
        have hi0 : (0 : Int) ≤ i := by omega
        have hi8 : (i : Int) < 8 := by omega
        clear eb ev
        have HOR := Lib.hid (show bits .or .u64 ((v : Int) * 256) (b : Int) = ((v * 256 + b : Nat) : Int) by rw [or_u64 _ _ (by omega) (by omega) (by omega) (by omega) (by omega)]; omega)
        go_wp2_with fail
        go_roundw
        case rel => exact ⟨i + 1, by go_num, by rw [HOR.out, HV.out], by omega, hD⟩
        case measure => simp [intOf]; omega
      · obtain rfl : i = 8 := by omega
        have HT8 := Lib.hid (show l8.take 8 = l8 from List.take_of_length_le (by rw [HL8.out]; omega))
        go_wp2_with fail
        go_ret
        exact ⟨HO2.out.trans (Off.of_same (HS3.out.trans hD.out)), Or.inl ⟨_, _, HP.out, by rw [HT8.out]; rfl, (HS3.out.trans hD.out).keep HR2.out⟩⟩
  · go_wp2_with fail
    exact ⟨rfl, Off.refl _ _, Or.inr ⟨by unfold parN; rw [if_pos h8], rfl⟩⟩
theorem count_any (rb most : Nat) (l : Bs) (hl : l.length ≤ 1000000000) (hm : most ≤ 64) (w : World) (h : RdrAt w rb l) :
    Calls Try.prog 39 #[.pointer (some ⟨rb, 0, none⟩), .int .i64 most] w fun z w' =>
      Off (· = rb) w w' ∧ ((∃ n r, parC most l = some (n, r) ∧ z = .returned (.int .i64 (n : Nat)) ∧ RdrAt w' rb r ∧ n ≤ most) ∨ (parC most l = none ∧ z = .panicked [badP])) := by
  have HR := Lib.hid h
  go_enter Try.func39, Try.ntmps39
  go_wp2_with fail
  refine (take_any rb l 2 hl (by omega) w HR.out).mono ?_
  rintro e w2 (⟨h8, rfl, rfl⟩ | ⟨h8, rfl, rfl⟩)
  · obtain ⟨a, b, r, rfl⟩ : ∃ a b r, l = a :: b :: r := by
      match l, h8 with
      | a :: b :: r, _ => exact ⟨a, b, r, rfl⟩
    obtain ⟨w2, ew2⟩ : ∃ w2, w.setCell ⟨rb, 0, none⟩ (.string (ofL ((a :: b :: r).drop 2))) = w2 := ⟨_, rfl⟩
    have HO2 := Lib.hid (show Off (· = rb) w w2 by rw [← ew2]; exact Off.set (S := (· = rb)) w rfl _ _)
    have HR2 := Lib.hid (show RdrAt w2 rb r by rw [← ew2]; exact heap_set HR.out _)
    have g0 : (ofL [a, b])[0]? = some a := rfl
    have g1 : (ofL [a, b])[1]? = some b := rfl
    rw [ew2]
    obtain ⟨t, et⟩ : ∃ t, ofL [a, b] = t := ⟨_, rfl⟩
    have ht : ofL ((a :: b :: r).take 2) = t := et
    rw [ht]
    rw [et] at g0 g1
    have ha := a.toNat_lt
    have hb := b.toNat_lt
    obtain ⟨x, ex⟩ : ∃ x, a.toNat = x := ⟨_, rfl⟩
    obtain ⟨y, ey⟩ : ∃ y, b.toNat = y := ⟨_, rfl⟩
    have HP := Lib.hid (show parC most (a :: b :: r) = if x * 256 + y > most then none else some (x * 256 + y, r) by simp only [parC]; rw [ex, ey])
    rw [ex] at ha
    rw [ey] at hb
    have HOR := Lib.hid (show bits .or .i64 ((x : Int) * 256) (y : Int) = ((x * 256 + y : Nat) : Int) by rw [or_i64 _ _ (by omega) (by omega) (by omega) (by omega) (by omega)]; omega)
    have hsz : t.size = 2 := by rw [← et]; rfl
    have HT0 := Lib.hid (show ∀ h : 0 < t.size, (t[0]'h).toNat = x by subst et; intro _; exact ex)
    have HT1 := Lib.hid (show ∀ h : 1 < t.size, (t[1]'h).toNat = y by subst et; intro _; exact ey)
    have HWX := Lib.hid (show IntKind.i64.wrap (IntKind.i64.wrap (x : Int) * 256) = (x : Int) * 256 ∧ IntKind.i64.wrap (y : Int) = (y : Int) by simp only [IntKind.wrap_i64]; omega)
    clear ew2 et ht h h8
    go_upto_region 2 with fail
    have hS0 : Same w2 w2.drew := drew_same w2
    have HS0 := Lib.hid hS0
    clear hS0
    go_region_held3 (fun w' => True)
      (first
        | trivial
        | assumption)
      (first
        | fail)
    all_goals
      rw [HT0.out, HT1.out, HWX.out.1, HWX.out.2, HOR.out]
      obtain ⟨n, en⟩ : ∃ n, x * 256 + y = n := ⟨_, rfl⟩
      rw [en]
      have HP2 := Lib.hid (show parC most (a :: b :: r) = if n > most then none else some (n, r) by rw [HP.out, en])
      clear en g0 g1
      by_cases hgt : n > most
      · have hd : decide ((n : Int) > (most : Int)) = true := decide_eq_true (by omega)
        go_wp2_with fail
        exact ⟨rfl, HO2.out.trans (Off.of_same HS0.out), Or.inr ⟨by rw [HP2.out, if_pos hgt], rfl⟩⟩
      · have hd : decide ((n : Int) > (most : Int)) = false := decide_eq_false (by omega)
        go_wp2_with fail
        go_ret
        exact ⟨HO2.out.trans (Off.of_same HS0.out), Or.inl ⟨n, r, by rw [HP2.out, if_neg hgt], rfl, HS0.out.keep HR2.out, by omega⟩⟩
  · go_wp2_with fail
    refine ⟨rfl, Off.refl _ _, Or.inr ⟨?_, rfl⟩⟩
    match l, h8 with
    | [], _ => rfl
    | [a], _ => rfl
end Go.Proofs.Ytdbhcdhenapfoaa
