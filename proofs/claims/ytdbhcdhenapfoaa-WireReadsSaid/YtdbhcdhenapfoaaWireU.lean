/- Layer 10: what is mixed is written. -/
import Derived.Test.YtdbhcdhenapfoaaWireZ
set_option linter.unusedVariables false
set_option linter.unusedSimpArgs false
namespace Go.Proofs.Ytdbhcdhenapfoaa
open Go.RowKit Go.Maps
/-- letters, as they stand in memory -/
structure LetsAt (w : World) (a : Option Addr) (n : Nat) (ls : List LetterD) : Prop where
  len : ls.length = n
  small : n ≤ 9223372036854775807
  it : ∀ j, j < n → ∃ b off x0 x1 x2 x3 x4 x5 a1 n1 c1 a2 n2 c2, a = some ⟨b, off, none⟩ ∧ (ls.getD j ([], [], [])).1 = [x0, x1, x2, x3, x4, x5] ∧ (∀ x ∈ [x0, x1, x2, x3, x4, x5], U64 x) ∧
    (∀ i, i < 8 → w.cell? ⟨b, off + j * 8 + i, none⟩ = [Value.int .u64 x0, .int .u64 x1, .int .u64 x2, .int .u64 x3, .int .u64 x4, .int .u64 x5, .slice a1 n1 c1, .slice a2 n2 c2][i]?) ∧ IntsAt w a1 n1 (ls.getD j ([], [], [])).2.1 ∧ IntsAt w a2 n2 (ls.getD j ([], [], [])).2.2
theorem cell_some {w w' : World} (hs : Same w w') {p : Addr} {v : Option Value} (hv : v.isSome = true) (h : w.cell? p = v) : w'.cell? p = v := by
  obtain ⟨u, rfl⟩ := Option.isSome_iff_exists.1 hv
  exact same_cell hs h
theorem LetsAt.same {w w' : World} {a : Option Addr} {n : Nat} {ls : List LetterD} (h : LetsAt w a n ls) (hs : Same w w') : LetsAt w' a n ls := by
  refine ⟨h.len, h.small, fun j hj => ?_⟩
  obtain ⟨b, off, x0, x1, x2, x3, x4, x5, a1, n1, c1, a2, n2, c2, e1, e2, e3, e4, e5, e6⟩ := h.it j hj
  exact ⟨b, off, x0, x1, x2, x3, x4, x5, a1, n1, c1, a2, n2, c2, e1, e2, e3, fun i hi => cell_some hs (by rw [List.getElem?_eq_getElem (by simpa using hi)]; rfl) (e4 i hi), e5.same hs, e6.same hs⟩
/-- boxes, as they stand in memory -/
structure BoxesAt (w : World) (a : Option Addr) (n : Nat) (bs : List (List Int)) : Prop where
  len : bs.length = n
  small : n ≤ 9223372036854775807
  it : ∀ j, j < n → ∃ b off x0 x1 x2 x3 x4 x5, a = some ⟨b, off, none⟩ ∧ bs.getD j [] = [x0, x1, x2, x3, x4, x5] ∧ (∀ x ∈ [x0, x1, x2, x3, x4, x5], U64 x) ∧ (∀ i, i < 6 → w.cell? ⟨b, off + j * 6 + i, none⟩ = [Value.int .u64 x0, .int .u64 x1, .int .u64 x2, .int .u64 x3, .int .u64 x4, .int .u64 x5][i]?)
theorem BoxesAt.same {w w' : World} {a : Option Addr} {n : Nat} {bs : List (List Int)} (h : BoxesAt w a n bs) (hs : Same w w') : BoxesAt w' a n bs := by
  refine ⟨h.len, h.small, fun j hj => ?_⟩
  obtain ⟨b, off, x0, x1, x2, x3, x4, x5, e1, e2, e3, e4⟩ := h.it j hj
  exact ⟨b, off, x0, x1, x2, x3, x4, x5, e1, e2, e3, fun i hi => cell_some hs (by rw [List.getElem?_eq_getElem (by simpa using hi)]; rfl) (e4 i hi)⟩
/-- what is mixed, as it stands in memory -/
structure MixIn (w : World) (a0 : Option Addr) (n0 : Nat) (a1 : Option Addr) (n1 : Nat) (a2 : Option Addr) (n2 : Nat) (a3 : Option Addr) (n3 : Nat) (a4 : Option Addr) (n4 : Nat) (a5 : Option Addr) (n5 : Nat) (a6 : Option Addr) (n6 : Nat) (x : MixD) : Prop where
  o0 : LetsAt w a0 n0 x.1
  o1 : BoxesAt w a1 n1 x.2.1
  o2 : IntsAt w a2 n2 x.2.2.1
  o3 : IntsAt w a3 n3 x.2.2.2.1
  o4 : IntsAt w a4 n4 x.2.2.2.2.1
  o5 : IntsAt w a5 n5 x.2.2.2.2.2.1
  o6 : IntsAt w a6 n6 x.2.2.2.2.2.2
theorem MixIn.same {w w' : World} {a0 : Option Addr} {n0 : Nat} {a1 : Option Addr} {n1 : Nat} {a2 : Option Addr} {n2 : Nat} {a3 : Option Addr} {n3 : Nat} {a4 : Option Addr} {n4 : Nat} {a5 : Option Addr} {n5 : Nat} {a6 : Option Addr} {n6 : Nat} {x : MixD} (h : MixIn w a0 n0 a1 n1 a2 n2 a3 n3 a4 n4 a5 n5 a6 n6 x) (hs : Same w w') : MixIn w' a0 n0 a1 n1 a2 n2 a3 n3 a4 n4 a5 n5 a6 n6 x :=
  ⟨h.o0.same hs, h.o1.same hs, h.o2.same hs, h.o3.same hs, h.o4.same hs, h.o5.same hs, h.o6.same hs⟩
theorem flat_le {α : Type} {f : α → Bs} {K : Nat} : ∀ (xs : List α), (∀ x ∈ xs, (f x).length ≤ K) → (xs.flatMap f).length ≤ K * xs.length
  | [], _ => by simp
  | x :: xs, h => by
    have h1 := h x List.mem_cons_self
    have h2 := flat_le xs (fun y hy => h y (List.mem_cons_of_mem _ hy))
    rw [List.flatMap_cons, List.length_append, List.length_cons, Nat.mul_succ]; omega
theorem getD_mem {α : Type} {xs : List α} {i : Nat} {d : α} (h : i < xs.length) : xs.getD i d ∈ xs := by
  rw [show xs.getD i d = xs[i] by simp [List.getD, List.getElem?_eq_getElem h]]; exact List.getElem_mem h
theorem take_ok {α : Type} {ok : α → Prop} {xs : List α} {i : Nat} {d : α} (hlt : i < xs.length) (h : ∀ x ∈ xs.take i, ok x) (k : ok (xs.getD i d)) : ∀ x ∈ xs.take (i + 1), ok x := by
  have e : xs[i]?.toList = [xs.getD i d] := by simp [List.getD, List.getElem?_eq_getElem hlt]
  intro x hx
  rw [List.take_add_one, e] at hx
  rcases List.mem_append.1 hx with hx | hx
  · exact h x hx
  · rw [List.mem_singleton.1 hx]; exact k
set_option maxHeartbeats 3200000 in
theorem putMixing (xb lo : Nat) (a0 : Option Addr) (n0 c0 : Nat) (a1 : Option Addr) (n1 c1 : Nat) (a2 : Option Addr) (n2 c2 : Nat) (a3 : Option Addr) (n3 c3 : Nat) (a4 : Option Addr) (n4 c4 : Nat) (a5 : Option Addr) (n5 c5 : Nat) (a6 : Option Addr) (n6 c6 : Nat) (x : MixD) (W : World) (hx : MixIn W a0 n0 a1 n1 a2 n2 a3 n3 a4 n4 a5 n5 a6 n6 x) (hlo : W.heap.size = lo) :
    Puts 27 xb lo (mixC.ok x) (mixC.enc x) (fun u => Below lo W u ∧ u.heap[xb]? = some (.cells #[.slice a0 n0 c0, .slice a1 n1 c1, .slice a2 n2 c2, .slice a3 n3 c3, .slice a4 n4 c4, .slice a5 n5 c5, .slice a6 n6 c6] 30 (0, 0))) where
  enter := fun args w => by kernel_rfl
  stay := fun w w' h k => ⟨h.1.trans (Below.mono k (by have := h.1.size; omega)), k.keep h.2⟩
  run := fun wb l w hl hne hW hR => by
    subst hlo
    obtain ⟨ls, bs, xa, xo, xp, pr⟩ := x
    have HB := Lib.hid hR.1
    have HX := Lib.hid hR.2
    have HW := Lib.hid hW
    have HI := Lib.hid hx
    have HN := Lib.hid hne
    have HNL := Lib.hid (show ls.length = n0 from hx.o0.len)
    have HNB := Lib.hid (show bs.length = n1 from hx.o1.len)
    have g0 : w.cell? ⟨xb, 0, none⟩ = some (.slice a0 n0 c0) := by rw [cell_at HX.out]; rfl
    clear hR hW hx hne
    go_enter Try.func27, Try.ntmps27
    go_wp2_with fail
    refine (wcount_any W.heap.size wb l n0 8 (by omega) (by omega) w HW.out).mono ?_
    rintro e w2 (⟨hn, rfl, hO, hV⟩ | ⟨hn, rfl, rfl⟩)
    case inr =>
      go_wp2_with fail
      exact ⟨rfl, Wrote.refl _ _ _, Or.inr ⟨fun h => by have h1 := h.1.1.1; have h2 := HNL.out; simp only at h1; omega, rfl⟩⟩
    have hX2 := hO.keep HX.out (fun e => HN.out e.symm) (by decide)
    have HX2 := Lib.hid hX2
    have g2 : w2.cell? ⟨xb, 0, none⟩ = some (.slice a0 n0 c0) := by rw [cell_at hX2]; rfl
    have HO := Lib.hid hO
    have HV := Lib.hid hV
    have hn0 : (0 : Int) ≤ n0 := by omega
    clear hO hV hX2 g0
    go_wp2_with fail
    clear g2
    go_loopw [15] (fun s15 wr => ∃ i : Nat, s15 = .int .i64 i ∧ i ≤ n0 ∧ Hid (WrAt wr wb W.heap.size (l ++ encC n0 ++ (ls.take i).flatMap letterC.enc) ∧ Wrote W.heap.size wb w wr ∧ ∀ x ∈ ls.take i, letterC.ok x)) (fun s15 _ => n0 - (intOf s15).toNat)
    case atStart => exact ⟨0, rfl, by omega, Lib.hid ⟨by simpa using HV.out, HO.out, by simp⟩⟩
    case round =>
      obtain ⟨i, rfl, hi', hH⟩ := hrel
      obtain ⟨wo, rfl⟩ : ∃ wz, wz = wr := ⟨_, rfl⟩
      by_cases hlt : i < n0
      · have hi0 : (0 : Int) ≤ i := by omega
        have hi1 : (i : Int) < n0 := by omega
        have HBo := Lib.hid (HB.out.trans (hH.out.2.1.below HW.out.size))
        obtain ⟨bk, off, x0, x1, x2, x3, x4, x5, ya, yn, yc, za, zn, zc, rfl, e2, hu, hc, q1, q2⟩ := HI.out.o0.it i hlt
        have g0 : wo.cell? ⟨bk, off + i * 8, none⟩ = some (.int .u64 x0) := same_cell HBo.out (hc 0 (by omega))
        have g1 : wo.cell? ⟨bk, off + i * 8 + 1, none⟩ = some (.int .u64 x1) := same_cell HBo.out (hc 1 (by omega))
        have g2 : wo.cell? ⟨bk, off + i * 8 + 2, none⟩ = some (.int .u64 x2) := same_cell HBo.out (hc 2 (by omega))
        have g3 : wo.cell? ⟨bk, off + i * 8 + 3, none⟩ = some (.int .u64 x3) := same_cell HBo.out (hc 3 (by omega))
        have g4 : wo.cell? ⟨bk, off + i * 8 + 4, none⟩ = some (.int .u64 x4) := same_cell HBo.out (hc 4 (by omega))
        have g5 : wo.cell? ⟨bk, off + i * 8 + 5, none⟩ = some (.int .u64 x5) := same_cell HBo.out (hc 5 (by omega))
        have g6 : wo.cell? ⟨bk, off + i * 8 + 6, none⟩ = some (.slice ya yn yc) := same_cell HBo.out (hc 6 (by omega))
        have g7 : wo.cell? ⟨bk, off + i * 8 + 7, none⟩ = some (.slice za zn zc) := same_cell HBo.out (hc 7 (by omega))
        simp only at e2 q1 q2
        have HU := Lib.hid hu
        have HGE := Lib.hid (show ls.getD i ([], [], []) = ([x0, x1, x2, x3, x4, x5], (ls.getD i ([], [], [])).2) by rw [← e2])
        obtain ⟨p, ep⟩ : ∃ p, (ls.getD i ([], [], [])).2 = p := ⟨_, rfl⟩
        rw [ep] at q1 q2 HGE
        have HMEM := Lib.hid (getD_mem (d := (([], [], []) : LetterD)) (show i < ls.length by have := HNL.out; omega))
        have HTK := Lib.hid (take_flat letterC.enc ls i ([], [], []) (show i < ls.length by have := HNL.out; omega))
        have HOKN := Lib.hid (fun k => take_ok (ok := letterC.ok) (d := (([], [], []) : LetterD)) (show i < ls.length by have := HNL.out; omega) hH.out.2.2 k)
        rw [HGE.out] at HMEM HTK HOKN
        obtain ⟨l1, el1⟩ : ∃ l1, l ++ encC n0 ++ (ls.take i).flatMap letterC.enc = l1 := ⟨_, rfl⟩
        have hl1 : l1.length ≤ 100000 := by
          have h1 := flat_le (f := letterC.enc) (K := 1076) (ls.take i) (fun x hx => letter_len (hH.out.2.2 x hx))
          rw [List.length_take] at h1
          rw [← el1, List.length_append, List.length_append]
          have h2 : (encC n0).length = 2 := rfl
          omega
        have HL1 := Lib.hid (show l ++ encC n0 ++ (ls.take (i + 1)).flatMap letterC.enc = l1 ++ letterC.enc ([x0, x1, x2, x3, x4, x5], p) by rw [HTK.out, ← List.append_assoc, el1])
        have HVo := Lib.hid (show WrAt wo wb W.heap.size l1 by rw [← el1]; exact hH.out.1)
        have HDo := Lib.hid hH.out.2.1
        have Q1 := Lib.hid q1
        have Q2 := Lib.hid q2
        obtain ⟨wp, ewp⟩ : ∃ wp, wo.alloc (.cells #[.int .u64 x0, .int .u64 x1, .int .u64 x2, .int .u64 x3, .int .u64 x4, .int .u64 x5, .slice ya yn yc, .slice za zn zc] 39) = wp := ⟨_, rfl⟩
        obtain ⟨pb, epb⟩ : ∃ pb, wo.heap.size = pb := ⟨_, rfl⟩
        have hSp : Same wo wp := by rw [← ewp]; exact (Same.refl wo).alloc _
        have hpb : wp.heap[pb]? = some (.cells #[.int .u64 x0, .int .u64 x1, .int .u64 x2, .int .u64 x3, .int .u64 x4, .int .u64 x5, .slice ya yn yc, .slice za zn zc] 39 (0, 0)) := by rw [← ewp, ← epb]; exact heap_new _ _
        have k0 : wp.cell? ⟨pb, 0, none⟩ = some (.int .u64 x0) := by rw [cell_at hpb]; rfl
        have k1 : wp.cell? ⟨pb, 1, none⟩ = some (.int .u64 x1) := by rw [cell_at hpb]; rfl
        have k2 : wp.cell? ⟨pb, 2, none⟩ = some (.int .u64 x2) := by rw [cell_at hpb]; rfl
        have k3 : wp.cell? ⟨pb, 3, none⟩ = some (.int .u64 x3) := by rw [cell_at hpb]; rfl
        have k4 : wp.cell? ⟨pb, 4, none⟩ = some (.int .u64 x4) := by rw [cell_at hpb]; rfl
        have k5 : wp.cell? ⟨pb, 5, none⟩ = some (.int .u64 x5) := by rw [cell_at hpb]; rfl
        have HPB := Lib.hid hpb
        have HVp := Lib.hid (HVo.out.same hSp)
        have HDp := Lib.hid (HDo.out.trans (Wrote.of_same (lo := W.heap.size) (wb := wb) hSp))
        have HNE := Lib.hid (show pb ≠ wb by obtain ⟨_, _, _, hb, _⟩ := HVo.out.ex; have := (Array.getElem?_eq_some_iff.1 hb).1; omega)
        have HSp := Lib.hid hSp
        have EWP := Lib.hid ewp
        have EPB := Lib.hid epb
        clear hu hc q1 q2 e2 ep el1 ewp epb hSp hpb hH
        go_upto_region 4 with fail
        rw [EWP.out, EPB.out]
        clear g0 g1 g2 g3 g4 g5 g6 g7
        go_wp2_with fail
        refine (wbox_any W.heap.size wb l1 x0 x1 x2 x3 x4 x5 (by omega) HU.out wp HVp.out).mono ?_
        rintro e w3 ⟨rfl, hO, hV⟩
        have hP3 := hO.keep HPB.out HNE.out (by decide)
        have k6 : w3.cell? ⟨pb, 6, none⟩ = some (.slice ya yn yc) := by rw [cell_at hP3]; rfl
        have k7 : w3.cell? ⟨pb, 7, none⟩ = some (.slice za zn zc) := by rw [cell_at hP3]; rfl
        have HD3 := Lib.hid (HDp.out.trans hO)
        have HV3 := Lib.hid hV
        have HB3 := Lib.hid (HB.out.trans (HD3.out.below HW.out.size))
        have hl3 : (l1 ++ [x0, x1, x2, x3, x4, x5].flatMap encN).length ≤ 800000 := by rw [List.length_append, flat_len]; simp; omega
        clear hO hV hP3 k0 k1 k2 k3 k4 k5
        go_wp2_with fail
        refine (wproof_any W.heap.size wb (l1 ++ [x0, x1, x2, x3, x4, x5].flatMap encN) ya yn yc za zn zc p hl3 w3 HV3.out (fun w' hw => Q1.out.same (HB3.out.trans (hw.below HV3.out.size))) (fun w' hw => Q2.out.same (HB3.out.trans (hw.below HV3.out.size)))).mono ?_
        rintro e w4 ⟨hO4, (⟨hok, rfl, hV4⟩ | ⟨hok, rfl⟩)⟩
        case inr =>
          have HFN := Lib.hid (show Wrote W.heap.size wb w w4 ∧ ¬ mixC.ok (ls, bs, xa, xo, xp, pr) from ⟨HD3.out.trans hO4, fun h => hok (h.1.2 _ HMEM.out).2⟩)
          clear hO4 hok
          go_wp2_with fail
          exact ⟨rfl, HFN.out.1, Or.inr ⟨HFN.out.2, rfl⟩⟩
        have HFIN := Lib.hid (show WrAt w4 wb W.heap.size (l ++ encC n0 ++ (ls.take (i + 1)).flatMap letterC.enc) ∧ Wrote W.heap.size wb w w4 ∧ ∀ x ∈ ls.take (i + 1), letterC.ok x from
          ⟨by rw [HL1.out]; rw [List.append_assoc] at hV4; exact hV4, HD3.out.trans hO4, HOKN.out ⟨⟨rfl, HU.out⟩, hok⟩⟩)
        clear hO4 hV4 hok k6 k7
        go_wp2_with fail
        go_roundw
        case rel => exact ⟨i + 1, by go_num, by omega, HFIN⟩
        case measure => simp [intOf]; omega
      · obtain rfl : n0 = i := by omega
        have hall : ∀ x ∈ ls, letterC.ok x := by have h := hH.out.2.2; rwa [List.take_of_length_le (by have := HNL.out; omega)] at h
        have hVa : WrAt wo wb W.heap.size (l ++ (listC 8 letterC).enc ls) := by
          have h := hH.out.1
          rw [List.take_of_length_le (by have := HNL.out; omega), List.append_assoc] at h
          show WrAt wo wb W.heap.size (l ++ (encC ls.length ++ ls.flatMap letterC.enc))
          have e := HNL.out
          rw [e]; exact h
        have HOKL := Lib.hid (show (listC 8 letterC).ok ls from ⟨⟨by have := HNL.out; omega, by have := HNL.out; omega⟩, hall⟩)
        obtain ⟨la, ela⟩ : ∃ la, l ++ (listC 8 letterC).enc ls = la := ⟨_, rfl⟩
        have hla : la.length ≤ 20000 := by
          have h1 := flat_le (f := letterC.enc) (K := 1076) ls (fun x hx => letter_len (hall x hx))
          rw [← ela, List.length_append]
          show _ + (encC ls.length ++ ls.flatMap letterC.enc).length ≤ _
          rw [List.length_append]
          have h2 : (encC ls.length).length = 2 := rfl
          have e := HNL.out
          omega
        rw [ela] at hVa
        have HVa := Lib.hid hVa
        have HDa := Lib.hid hH.out.2.1
        have HXa := Lib.hid (HDa.out.keep HX.out (fun e => HN.out e.symm) (by decide))
        have ELA := Lib.hid ela
        clear hall hVa hH ela hi'
        have m0 : wo.cell? ⟨xb, 1, none⟩ = some (.slice a1 n1 c1) := by rw [cell_at HXa.out]; rfl
        go_wp2_with fail
        refine (wcount_any W.heap.size wb la n1 8 (by omega) (by omega) wo HVa.out).mono ?_
        rintro e w2b (⟨hn1, rfl, hO, hV⟩ | ⟨hn1, rfl, rfl⟩)
        case inr =>
          go_wp2_with fail
          exact ⟨rfl, HDa.out, Or.inr ⟨fun h => by have h1 := h.2.1.1.1; have h2 := HNB.out; simp only at h1; omega, rfl⟩⟩
        have HX2b := Lib.hid (hO.keep HXa.out (fun e => HN.out e.symm) (by decide))
        have m2 : w2b.cell? ⟨xb, 1, none⟩ = some (.slice a1 n1 c1) := by rw [cell_at HX2b.out]; rfl
        have HO2 := Lib.hid (HDa.out.trans hO)
        have HV2 := Lib.hid hV
        have hn10 : (0 : Int) ≤ n1 := by omega
        clear hO hV m0
        go_wp2_with fail
        clear m2
        go_loopw [36] (fun s36 wr => ∃ i : Nat, s36 = .int .i64 i ∧ i ≤ n1 ∧ Hid (WrAt wr wb W.heap.size (la ++ encC n1 ++ (bs.take i).flatMap boxC.enc) ∧ Wrote W.heap.size wb w wr ∧ ∀ x ∈ bs.take i, boxC.ok x)) (fun s36 _ => n1 - (intOf s36).toNat)
        case atStart => exact ⟨0, rfl, by omega, Lib.hid ⟨by simpa using HV2.out, HO2.out, by simp⟩⟩
        case round =>
          obtain ⟨i, rfl, hi', hH⟩ := hrel
          obtain ⟨wu, rfl⟩ : ∃ wz, wz = wr := ⟨_, rfl⟩
          by_cases hlt : i < n1
          · have hi0 : (0 : Int) ≤ i := by omega
            have hi1 : (i : Int) < n1 := by omega
            have HBo := Lib.hid (HB.out.trans (hH.out.2.1.below HW.out.size))
            obtain ⟨bk, off, x0, x1, x2, x3, x4, x5, rfl, e2, hu, hc⟩ := HI.out.o1.it i hlt
            have g0 : wu.cell? ⟨bk, off + i * 6, none⟩ = some (.int .u64 x0) := same_cell HBo.out (hc 0 (by omega))
            have g1 : wu.cell? ⟨bk, off + i * 6 + 1, none⟩ = some (.int .u64 x1) := same_cell HBo.out (hc 1 (by omega))
            have g2 : wu.cell? ⟨bk, off + i * 6 + 2, none⟩ = some (.int .u64 x2) := same_cell HBo.out (hc 2 (by omega))
            have g3 : wu.cell? ⟨bk, off + i * 6 + 3, none⟩ = some (.int .u64 x3) := same_cell HBo.out (hc 3 (by omega))
            have g4 : wu.cell? ⟨bk, off + i * 6 + 4, none⟩ = some (.int .u64 x4) := same_cell HBo.out (hc 4 (by omega))
            have g5 : wu.cell? ⟨bk, off + i * 6 + 5, none⟩ = some (.int .u64 x5) := same_cell HBo.out (hc 5 (by omega))
            simp only at e2
            have HU := Lib.hid hu
            have HMEM := Lib.hid (getD_mem (d := ([] : List Int)) (show i < bs.length by have := HNB.out; omega))
            have HTK := Lib.hid (take_flat boxC.enc bs i [] (show i < bs.length by have := HNB.out; omega))
            have HOKN := Lib.hid (fun k => take_ok (ok := boxC.ok) (d := ([] : List Int)) (show i < bs.length by have := HNB.out; omega) hH.out.2.2 k)
            rw [e2] at HMEM HTK HOKN
            obtain ⟨l1, el1⟩ : ∃ l1, la ++ encC n1 ++ (bs.take i).flatMap boxC.enc = l1 := ⟨_, rfl⟩
            have hl1 : l1.length ≤ 100000 := by
              have h1 := flat_le (f := boxC.enc) (K := 48) (bs.take i) (fun x hx => Nat.le_of_eq (box_len (hH.out.2.2 x hx).1))
              rw [List.length_take] at h1
              rw [← el1, List.length_append, List.length_append]
              have h2 : (encC n1).length = 2 := rfl
              omega
            have HL1 := Lib.hid (show la ++ encC n1 ++ (bs.take (i + 1)).flatMap boxC.enc = l1 ++ boxC.enc [x0, x1, x2, x3, x4, x5] by rw [HTK.out, ← List.append_assoc, el1])
            have HVo := Lib.hid (show WrAt wu wb W.heap.size l1 by rw [← el1]; exact hH.out.1)
            obtain ⟨wp, ewp⟩ : ∃ wp, wu.alloc (.cells #[.int .u64 x0, .int .u64 x1, .int .u64 x2, .int .u64 x3, .int .u64 x4, .int .u64 x5] 37) = wp := ⟨_, rfl⟩
            obtain ⟨pb, epb⟩ : ∃ pb, wu.heap.size = pb := ⟨_, rfl⟩
            have hSp : Same wu wp := by rw [← ewp]; exact (Same.refl wu).alloc _
            have hpb : wp.heap[pb]? = some (.cells #[.int .u64 x0, .int .u64 x1, .int .u64 x2, .int .u64 x3, .int .u64 x4, .int .u64 x5] 37 (0, 0)) := by rw [← ewp, ← epb]; exact heap_new _ _
            have k0 : wp.cell? ⟨pb, 0, none⟩ = some (.int .u64 x0) := by rw [cell_at hpb]; rfl
            have k1 : wp.cell? ⟨pb, 1, none⟩ = some (.int .u64 x1) := by rw [cell_at hpb]; rfl
            have k2 : wp.cell? ⟨pb, 2, none⟩ = some (.int .u64 x2) := by rw [cell_at hpb]; rfl
            have k3 : wp.cell? ⟨pb, 3, none⟩ = some (.int .u64 x3) := by rw [cell_at hpb]; rfl
            have k4 : wp.cell? ⟨pb, 4, none⟩ = some (.int .u64 x4) := by rw [cell_at hpb]; rfl
            have k5 : wp.cell? ⟨pb, 5, none⟩ = some (.int .u64 x5) := by rw [cell_at hpb]; rfl
            have HVp := Lib.hid (HVo.out.same hSp)
            have HDp := Lib.hid (hH.out.2.1.trans (Wrote.of_same (lo := W.heap.size) (wb := wb) hSp))
            have EWP := Lib.hid ewp
            have EPB := Lib.hid epb
            clear hu hc e2 el1 ewp epb hSp hpb hH
            go_upto_region 11 with fail
            rw [EWP.out, EPB.out]
            clear g0 g1 g2 g3 g4 g5
            go_wp2_with fail
            refine (wbox_any W.heap.size wb l1 x0 x1 x2 x3 x4 x5 (by omega) HU.out wp HVp.out).mono ?_
            rintro e w3 ⟨rfl, hO, hV⟩
            have HFIN := Lib.hid (show WrAt w3 wb W.heap.size (la ++ encC n1 ++ (bs.take (i + 1)).flatMap boxC.enc) ∧ Wrote W.heap.size wb w w3 ∧ ∀ x ∈ bs.take (i + 1), boxC.ok x from
              ⟨by rw [HL1.out]; exact hV, HDp.out.trans hO, HOKN.out ⟨rfl, HU.out⟩⟩)
            clear hO hV k0 k1 k2 k3 k4 k5
            go_wp2_with fail
            go_roundw
            case rel => exact ⟨i + 1, by go_num, by omega, HFIN⟩
            case measure => simp [intOf]; omega
          · obtain rfl : n1 = i := by omega
            have hall : ∀ x ∈ bs, boxC.ok x := by have h := hH.out.2.2; rwa [List.take_of_length_le (by have := HNB.out; omega)] at h
            have hVa : WrAt wu wb W.heap.size (la ++ (listC 8 boxC).enc bs) := by
              have h := hH.out.1
              rw [List.take_of_length_le (by have := HNB.out; omega), List.append_assoc] at h
              show WrAt wu wb W.heap.size (la ++ (encC bs.length ++ bs.flatMap boxC.enc))
              have e := HNB.out
              rw [e]; exact h
            have HOKB := Lib.hid (show (listC 8 boxC).ok bs from ⟨⟨by have := HNB.out; omega, by have := HNB.out; omega⟩, hall⟩)
            obtain ⟨lb, elb⟩ : ∃ lb, la ++ (listC 8 boxC).enc bs = lb := ⟨_, rfl⟩
            have hlb : lb.length ≤ 40000 := by
              have h1 := flat_le (f := boxC.enc) (K := 48) bs (fun x hx => Nat.le_of_eq (box_len (hall x hx).1))
              rw [← elb, List.length_append]
              show _ + (encC bs.length ++ bs.flatMap boxC.enc).length ≤ _
              rw [List.length_append]
              have h2 : (encC bs.length).length = 2 := rfl
              have e := HNB.out
              omega
            rw [elb] at hVa
            have HVb := Lib.hid hVa
            have HDb := Lib.hid hH.out.2.1
            have HXb := Lib.hid (HDb.out.keep HX.out (fun e => HN.out e.symm) (by decide))
            have ELB := Lib.hid elb
            clear hall hVa hH elb hi'
            have m2 : wu.cell? ⟨xb, 2, none⟩ = some (.slice a2 n2 c2) := by rw [cell_at HXb.out]; rfl
            have HB2 := Lib.hid (HB.out.trans (HDb.out.below HW.out.size))
            go_wp2_with fail
            refine (wlist_any W.heap.size wb lb a2 n2 c2 xa (by omega) wu HVb.out (fun w' hw => HI.out.o2.same (HB2.out.trans (hw.below HVb.out.size)))).mono ?_
            rintro e w2l ⟨hO, (⟨hok, rfl, hV⟩ | ⟨hok, rfl⟩)⟩
            case inr =>
              have HFN := Lib.hid (show Wrote W.heap.size wb w w2l ∧ ¬ mixC.ok (ls, bs, xa, xo, xp, pr) from ⟨HDb.out.trans hO, fun h => hok h.2.2.1⟩)
              clear hO hok
              go_wp2_with fail
              exact ⟨rfl, HFN.out.1, Or.inr ⟨HFN.out.2, rfl⟩⟩
            obtain ⟨l2, el⟩ : ∃ z, lb ++ numsC.enc xa = z := ⟨_, rfl⟩
            have hl2 : l2.length ≤ 40514 := by have h1 := nums_len hok; rw [← el, List.length_append]; omega
            rw [el] at hV
            have HOK2 := Lib.hid hok
            have HV2l := Lib.hid hV
            have HD2l := Lib.hid (HDb.out.trans hO)
            have HX2l := Lib.hid (HD2l.out.keep HX.out (fun e => HN.out e.symm) (by decide))
            have EL2 := Lib.hid el
            clear hok hV hO el m2
            have m3 : w2l.cell? ⟨xb, 3, none⟩ = some (.slice a3 n3 c3) := by rw [cell_at HX2l.out]; rfl
            have HB3 := Lib.hid (HB.out.trans (HD2l.out.below HW.out.size))
            go_wp2_with fail
            refine (wlist_any W.heap.size wb l2 a3 n3 c3 xo (by omega) w2l HV2l.out (fun w' hw => HI.out.o3.same (HB3.out.trans (hw.below HV2l.out.size)))).mono ?_
            rintro e w3l ⟨hO, (⟨hok, rfl, hV⟩ | ⟨hok, rfl⟩)⟩
            case inr =>
              have HFN := Lib.hid (show Wrote W.heap.size wb w w3l ∧ ¬ mixC.ok (ls, bs, xa, xo, xp, pr) from ⟨HD2l.out.trans hO, fun h => hok h.2.2.2.1⟩)
              clear hO hok
              go_wp2_with fail
              exact ⟨rfl, HFN.out.1, Or.inr ⟨HFN.out.2, rfl⟩⟩
            obtain ⟨l3, el⟩ : ∃ z, l2 ++ numsC.enc xo = z := ⟨_, rfl⟩
            have hl3 : l3.length ≤ 41028 := by have h1 := nums_len hok; rw [← el, List.length_append]; omega
            rw [el] at hV
            have HOK3 := Lib.hid hok
            have HV3l := Lib.hid hV
            have HD3l := Lib.hid (HD2l.out.trans hO)
            have HX3l := Lib.hid (HD3l.out.keep HX.out (fun e => HN.out e.symm) (by decide))
            have EL3 := Lib.hid el
            clear hok hV hO el m3
            have m4 : w3l.cell? ⟨xb, 4, none⟩ = some (.slice a4 n4 c4) := by rw [cell_at HX3l.out]; rfl
            have HB4 := Lib.hid (HB.out.trans (HD3l.out.below HW.out.size))
            go_wp2_with fail
            refine (wlist_any W.heap.size wb l3 a4 n4 c4 xp (by omega) w3l HV3l.out (fun w' hw => HI.out.o4.same (HB4.out.trans (hw.below HV3l.out.size)))).mono ?_
            rintro e w4l ⟨hO, (⟨hok, rfl, hV⟩ | ⟨hok, rfl⟩)⟩
            case inr =>
              have HFN := Lib.hid (show Wrote W.heap.size wb w w4l ∧ ¬ mixC.ok (ls, bs, xa, xo, xp, pr) from ⟨HD3l.out.trans hO, fun h => hok h.2.2.2.2.1⟩)
              clear hO hok
              go_wp2_with fail
              exact ⟨rfl, HFN.out.1, Or.inr ⟨HFN.out.2, rfl⟩⟩
            obtain ⟨l4, el⟩ : ∃ z, l3 ++ numsC.enc xp = z := ⟨_, rfl⟩
            have hl4 : l4.length ≤ 41542 := by have h1 := nums_len hok; rw [← el, List.length_append]; omega
            rw [el] at hV
            have HOK4 := Lib.hid hok
            have HV4l := Lib.hid hV
            have HD4l := Lib.hid (HD3l.out.trans hO)
            have HX4l := Lib.hid (HD4l.out.keep HX.out (fun e => HN.out e.symm) (by decide))
            have EL4 := Lib.hid el
            clear hok hV hO el m4
            have m5 : w4l.cell? ⟨xb, 5, none⟩ = some (.slice a5 n5 c5) := by rw [cell_at HX4l.out]; rfl
            have m6 : w4l.cell? ⟨xb, 6, none⟩ = some (.slice a6 n6 c6) := by rw [cell_at HX4l.out]; rfl
            have HB5 := Lib.hid (HB.out.trans (HD4l.out.below HW.out.size))
            go_wp2_with fail
            refine (wproof_any W.heap.size wb l4 a5 n5 c5 a6 n6 c6 pr (by omega) w4l HV4l.out (fun w' hw => HI.out.o5.same (HB5.out.trans (hw.below HV4l.out.size))) (fun w' hw => HI.out.o6.same (HB5.out.trans (hw.below HV4l.out.size)))).mono ?_
            rintro e w5l ⟨hO, (⟨hok, rfl, hV⟩ | ⟨hok, rfl⟩)⟩
            case inr =>
              have HFN := Lib.hid (show Wrote W.heap.size wb w w5l ∧ ¬ mixC.ok (ls, bs, xa, xo, xp, pr) from ⟨HD4l.out.trans hO, fun h => hok h.2.2.2.2.2⟩)
              clear hO hok
              go_wp2_with fail
              exact ⟨rfl, HFN.out.1, Or.inr ⟨HFN.out.2, rfl⟩⟩
            have HFIN := Lib.hid (show Wrote W.heap.size wb w w5l ∧ mixC.ok (ls, bs, xa, xo, xp, pr) ∧ WrAt w5l wb W.heap.size (l ++ mixC.enc (ls, bs, xa, xo, xp, pr)) from
              ⟨HD4l.out.trans hO, ⟨HOKL.out, HOKB.out, HOK2.out, HOK3.out, HOK4.out, hok⟩, by
                rw [← EL4.out, ← EL3.out, ← EL2.out, ← ELB.out, ← ELA.out] at hV
                simp only [List.append_assoc] at hV
                exact hV⟩)
            clear hO hok hV
            go_wp2_with fail
            exact ⟨rfl, _, results_none rfl _ _ _, HFIN.out.1, Or.inl ⟨HFIN.out.2.1, rfl, HFIN.out.2.2⟩⟩
theorem wMixing_any (a0 : Option Addr) (n0 c0 : Nat) (a1 : Option Addr) (n1 c1 : Nat) (a2 : Option Addr) (n2 c2 : Nat) (a3 : Option Addr) (n3 c3 : Nat) (a4 : Option Addr) (n4 c4 : Nat) (a5 : Option Addr) (n5 c5 : Nat) (a6 : Option Addr) (n6 c6 : Nat) (x : MixD) (w : World) (hx : MixIn w a0 n0 a1 n1 a2 n2 a3 n3 a4 n4 a5 n5 a6 n6 x) :
    Calls Try.prog 10 #[.agg #[.slice a0 n0 c0, .slice a1 n1 c1, .slice a2 n2 c2, .slice a3 n3 c3, .slice a4 n4 c4, .slice a5 n5 c5, .slice a6 n6 c6]] w fun z w' =>
      Same w w' ∧ ((mixC.ok x ∧ z = .returned (.tuple #[.string (ofL (2 :: mixC.enc x)), .bool true])) ∨ (¬ mixC.ok x ∧ z = .returned (.tuple #[.string { data := #[] }, .bool false]))) := by
  obtain ⟨xb, exb⟩ : ∃ xb, w.heap.size = xb := ⟨_, rfl⟩
  obtain ⟨w0, ew0⟩ : ∃ w0, w.alloc (.cells #[.slice a0 n0 c0, .slice a1 n1 c1, .slice a2 n2 c2, .slice a3 n3 c3, .slice a4 n4 c4, .slice a5 n5 c5, .slice a6 n6 c6] 30) = w0 := ⟨_, rfl⟩
  have hS : Same w w0 := by rw [← ew0]; exact (Same.refl w).alloc _
  have HB := Lib.hid (show w0.heap[xb]? = some (.cells #[.slice a0 n0 c0, .slice a1 n1 c1, .slice a2 n2 c2, .slice a3 n3 c3, .slice a4 n4 c4, .slice a5 n5 c5, .slice a6 n6 c6] 30 (0, 0)) by rw [← ew0, ← exb]; exact heap_new _ _)
  have HS := Lib.hid (show Below xb w w0 by rw [← exb]; exact hS)
  have HP := Lib.hid (putMixing xb xb a0 n0 c0 a1 n1 c1 a2 n2 c2 a3 n3 c3 a4 n4 c4 a5 n5 c5 a6 n6 c6 x w hx exb)
  have HXL := Lib.hid (Array.getElem?_eq_some_iff.1 HB.out).1
  have EW0 := Lib.hid ew0
  have EXB := Lib.hid exb
  have hmf : ∀ (fn : Fn) (first cap : Array Value) (w : World), (Instr.makeFunc fn first cap).run Try.prog w = .ok (.func fn first cap) w := fun _ _ _ _ => rfl
  obtain ⟨OK, eok⟩ : ∃ OK, mixC.ok x = OK := ⟨_, rfl⟩
  obtain ⟨E, ee⟩ : ∃ E, mixC.enc x = E := ⟨_, rfl⟩
  rw [eok, ee] at HP ⊢
  clear hS ew0 exb eok ee hx
  go_enter Try.func10, Try.ntmps10
  go_upto_region 1 with fail
  rw [EW0.out, EXB.out]
  go_wp2_with fail
  refine (write_k _ xb xb OK E _ HP.out 2 2 rfl w0 (by have := HXL.out; omega) HXL.out ⟨HS.out, HB.out⟩).mono ?_
  rintro e w2 ⟨hb, (⟨hok, rfl⟩ | ⟨hok, rfl⟩)⟩
  · have HSM := Lib.hid (show Same w w2 by have h := HS.out.trans hb; rwa [← EXB.out] at h)
    clear hb
    go_wp2_with fail
    go_ret2
    exact ⟨HSM.out, Or.inl ⟨hok, rfl⟩⟩
  · have HSM := Lib.hid (show Same w w2 by have h := HS.out.trans hb; rwa [← EXB.out] at h)
    clear hb
    go_wp2_with fail
    go_ret2
    exact ⟨HSM.out, Or.inr ⟨hok, rfl⟩⟩
end Go.Proofs.Ytdbhcdhenapfoaa
