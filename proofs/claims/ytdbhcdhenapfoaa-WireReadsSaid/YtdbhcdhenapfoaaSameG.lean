/- Layer 10: what is passed, if the same, is told to be. -/
import Derived.Test.YtdbhcdhenapfoaaRefG
import Derived.Test.YtdbhcdhenapfoaaSameX
import Derived.Laws.StructEq
set_option linter.unusedVariables false
set_option linter.unusedSimpArgs false
namespace Go.Proofs.Ytdbhcdhenapfoaa
open Go.RowKit Go.Maps
theorem three_under : Try.prog.underlying 58 = some (.struct (Try.prog.fieldsOf 58)) := by kernel_rfl
theorem three_held : Try.prog.stoodInHeld 58 = false := by kernel_rfl
theorem three_fields : (Try.prog.fieldsOf 58).toList.map (fun f => (f.name == "_", f.type, f.offset)) = [(false, 33, 0), (false, 33, 1), (false, 33, 2)] := by kernel_rfl
theorem eq_three (d : Nat) (x y z : Int) (w : World) (fs : List Field) (hf : fs.map (fun f => (f.name == "_", f.type, f.offset)) = [(false, 33, 0), (false, 33, 1), (false, 33, 2)]) : (Op.eqFields (d + 1) #[.int .u64 x, .int .u64 y, .int .u64 z] #[.int .u64 x, .int .u64 y, .int .u64 z] fs).run Try.prog w = .ok true w := by
  have hl := congrArg List.length hf
  rw [List.length_map] at hl
  obtain ⟨f, g, h, rfl⟩ : ∃ f g h, fs = [f, g, h] := by
    match fs, hl with
    | [f, g, h], _ => exact ⟨f, g, h, rfl⟩
  · simp at hf
    obtain ⟨⟨n1, t1, o1⟩, ⟨n2, t2, o2⟩, n3, t3, o3⟩ := hf
    have p0 : ∀ (w : World), (part 33 #[.int .u64 x, .int .u64 y, .int .u64 z] 0).run Try.prog w = .ok (.int .u64 x) w := by intro w; simp [part, go_sem]
    have p1 : ∀ (w : World), (part 33 #[.int .u64 x, .int .u64 y, .int .u64 z] 1).run Try.prog w = .ok (.int .u64 y) w := by intro w; simp [part, go_sem]
    have p2 : ∀ (w : World), (part 33 #[.int .u64 x, .int .u64 y, .int .u64 z] 2).run Try.prog w = .ok (.int .u64 z) w := by intro w; simp [part, go_sem]
    have q0 : ∀ (w : World) (a : Int), (Op.equalIn (d + 1) 33 (.int .u64 a) (.int .u64 a)).run Try.prog w = .ok true w := by intro w a; rw [run_equalIn_int w d _ _ _ _ _ Try.underlying33]; simp
    simp [Op.eqFields, n1, n2, n3, t1, t2, t3, o1, o2, o3, Sem.run_bind, p0, p1, p2, q0]
theorem three_self (d : Nat) (x y z : Int) (w : World) : (Op.equalIn (d + 2) 58 (.agg #[.int .u64 x, .int .u64 y, .int .u64 z]) (.agg #[.int .u64 x, .int .u64 y, .int .u64 z])).run Try.prog w = .ok true w :=
  (run_equalIn_struct (P := Try.prog) w (d + 1) 58 #[.int .u64 x, .int .u64 y, .int .u64 z] #[.int .u64 x, .int .u64 y, .int .u64 z] three_under three_held).trans (eq_three d x y z w _ three_fields)
theorem three_self2 (n d : Nat) (h : n = d + 2) (x y z : Int) (w : World) : (Op.equalIn n 58 (.agg #[.int .u64 x, .int .u64 y, .int .u64 z]) (.agg #[.int .u64 x, .int .u64 y, .int .u64 z])).run Try.prog w = .ok true w := by
  subst h
  exact three_self d x y z w
theorem info_three : (Try.prog.info? 58).map (fun i => (i.zero, i.size, i.bytes)) = some (some (.agg #[.int .u64 0, .int .u64 0, .int .u64 0]), 3, 24) := by kernel_rfl
set_option maxRecDepth 20000 in
theorem threes_self (x0 x1 x2 x3 x4 x5 x6 x7 x8 : Int) (w : World) : (Op.equalIn 10000 59 (.agg #[.int .u64 x0, .int .u64 x1, .int .u64 x2, .int .u64 x3, .int .u64 x4, .int .u64 x5, .int .u64 x6, .int .u64 x7, .int .u64 x8]) (.agg #[.int .u64 x0, .int .u64 x1, .int .u64 x2, .int .u64 x3, .int .u64 x4, .int .u64 x5, .int .u64 x6, .int .u64 x7, .int .u64 x8])).run Try.prog w = .ok true w := by
  obtain ⟨i0, hi, hz0, hz1, hz2⟩ := info_parts info_three
  have hc : Try.prog.cellsOf 58 = 3 := by kernel_rfl
  rw [run_equalIn_array w 9999 _ _ Try.underlying59 hi, hc]
  have p0 : ∀ (w : World), (part 58 #[.int .u64 x0, .int .u64 x1, .int .u64 x2, .int .u64 x3, .int .u64 x4, .int .u64 x5, .int .u64 x6, .int .u64 x7, .int .u64 x8] (0 * 3)).run Try.prog w = .ok (.agg #[.int .u64 x0, .int .u64 x1, .int .u64 x2]) w := fun _ => by kernel_rfl
  have p1 : ∀ (w : World), (part 58 #[.int .u64 x0, .int .u64 x1, .int .u64 x2, .int .u64 x3, .int .u64 x4, .int .u64 x5, .int .u64 x6, .int .u64 x7, .int .u64 x8] (1 * 3)).run Try.prog w = .ok (.agg #[.int .u64 x3, .int .u64 x4, .int .u64 x5]) w := fun _ => by kernel_rfl
  have p2 : ∀ (w : World), (part 58 #[.int .u64 x0, .int .u64 x1, .int .u64 x2, .int .u64 x3, .int .u64 x4, .int .u64 x5, .int .u64 x6, .int .u64 x7, .int .u64 x8] (2 * 3)).run Try.prog w = .ok (.agg #[.int .u64 x6, .int .u64 x7, .int .u64 x8]) w := fun _ => by kernel_rfl
  have q0 : ∀ (w : World) (a b c : Int), (Op.equalIn 9999 58 (.agg #[.int .u64 a, .int .u64 b, .int .u64 c]) (.agg #[.int .u64 a, .int .u64 b, .int .u64 c])).run Try.prog w = .ok true w := fun w a b c => three_self2 9999 9997 rfl a b c w
  show (Op.eqItems 9999 _ 3 _ _ [0, 1, 2]).run _ _ = _
  simp only [Op.eqItems, Sem.run_bind, p0, p1, p2, q0, Result.andThen_ok]
  simp [q0, p1, p2, Result.andThen, Op.eqItems]
abbrev TtAt (w : World) (bk o : Nat) (x0 x1 x2 x3 x4 x5 x6 x7 x8 : Int) : Prop := w.cell? ⟨bk, o, none⟩ = some (.int .u64 x0) ∧ w.cell? ⟨bk, o + 1, none⟩ = some (.int .u64 x1) ∧ w.cell? ⟨bk, o + 2, none⟩ = some (.int .u64 x2) ∧ w.cell? ⟨bk, o + 3, none⟩ = some (.int .u64 x3) ∧ w.cell? ⟨bk, o + 4, none⟩ = some (.int .u64 x4) ∧ w.cell? ⟨bk, o + 5, none⟩ = some (.int .u64 x5) ∧ w.cell? ⟨bk, o + 6, none⟩ = some (.int .u64 x6) ∧ w.cell? ⟨bk, o + 7, none⟩ = some (.int .u64 x7) ∧ w.cell? ⟨bk, o + 8, none⟩ = some (.int .u64 x8)
theorem TtAt.same {w w' : World} {bk o : Nat} {x0 x1 x2 x3 x4 x5 x6 x7 x8 : Int} (h : TtAt w bk o x0 x1 x2 x3 x4 x5 x6 x7 x8) (hs : Same w w') : TtAt w' bk o x0 x1 x2 x3 x4 x5 x6 x7 x8 :=
  ⟨same_cell hs h.1, same_cell hs h.2.1, same_cell hs h.2.2.1, same_cell hs h.2.2.2.1, same_cell hs h.2.2.2.2.1, same_cell hs h.2.2.2.2.2.1, same_cell hs h.2.2.2.2.2.2.1, same_cell hs h.2.2.2.2.2.2.2.1, same_cell hs h.2.2.2.2.2.2.2.2⟩
abbrev PrAt (w : World) (bk o : Nat) (u v : Value) : Prop := w.cell? ⟨bk, o, none⟩ = some u ∧ w.cell? ⟨bk, o + 1, none⟩ = some v
theorem cons9 {x0 x1 x2 x3 x4 x5 x6 x7 x8 y0 y1 y2 y3 y4 y5 y6 y7 y8 : Int} (h : [x0, x1, x2, x3, x4, x5, x6, x7, x8] = [y0, y1, y2, y3, y4, y5, y6, y7, y8]) : x0 = y0 ∧ x1 = y1 ∧ x2 = y2 ∧ x3 = y3 ∧ x4 = y4 ∧ x5 = y5 ∧ x6 = y6 ∧ x7 = y7 ∧ x8 = y8 := by
  simp at h
  exact h
set_option maxRecDepth 20000 in
set_option maxHeartbeats 6400000 in
theorem rsameg_yes (a b : Option Addr) (n m ca cb : Nat) (ls : List PassD) (w : World) (hx : PassAt w a n ls) (hy : PassAt w b m ls) :
    Calls Try.prog 22 #[.slice a n ca, .slice b m cb] w fun z w' => z = .returned (.bool true) ∧ Same w w' := by
  have HX := Lib.hid hx
  have HY := Lib.hid hy
  have hnm : m = n := hy.len.symm.trans hx.len
  have hsx := hx.small
  clear hx hy
  subst hnm
  have d0 : ((m : Int) != m) = false := by simp
  go_enter Try.func22, Try.ntmps22
  go_wp2_with fail
  go_loopw [5] (fun s5 wr => ∃ i : Nat, s5 = .int .i64 i ∧ i ≤ m ∧ Hid (Same w wr)) (fun s5 _ => m - (intOf s5).toNat)
  case atStart => exact ⟨0, rfl, by omega, Lib.hid (Same.refl _)⟩
  case round =>
    obtain ⟨i, rfl, hi, hD⟩ := hrel
    obtain ⟨wo, rfl⟩ : ∃ wz, wz = wr := ⟨_, rfl⟩
    by_cases hlt : i < m
    · have hi0 : (0 : Int) ≤ i := by omega
      have hi1 : (i : Int) < m := by omega
      obtain ⟨bk, off, x0, x1, x2, x3, x4, x5, x6, x7, x8, p0, m0, d0, p1, m1, d1, p2, m2, d2, p3, m3, d3, p4, m4, d4, p5, m5, d5, q0, q1, q2, rfl, e1, hu, hc, u0, u1, u2, u3, u4, u5⟩ := (HX.out.same hD.out).it i hlt
      obtain ⟨bj, oft, y0, y1, y2, y3, y4, y5, y6, y7, y8, b0, k0, f0, b1, k1, f1, b2, k2, f2, b3, k3, f3, b4, k4, f4, b5, k5, f5, r0, r1, r2, rfl, e2, hv, hd, v0, v1, v2, v3, v4, v5⟩ := (HY.out.same hD.out).it i hlt
      have e3 := e1.symm.trans e2
      injection e3 with e3 e4
      injection e4 with e5 e4
      injection e4 with e6 e4
      injection e4 with e7 e4
      subst e5 e6 e7
      obtain ⟨rfl, rfl, rfl, rfl, rfl, rfl, rfl, rfl, rfl⟩ := cons9 e3
      have hA : TtAt wo bk (off + i * 15) x0 x1 x2 x3 x4 x5 x6 x7 x8 := ⟨hc 0 (by omega), hc 1 (by omega), hc 2 (by omega), hc 3 (by omega), hc 4 (by omega), hc 5 (by omega), hc 6 (by omega), hc 7 (by omega), hc 8 (by omega)⟩
      have hB : TtAt wo bj (oft + i * 15) x0 x1 x2 x3 x4 x5 x6 x7 x8 := ⟨hd 0 (by omega), hd 1 (by omega), hd 2 (by omega), hd 3 (by omega), hd 4 (by omega), hd 5 (by omega), hd 6 (by omega), hd 7 (by omega), hd 8 (by omega)⟩
      have HCA := Lib.hid hc
      have HCB := Lib.hid hd
      have U0 := Lib.hid u0
      have V0 := Lib.hid v0
      have U1 := Lib.hid u1
      have V1 := Lib.hid v1
      have U2 := Lib.hid u2
      have V2 := Lib.hid v2
      have U3 := Lib.hid u3
      have V3 := Lib.hid v3
      have U4 := Lib.hid u4
      have V4 := Lib.hid v4
      have U5 := Lib.hid u5
      have V5 := Lib.hid v5
      obtain ⟨wd, ewd⟩ : ∃ wd, wo.drew = wd := ⟨_, rfl⟩
      have hsd : Same wo wd := by rw [← ewd]; exact drew_same _
      have HSO := Lib.hid hsd
      have HC := Lib.hid (And.intro (hA.same hsd) (And.intro (hB.same hsd) (Same.refl wd)))
      have EWD := Lib.hid ewd
      have hbs := threes_self x0 x1 x2 x3 x4 x5 x6 x7 x8
      clear hu hv hc hd e1 e2 e3 e4 hA hB ewd hsd u0 u1 u2 u3 u4 u5 v0 v1 v2 v3 v4 v5
      go_upto_region 6 with fail
      refine wp_region_held_drew (S := fun w' => Hid (TtAt w' bk (off + i * 15) x0 x1 x2 x3 x4 x5 x6 x7 x8 ∧ TtAt w' bj (oft + i * 15) x0 x1 x2 x3 x4 x5 x6 x7 x8 ∧ Same wd w')) (by kernel_rfl) (by rw [EWD.out]; exact HC) (fun hHeld => ?_)
      rw [EWD.out] at hHeld ⊢
      refine wpAnyH_take (i := 0) (v := ?_) rfl (by kernel_rfl) (by kernel_rfl) (by kernel_rfl) (fun _ _ _ h => h) (Or.inl ⟨by rfl, ?_⟩) (by assumption) ?_
      rotate_left
      · intro w hSw; obtain ⟨k0, k1, k2, k3, k4, k5, k6, k7, k8⟩ := hSw.out.1; obtain ⟨j0, j1, j2, j3, j4, j5, j6, j7, j8⟩ := hSw.out.2.1; go_simp; try with_reducible rfl
      try simp only [Act.put, List.getElem_toArray, List.getElem_cons_succ, List.getElem_cons_zero, List.setIfInBounds_toArray, List.set_cons_zero, List.set_cons_succ]
      refine wpAnyH_take (i := 1) (v := ?_) rfl (by kernel_rfl) (by kernel_rfl) (by kernel_rfl) (fun _ _ _ h => h) (Or.inl ⟨by rfl, ?_⟩) (by assumption) ?_
      rotate_left
      · intro w hSw; obtain ⟨k0, k1, k2, k3, k4, k5, k6, k7, k8⟩ := hSw.out.1; obtain ⟨j0, j1, j2, j3, j4, j5, j6, j7, j8⟩ := hSw.out.2.1; go_simp; try with_reducible rfl
      try simp only [Act.put, List.getElem_toArray, List.getElem_cons_succ, List.getElem_cons_zero, List.setIfInBounds_toArray, List.set_cons_zero, List.set_cons_succ]
      refine wpAnyH_take (i := 2) (v := ?_) rfl (by kernel_rfl) (by kernel_rfl) (by kernel_rfl) (fun _ _ _ h => h) (Or.inl ⟨by rfl, ?_⟩) (by assumption) ?_
      rotate_left
      · intro w hSw; obtain ⟨k0, k1, k2, k3, k4, k5, k6, k7, k8⟩ := hSw.out.1; obtain ⟨j0, j1, j2, j3, j4, j5, j6, j7, j8⟩ := hSw.out.2.1; go_simp; try with_reducible rfl
      try simp only [Act.put, List.getElem_toArray, List.getElem_cons_succ, List.getElem_cons_zero, List.setIfInBounds_toArray, List.set_cons_zero, List.set_cons_succ]
      refine wpAnyH_take (i := 3) (v := ?_) rfl (by kernel_rfl) (by kernel_rfl) (by kernel_rfl) (fun _ _ _ h => h) (Or.inl ⟨by rfl, ?_⟩) (by assumption) ?_
      rotate_left
      · intro w hSw; obtain ⟨k0, k1, k2, k3, k4, k5, k6, k7, k8⟩ := hSw.out.1; obtain ⟨j0, j1, j2, j3, j4, j5, j6, j7, j8⟩ := hSw.out.2.1; go_simp; try with_reducible rfl
      try simp only [Act.put, List.getElem_toArray, List.getElem_cons_succ, List.getElem_cons_zero, List.setIfInBounds_toArray, List.set_cons_zero, List.set_cons_succ]
      refine wpAnyH_take (i := 4) (v := ?_) rfl (by kernel_rfl) (by kernel_rfl) (by kernel_rfl) (fun _ _ _ h => h) (Or.inl ⟨by rfl, ?_⟩) (by assumption) ?_
      rotate_left
      · intro w hSw; obtain ⟨k0, k1, k2, k3, k4, k5, k6, k7, k8⟩ := hSw.out.1; obtain ⟨j0, j1, j2, j3, j4, j5, j6, j7, j8⟩ := hSw.out.2.1; go_simp; try with_reducible rfl
      try simp only [Act.put, List.getElem_toArray, List.getElem_cons_succ, List.getElem_cons_zero, List.setIfInBounds_toArray, List.set_cons_zero, List.set_cons_succ]
      refine wpAnyH_take (i := 5) (v := ?_) rfl (by kernel_rfl) (by kernel_rfl) (by kernel_rfl) (fun _ _ _ h => h) (Or.inl ⟨by rfl, ?_⟩) (by assumption) ?_
      rotate_left
      · intro w hSw; obtain ⟨k0, k1, k2, k3, k4, k5, k6, k7, k8⟩ := hSw.out.1; obtain ⟨j0, j1, j2, j3, j4, j5, j6, j7, j8⟩ := hSw.out.2.1; go_simp; try with_reducible rfl
      try simp only [Act.put, List.getElem_toArray, List.getElem_cons_succ, List.getElem_cons_zero, List.setIfInBounds_toArray, List.set_cons_zero, List.set_cons_succ]
      refine wpAnyH_take (i := 6) (v := ?_) rfl (by kernel_rfl) (by kernel_rfl) (by kernel_rfl) (fun _ _ _ h => h) (Or.inl ⟨by rfl, ?_⟩) (by assumption) ?_
      rotate_left
      · intro w hSw; obtain ⟨k0, k1, k2, k3, k4, k5, k6, k7, k8⟩ := hSw.out.1; obtain ⟨j0, j1, j2, j3, j4, j5, j6, j7, j8⟩ := hSw.out.2.1; go_simp; try with_reducible rfl
      try simp only [Act.put, List.getElem_toArray, List.getElem_cons_succ, List.getElem_cons_zero, List.setIfInBounds_toArray, List.set_cons_zero, List.set_cons_succ]
      refine wpAnyH_take (i := 7) (v := ?_) rfl (by kernel_rfl) (by kernel_rfl) (by kernel_rfl) (fun _ _ _ h => h) (Or.inl ⟨by rfl, ?_⟩) (by assumption) ?_
      rotate_left
      · intro w hSw; obtain ⟨k0, k1, k2, k3, k4, k5, k6, k7, k8⟩ := hSw.out.1; obtain ⟨j0, j1, j2, j3, j4, j5, j6, j7, j8⟩ := hSw.out.2.1; go_simp; try with_reducible rfl
      try simp only [Act.put, List.getElem_toArray, List.getElem_cons_succ, List.getElem_cons_zero, List.setIfInBounds_toArray, List.set_cons_zero, List.set_cons_succ]
      refine wpAnyH_take (i := 8) (v := ?_) rfl (by kernel_rfl) (by kernel_rfl) (by kernel_rfl) (fun _ _ _ h => h) (Or.inl ⟨by rfl, ?_⟩) (by assumption) ?_
      rotate_left
      · intro w hSw; obtain ⟨k0, k1, k2, k3, k4, k5, k6, k7, k8⟩ := hSw.out.1; obtain ⟨j0, j1, j2, j3, j4, j5, j6, j7, j8⟩ := hSw.out.2.1; go_simp; try with_reducible rfl
      try simp only [Act.put, List.getElem_toArray, List.getElem_cons_succ, List.getElem_cons_zero, List.setIfInBounds_toArray, List.set_cons_zero, List.set_cons_succ]
      refine wpAnyH_take (i := 9) (v := ?_) rfl (by kernel_rfl) (by kernel_rfl) (by kernel_rfl) (fun _ _ _ h => h) (Or.inl ⟨by rfl, ?_⟩) (by assumption) ?_
      rotate_left
      · intro w hSw; obtain ⟨k0, k1, k2, k3, k4, k5, k6, k7, k8⟩ := hSw.out.1; obtain ⟨j0, j1, j2, j3, j4, j5, j6, j7, j8⟩ := hSw.out.2.1; go_simp; try with_reducible rfl
      try simp only [Act.put, List.getElem_toArray, List.getElem_cons_succ, List.getElem_cons_zero, List.setIfInBounds_toArray, List.set_cons_zero, List.set_cons_succ]
      refine wpAnyH_take (i := 10) (v := ?_) rfl (by kernel_rfl) (by kernel_rfl) (by kernel_rfl) (fun _ _ _ h => h) (Or.inl ⟨by rfl, ?_⟩) (by assumption) ?_
      rotate_left
      · intro w hSw; obtain ⟨k0, k1, k2, k3, k4, k5, k6, k7, k8⟩ := hSw.out.1; obtain ⟨j0, j1, j2, j3, j4, j5, j6, j7, j8⟩ := hSw.out.2.1; go_simp; try with_reducible rfl
      try simp only [Act.put, List.getElem_toArray, List.getElem_cons_succ, List.getElem_cons_zero, List.setIfInBounds_toArray, List.set_cons_zero, List.set_cons_succ]
      refine wpAnyH_done (by kernel_rfl) ?_ _
      have HF := Lib.hid (HSO.out.trans hHeld.out.2.2)
      clear hHeld
      go_wp2_with fail
      clear hbs
      go_loopw [6] (fun s6 wr => ∃ j : Nat, s6 = .int .i64 j ∧ j ≤ 3 ∧ Hid (Same wo wr)) (fun s6 _ => 3 - (intOf s6).toNat)
      case atStart => exact ⟨0, rfl, by omega, HF⟩
      case round =>
        obtain ⟨j, rfl, hj', hT⟩ := hrel
        obtain ⟨wr, rfl⟩ : ∃ wz, wz = wr := ⟨_, rfl⟩
        have hcase : j = 0 ∨ j = 1 ∨ j = 2 ∨ j = 3 := by omega
        clear hj'
        rcases hcase with rfl | rfl | rfl | rfl
        · rw [show ((0 : Nat) : Int) = 0 from rfl]
          obtain ⟨we, ewe⟩ : ∃ we, wr.drew = we := ⟨_, rfl⟩
          have hse : Same wr we := by rw [← ewe]; exact drew_same _
          have HTE := Lib.hid (hT.out.trans hse)
          have HC := Lib.hid (show PrAt we bk (off + i * 15 + 9) (.slice p0 m0 d0) (.slice p1 m1 d1) ∧ PrAt we bj (oft + i * 15 + 9) (.slice b0 k0 f0) (.slice b1 k1 f1) ∧ Same we we from ⟨⟨same_cell HTE.out (HCA.out 9 (by omega)), same_cell HTE.out (HCA.out 10 (by omega))⟩, ⟨same_cell HTE.out (HCB.out 9 (by omega)), same_cell HTE.out (HCB.out 10 (by omega))⟩, Same.refl _⟩)
          have EWE := Lib.hid ewe
          clear ewe hse hT
          go_upto_region 11 with fail
          refine wp_region_held_drew (S := fun w' => Hid (PrAt w' bk (off + i * 15 + 9) (.slice p0 m0 d0) (.slice p1 m1 d1) ∧ PrAt w' bj (oft + i * 15 + 9) (.slice b0 k0 f0) (.slice b1 k1 f1) ∧ Same we w')) (by kernel_rfl) (by rw [EWE.out]; exact HC) (fun hHeld => ?_)
          rw [EWE.out] at hHeld ⊢
          refine wpAnyH_take (i := 0) (v := ?_) rfl (by kernel_rfl) (by kernel_rfl) (by kernel_rfl) (fun _ _ _ h => h) (Or.inl ⟨by rfl, ?_⟩) (by assumption) ?_
          rotate_left
          · intro w hSw; obtain ⟨⟨k0, k1⟩, ⟨j0, j1⟩, _⟩ := hSw.out; go_simp; try with_reducible rfl
          try simp only [Act.put, List.getElem_toArray, List.getElem_cons_succ, List.getElem_cons_zero, List.setIfInBounds_toArray, List.set_cons_zero, List.set_cons_succ]
          refine wpAnyH_take (i := 1) (v := ?_) rfl (by kernel_rfl) (by kernel_rfl) (by kernel_rfl) (fun _ _ _ h => h) (Or.inl ⟨by rfl, ?_⟩) (by assumption) ?_
          rotate_left
          · intro w hSw; obtain ⟨⟨k0, k1⟩, ⟨j0, j1⟩, _⟩ := hSw.out; go_simp; try with_reducible rfl
          try simp only [Act.put, List.getElem_toArray, List.getElem_cons_succ, List.getElem_cons_zero, List.setIfInBounds_toArray, List.set_cons_zero, List.set_cons_succ]
          refine wpAnyH_take (i := 2) (v := ?_) rfl (by kernel_rfl) (by kernel_rfl) (by kernel_rfl) (fun _ _ _ h => h) (Or.inl ⟨by rfl, ?_⟩) (by assumption) ?_
          rotate_left
          · intro w hSw; obtain ⟨⟨k0, k1⟩, ⟨j0, j1⟩, _⟩ := hSw.out; go_simp; try with_reducible rfl
          try simp only [Act.put, List.getElem_toArray, List.getElem_cons_succ, List.getElem_cons_zero, List.setIfInBounds_toArray, List.set_cons_zero, List.set_cons_succ]
          refine wpAnyH_take (i := 3) (v := ?_) rfl (by kernel_rfl) (by kernel_rfl) (by kernel_rfl) (fun _ _ _ h => h) (Or.inl ⟨by rfl, ?_⟩) (by assumption) ?_
          rotate_left
          · intro w hSw; obtain ⟨⟨k0, k1⟩, ⟨j0, j1⟩, _⟩ := hSw.out; go_simp; try with_reducible rfl
          try simp only [Act.put, List.getElem_toArray, List.getElem_cons_succ, List.getElem_cons_zero, List.setIfInBounds_toArray, List.set_cons_zero, List.set_cons_succ]
          refine wpAnyH_take (i := 4) (v := ?_) rfl (by kernel_rfl) (by kernel_rfl) (by kernel_rfl) (fun _ _ _ h => h) (Or.inl ⟨by rfl, ?_⟩) (by assumption) ?_
          rotate_left
          · intro w hSw; obtain ⟨⟨k0, k1⟩, ⟨j0, j1⟩, _⟩ := hSw.out; go_simp; try with_reducible rfl
          try simp only [Act.put, List.getElem_toArray, List.getElem_cons_succ, List.getElem_cons_zero, List.setIfInBounds_toArray, List.set_cons_zero, List.set_cons_succ]
          refine wpAnyH_take (i := 5) (v := ?_) rfl (by kernel_rfl) (by kernel_rfl) (by kernel_rfl) (fun _ _ _ h => h) (Or.inl ⟨by rfl, ?_⟩) (by assumption) ?_
          rotate_left
          · intro w hSw; obtain ⟨⟨k0, k1⟩, ⟨j0, j1⟩, _⟩ := hSw.out; go_simp; try with_reducible rfl
          try simp only [Act.put, List.getElem_toArray, List.getElem_cons_succ, List.getElem_cons_zero, List.setIfInBounds_toArray, List.set_cons_zero, List.set_cons_succ]
          refine wpAnyH_take (i := 6) (v := ?_) rfl (by kernel_rfl) (by kernel_rfl) (by kernel_rfl) (fun _ _ _ h => h) (Or.inl ⟨by rfl, ?_⟩) (by assumption) ?_
          rotate_left
          · intro w hSw; obtain ⟨⟨k0, k1⟩, ⟨j0, j1⟩, _⟩ := hSw.out; go_simp; try with_reducible rfl
          try simp only [Act.put, List.getElem_toArray, List.getElem_cons_succ, List.getElem_cons_zero, List.setIfInBounds_toArray, List.set_cons_zero, List.set_cons_succ]
          refine wpAnyH_take (i := 7) (v := ?_) rfl (by kernel_rfl) (by kernel_rfl) (by kernel_rfl) (fun _ _ _ h => h) (Or.inl ⟨by rfl, ?_⟩) (by assumption) ?_
          rotate_left
          · intro w hSw; obtain ⟨⟨k0, k1⟩, ⟨j0, j1⟩, _⟩ := hSw.out; go_simp; try with_reducible rfl
          try simp only [Act.put, List.getElem_toArray, List.getElem_cons_succ, List.getElem_cons_zero, List.setIfInBounds_toArray, List.set_cons_zero, List.set_cons_succ]
          refine wpAnyH_take (i := 8) (v := ?_) rfl (by kernel_rfl) (by kernel_rfl) (by kernel_rfl) (fun _ _ _ h => h) (Or.inl ⟨by rfl, ?_⟩) (by assumption) ?_
          rotate_left
          · intro w hSw; obtain ⟨⟨k0, k1⟩, ⟨j0, j1⟩, _⟩ := hSw.out; go_simp; try with_reducible rfl
          try simp only [Act.put, List.getElem_toArray, List.getElem_cons_succ, List.getElem_cons_zero, List.setIfInBounds_toArray, List.set_cons_zero, List.set_cons_succ]
          refine wpAnyH_take (i := 9) (v := ?_) rfl (by kernel_rfl) (by kernel_rfl) (by kernel_rfl) (fun _ _ _ h => h) (Or.inl ⟨by rfl, ?_⟩) (by assumption) ?_
          rotate_left
          · intro w hSw; obtain ⟨⟨k0, k1⟩, ⟨j0, j1⟩, _⟩ := hSw.out; go_simp; try with_reducible rfl
          try simp only [Act.put, List.getElem_toArray, List.getElem_cons_succ, List.getElem_cons_zero, List.setIfInBounds_toArray, List.set_cons_zero, List.set_cons_succ]
          refine wpAnyH_take (i := 10) (v := ?_) rfl (by kernel_rfl) (by kernel_rfl) (by kernel_rfl) (fun _ _ _ h => h) (Or.inl ⟨by rfl, ?_⟩) (by assumption) ?_
          rotate_left
          · intro w hSw; obtain ⟨⟨k0, k1⟩, ⟨j0, j1⟩, _⟩ := hSw.out; go_simp; try with_reducible rfl
          try simp only [Act.put, List.getElem_toArray, List.getElem_cons_succ, List.getElem_cons_zero, List.setIfInBounds_toArray, List.set_cons_zero, List.set_cons_succ]
          refine wpAnyH_take (i := 11) (v := ?_) rfl (by kernel_rfl) (by kernel_rfl) (by kernel_rfl) (fun _ _ _ h => h) (Or.inl ⟨by rfl, ?_⟩) (by assumption) ?_
          rotate_left
          · intro w hSw; obtain ⟨⟨k0, k1⟩, ⟨j0, j1⟩, _⟩ := hSw.out; go_simp; try with_reducible rfl
          try simp only [Act.put, List.getElem_toArray, List.getElem_cons_succ, List.getElem_cons_zero, List.setIfInBounds_toArray, List.set_cons_zero, List.set_cons_succ]
          refine wpAnyH_take (i := 12) (v := ?_) rfl (by kernel_rfl) (by kernel_rfl) (by kernel_rfl) (fun _ _ _ h => h) (Or.inl ⟨by rfl, ?_⟩) (by assumption) ?_
          rotate_left
          · intro w hSw; obtain ⟨⟨k0, k1⟩, ⟨j0, j1⟩, _⟩ := hSw.out; go_simp; try with_reducible rfl
          try simp only [Act.put, List.getElem_toArray, List.getElem_cons_succ, List.getElem_cons_zero, List.setIfInBounds_toArray, List.set_cons_zero, List.set_cons_succ]
          refine wpAnyH_take (i := 13) (v := ?_) rfl (by kernel_rfl) (by kernel_rfl) (by kernel_rfl) (fun _ _ _ h => h) (Or.inl ⟨by rfl, ?_⟩) (by assumption) ?_
          rotate_left
          · intro w hSw; obtain ⟨⟨k0, k1⟩, ⟨j0, j1⟩, _⟩ := hSw.out; go_simp; try with_reducible rfl
          try simp only [Act.put, List.getElem_toArray, List.getElem_cons_succ, List.getElem_cons_zero, List.setIfInBounds_toArray, List.set_cons_zero, List.set_cons_succ]
          refine wpAnyH_ready (rs := [14]) (by kernel_rfl) (by simp) ?_
          refine AllReadyH.cons rfl (fun K hK => ?_) AllReadyH.nil
          go_simp
          refine (rsamep_yes p0 m0 d0 p1 m1 d1 b0 k0 f0 b1 k1 f1 q0 we (U0.out.same HTE.out) (U1.out.same HTE.out) (V0.out.same HTE.out) (V1.out.same HTE.out)).mono ?_
          rintro e wx ⟨rfl, hs⟩
          have hH2 := Lib.hid (And.intro (And.intro (same_cell hs hHeld.out.1.1) (same_cell hs hHeld.out.1.2)) (And.intro (And.intro (same_cell hs hHeld.out.2.1.1) (same_cell hs hHeld.out.2.1.2)) (hHeld.out.2.2.trans hs)))
          clear hs hHeld
          go_wp2_with fail
          refine hK.out _ _ ?_ (fun hHeld => ?_)
          · exact hH2
          clear hK K
          try simp only [Act.put, List.getElem_toArray, List.getElem_cons_succ, List.getElem_cons_zero, List.setIfInBounds_toArray, List.set_cons_zero, List.set_cons_succ]
          clear hH2
          refine wpAnyH_take (i := 15) (v := ?_) rfl (by kernel_rfl) (by kernel_rfl) (by kernel_rfl) (fun _ _ _ h => h) (Or.inl ⟨by rfl, ?_⟩) (by assumption) ?_
          rotate_left
          · intro w hSw; obtain ⟨⟨k0, k1⟩, ⟨j0, j1⟩, _⟩ := hSw.out; go_simp; try with_reducible rfl
          try simp only [Act.put, List.getElem_toArray, List.getElem_cons_succ, List.getElem_cons_zero, List.setIfInBounds_toArray, List.set_cons_zero, List.set_cons_succ]
          refine wpAnyH_done (by kernel_rfl) ?_ _
          have HF := Lib.hid (HTE.out.trans hHeld.out.2.2)
          clear hHeld
          go_wp2_with fail
          go_roundw
          case rel => exact ⟨0 + 1, by go_num, by omega, HF⟩
          case measure => simp [intOf]
        · rw [show ((1 : Nat) : Int) = 1 from rfl]
          obtain ⟨we, ewe⟩ : ∃ we, wr.drew = we := ⟨_, rfl⟩
          have hse : Same wr we := by rw [← ewe]; exact drew_same _
          have HTE := Lib.hid (hT.out.trans hse)
          have HC := Lib.hid (show PrAt we bk (off + i * 15 + 11) (.slice p2 m2 d2) (.slice p3 m3 d3) ∧ PrAt we bj (oft + i * 15 + 11) (.slice b2 k2 f2) (.slice b3 k3 f3) ∧ Same we we from ⟨⟨same_cell HTE.out (HCA.out 11 (by omega)), same_cell HTE.out (HCA.out 12 (by omega))⟩, ⟨same_cell HTE.out (HCB.out 11 (by omega)), same_cell HTE.out (HCB.out 12 (by omega))⟩, Same.refl _⟩)
          have EWE := Lib.hid ewe
          clear ewe hse hT
          go_upto_region 11 with fail
          refine wp_region_held_drew (S := fun w' => Hid (PrAt w' bk (off + i * 15 + 11) (.slice p2 m2 d2) (.slice p3 m3 d3) ∧ PrAt w' bj (oft + i * 15 + 11) (.slice b2 k2 f2) (.slice b3 k3 f3) ∧ Same we w')) (by kernel_rfl) (by rw [EWE.out]; exact HC) (fun hHeld => ?_)
          rw [EWE.out] at hHeld ⊢
          refine wpAnyH_take (i := 0) (v := ?_) rfl (by kernel_rfl) (by kernel_rfl) (by kernel_rfl) (fun _ _ _ h => h) (Or.inl ⟨by rfl, ?_⟩) (by assumption) ?_
          rotate_left
          · intro w hSw; obtain ⟨⟨k0, k1⟩, ⟨j0, j1⟩, _⟩ := hSw.out; go_simp; try with_reducible rfl
          try simp only [Act.put, List.getElem_toArray, List.getElem_cons_succ, List.getElem_cons_zero, List.setIfInBounds_toArray, List.set_cons_zero, List.set_cons_succ]
          refine wpAnyH_take (i := 1) (v := ?_) rfl (by kernel_rfl) (by kernel_rfl) (by kernel_rfl) (fun _ _ _ h => h) (Or.inl ⟨by rfl, ?_⟩) (by assumption) ?_
          rotate_left
          · intro w hSw; obtain ⟨⟨k0, k1⟩, ⟨j0, j1⟩, _⟩ := hSw.out; go_simp; try with_reducible rfl
          try simp only [Act.put, List.getElem_toArray, List.getElem_cons_succ, List.getElem_cons_zero, List.setIfInBounds_toArray, List.set_cons_zero, List.set_cons_succ]
          refine wpAnyH_take (i := 2) (v := ?_) rfl (by kernel_rfl) (by kernel_rfl) (by kernel_rfl) (fun _ _ _ h => h) (Or.inl ⟨by rfl, ?_⟩) (by assumption) ?_
          rotate_left
          · intro w hSw; obtain ⟨⟨k0, k1⟩, ⟨j0, j1⟩, _⟩ := hSw.out; go_simp; try with_reducible rfl
          try simp only [Act.put, List.getElem_toArray, List.getElem_cons_succ, List.getElem_cons_zero, List.setIfInBounds_toArray, List.set_cons_zero, List.set_cons_succ]
          refine wpAnyH_take (i := 3) (v := ?_) rfl (by kernel_rfl) (by kernel_rfl) (by kernel_rfl) (fun _ _ _ h => h) (Or.inl ⟨by rfl, ?_⟩) (by assumption) ?_
          rotate_left
          · intro w hSw; obtain ⟨⟨k0, k1⟩, ⟨j0, j1⟩, _⟩ := hSw.out; go_simp; try with_reducible rfl
          try simp only [Act.put, List.getElem_toArray, List.getElem_cons_succ, List.getElem_cons_zero, List.setIfInBounds_toArray, List.set_cons_zero, List.set_cons_succ]
          refine wpAnyH_take (i := 4) (v := ?_) rfl (by kernel_rfl) (by kernel_rfl) (by kernel_rfl) (fun _ _ _ h => h) (Or.inl ⟨by rfl, ?_⟩) (by assumption) ?_
          rotate_left
          · intro w hSw; obtain ⟨⟨k0, k1⟩, ⟨j0, j1⟩, _⟩ := hSw.out; go_simp; try with_reducible rfl
          try simp only [Act.put, List.getElem_toArray, List.getElem_cons_succ, List.getElem_cons_zero, List.setIfInBounds_toArray, List.set_cons_zero, List.set_cons_succ]
          refine wpAnyH_take (i := 5) (v := ?_) rfl (by kernel_rfl) (by kernel_rfl) (by kernel_rfl) (fun _ _ _ h => h) (Or.inl ⟨by rfl, ?_⟩) (by assumption) ?_
          rotate_left
          · intro w hSw; obtain ⟨⟨k0, k1⟩, ⟨j0, j1⟩, _⟩ := hSw.out; go_simp; try with_reducible rfl
          try simp only [Act.put, List.getElem_toArray, List.getElem_cons_succ, List.getElem_cons_zero, List.setIfInBounds_toArray, List.set_cons_zero, List.set_cons_succ]
          refine wpAnyH_take (i := 6) (v := ?_) rfl (by kernel_rfl) (by kernel_rfl) (by kernel_rfl) (fun _ _ _ h => h) (Or.inl ⟨by rfl, ?_⟩) (by assumption) ?_
          rotate_left
          · intro w hSw; obtain ⟨⟨k0, k1⟩, ⟨j0, j1⟩, _⟩ := hSw.out; go_simp; try with_reducible rfl
          try simp only [Act.put, List.getElem_toArray, List.getElem_cons_succ, List.getElem_cons_zero, List.setIfInBounds_toArray, List.set_cons_zero, List.set_cons_succ]
          refine wpAnyH_take (i := 7) (v := ?_) rfl (by kernel_rfl) (by kernel_rfl) (by kernel_rfl) (fun _ _ _ h => h) (Or.inl ⟨by rfl, ?_⟩) (by assumption) ?_
          rotate_left
          · intro w hSw; obtain ⟨⟨k0, k1⟩, ⟨j0, j1⟩, _⟩ := hSw.out; go_simp; try with_reducible rfl
          try simp only [Act.put, List.getElem_toArray, List.getElem_cons_succ, List.getElem_cons_zero, List.setIfInBounds_toArray, List.set_cons_zero, List.set_cons_succ]
          refine wpAnyH_take (i := 8) (v := ?_) rfl (by kernel_rfl) (by kernel_rfl) (by kernel_rfl) (fun _ _ _ h => h) (Or.inl ⟨by rfl, ?_⟩) (by assumption) ?_
          rotate_left
          · intro w hSw; obtain ⟨⟨k0, k1⟩, ⟨j0, j1⟩, _⟩ := hSw.out; go_simp; try with_reducible rfl
          try simp only [Act.put, List.getElem_toArray, List.getElem_cons_succ, List.getElem_cons_zero, List.setIfInBounds_toArray, List.set_cons_zero, List.set_cons_succ]
          refine wpAnyH_take (i := 9) (v := ?_) rfl (by kernel_rfl) (by kernel_rfl) (by kernel_rfl) (fun _ _ _ h => h) (Or.inl ⟨by rfl, ?_⟩) (by assumption) ?_
          rotate_left
          · intro w hSw; obtain ⟨⟨k0, k1⟩, ⟨j0, j1⟩, _⟩ := hSw.out; go_simp; try with_reducible rfl
          try simp only [Act.put, List.getElem_toArray, List.getElem_cons_succ, List.getElem_cons_zero, List.setIfInBounds_toArray, List.set_cons_zero, List.set_cons_succ]
          refine wpAnyH_take (i := 10) (v := ?_) rfl (by kernel_rfl) (by kernel_rfl) (by kernel_rfl) (fun _ _ _ h => h) (Or.inl ⟨by rfl, ?_⟩) (by assumption) ?_
          rotate_left
          · intro w hSw; obtain ⟨⟨k0, k1⟩, ⟨j0, j1⟩, _⟩ := hSw.out; go_simp; try with_reducible rfl
          try simp only [Act.put, List.getElem_toArray, List.getElem_cons_succ, List.getElem_cons_zero, List.setIfInBounds_toArray, List.set_cons_zero, List.set_cons_succ]
          refine wpAnyH_take (i := 11) (v := ?_) rfl (by kernel_rfl) (by kernel_rfl) (by kernel_rfl) (fun _ _ _ h => h) (Or.inl ⟨by rfl, ?_⟩) (by assumption) ?_
          rotate_left
          · intro w hSw; obtain ⟨⟨k0, k1⟩, ⟨j0, j1⟩, _⟩ := hSw.out; go_simp; try with_reducible rfl
          try simp only [Act.put, List.getElem_toArray, List.getElem_cons_succ, List.getElem_cons_zero, List.setIfInBounds_toArray, List.set_cons_zero, List.set_cons_succ]
          refine wpAnyH_take (i := 12) (v := ?_) rfl (by kernel_rfl) (by kernel_rfl) (by kernel_rfl) (fun _ _ _ h => h) (Or.inl ⟨by rfl, ?_⟩) (by assumption) ?_
          rotate_left
          · intro w hSw; obtain ⟨⟨k0, k1⟩, ⟨j0, j1⟩, _⟩ := hSw.out; go_simp; try with_reducible rfl
          try simp only [Act.put, List.getElem_toArray, List.getElem_cons_succ, List.getElem_cons_zero, List.setIfInBounds_toArray, List.set_cons_zero, List.set_cons_succ]
          refine wpAnyH_take (i := 13) (v := ?_) rfl (by kernel_rfl) (by kernel_rfl) (by kernel_rfl) (fun _ _ _ h => h) (Or.inl ⟨by rfl, ?_⟩) (by assumption) ?_
          rotate_left
          · intro w hSw; obtain ⟨⟨k0, k1⟩, ⟨j0, j1⟩, _⟩ := hSw.out; go_simp; try with_reducible rfl
          try simp only [Act.put, List.getElem_toArray, List.getElem_cons_succ, List.getElem_cons_zero, List.setIfInBounds_toArray, List.set_cons_zero, List.set_cons_succ]
          refine wpAnyH_ready (rs := [14]) (by kernel_rfl) (by simp) ?_
          refine AllReadyH.cons rfl (fun K hK => ?_) AllReadyH.nil
          go_simp
          refine (rsamep_yes p2 m2 d2 p3 m3 d3 b2 k2 f2 b3 k3 f3 q1 we (U2.out.same HTE.out) (U3.out.same HTE.out) (V2.out.same HTE.out) (V3.out.same HTE.out)).mono ?_
          rintro e wx ⟨rfl, hs⟩
          have hH2 := Lib.hid (And.intro (And.intro (same_cell hs hHeld.out.1.1) (same_cell hs hHeld.out.1.2)) (And.intro (And.intro (same_cell hs hHeld.out.2.1.1) (same_cell hs hHeld.out.2.1.2)) (hHeld.out.2.2.trans hs)))
          clear hs hHeld
          go_wp2_with fail
          refine hK.out _ _ ?_ (fun hHeld => ?_)
          · exact hH2
          clear hK K
          try simp only [Act.put, List.getElem_toArray, List.getElem_cons_succ, List.getElem_cons_zero, List.setIfInBounds_toArray, List.set_cons_zero, List.set_cons_succ]
          clear hH2
          refine wpAnyH_take (i := 15) (v := ?_) rfl (by kernel_rfl) (by kernel_rfl) (by kernel_rfl) (fun _ _ _ h => h) (Or.inl ⟨by rfl, ?_⟩) (by assumption) ?_
          rotate_left
          · intro w hSw; obtain ⟨⟨k0, k1⟩, ⟨j0, j1⟩, _⟩ := hSw.out; go_simp; try with_reducible rfl
          try simp only [Act.put, List.getElem_toArray, List.getElem_cons_succ, List.getElem_cons_zero, List.setIfInBounds_toArray, List.set_cons_zero, List.set_cons_succ]
          refine wpAnyH_done (by kernel_rfl) ?_ _
          have HF := Lib.hid (HTE.out.trans hHeld.out.2.2)
          clear hHeld
          go_wp2_with fail
          go_roundw
          case rel => exact ⟨1 + 1, by go_num, by omega, HF⟩
          case measure => simp [intOf]
        · rw [show ((2 : Nat) : Int) = 2 from rfl]
          obtain ⟨we, ewe⟩ : ∃ we, wr.drew = we := ⟨_, rfl⟩
          have hse : Same wr we := by rw [← ewe]; exact drew_same _
          have HTE := Lib.hid (hT.out.trans hse)
          have HC := Lib.hid (show PrAt we bk (off + i * 15 + 13) (.slice p4 m4 d4) (.slice p5 m5 d5) ∧ PrAt we bj (oft + i * 15 + 13) (.slice b4 k4 f4) (.slice b5 k5 f5) ∧ Same we we from ⟨⟨same_cell HTE.out (HCA.out 13 (by omega)), same_cell HTE.out (HCA.out 14 (by omega))⟩, ⟨same_cell HTE.out (HCB.out 13 (by omega)), same_cell HTE.out (HCB.out 14 (by omega))⟩, Same.refl _⟩)
          have EWE := Lib.hid ewe
          clear ewe hse hT
          go_upto_region 11 with fail
          refine wp_region_held_drew (S := fun w' => Hid (PrAt w' bk (off + i * 15 + 13) (.slice p4 m4 d4) (.slice p5 m5 d5) ∧ PrAt w' bj (oft + i * 15 + 13) (.slice b4 k4 f4) (.slice b5 k5 f5) ∧ Same we w')) (by kernel_rfl) (by rw [EWE.out]; exact HC) (fun hHeld => ?_)
          rw [EWE.out] at hHeld ⊢
          refine wpAnyH_take (i := 0) (v := ?_) rfl (by kernel_rfl) (by kernel_rfl) (by kernel_rfl) (fun _ _ _ h => h) (Or.inl ⟨by rfl, ?_⟩) (by assumption) ?_
          rotate_left
          · intro w hSw; obtain ⟨⟨k0, k1⟩, ⟨j0, j1⟩, _⟩ := hSw.out; go_simp; try with_reducible rfl
          try simp only [Act.put, List.getElem_toArray, List.getElem_cons_succ, List.getElem_cons_zero, List.setIfInBounds_toArray, List.set_cons_zero, List.set_cons_succ]
          refine wpAnyH_take (i := 1) (v := ?_) rfl (by kernel_rfl) (by kernel_rfl) (by kernel_rfl) (fun _ _ _ h => h) (Or.inl ⟨by rfl, ?_⟩) (by assumption) ?_
          rotate_left
          · intro w hSw; obtain ⟨⟨k0, k1⟩, ⟨j0, j1⟩, _⟩ := hSw.out; go_simp; try with_reducible rfl
          try simp only [Act.put, List.getElem_toArray, List.getElem_cons_succ, List.getElem_cons_zero, List.setIfInBounds_toArray, List.set_cons_zero, List.set_cons_succ]
          refine wpAnyH_take (i := 2) (v := ?_) rfl (by kernel_rfl) (by kernel_rfl) (by kernel_rfl) (fun _ _ _ h => h) (Or.inl ⟨by rfl, ?_⟩) (by assumption) ?_
          rotate_left
          · intro w hSw; obtain ⟨⟨k0, k1⟩, ⟨j0, j1⟩, _⟩ := hSw.out; go_simp; try with_reducible rfl
          try simp only [Act.put, List.getElem_toArray, List.getElem_cons_succ, List.getElem_cons_zero, List.setIfInBounds_toArray, List.set_cons_zero, List.set_cons_succ]
          refine wpAnyH_take (i := 3) (v := ?_) rfl (by kernel_rfl) (by kernel_rfl) (by kernel_rfl) (fun _ _ _ h => h) (Or.inl ⟨by rfl, ?_⟩) (by assumption) ?_
          rotate_left
          · intro w hSw; obtain ⟨⟨k0, k1⟩, ⟨j0, j1⟩, _⟩ := hSw.out; go_simp; try with_reducible rfl
          try simp only [Act.put, List.getElem_toArray, List.getElem_cons_succ, List.getElem_cons_zero, List.setIfInBounds_toArray, List.set_cons_zero, List.set_cons_succ]
          refine wpAnyH_take (i := 4) (v := ?_) rfl (by kernel_rfl) (by kernel_rfl) (by kernel_rfl) (fun _ _ _ h => h) (Or.inl ⟨by rfl, ?_⟩) (by assumption) ?_
          rotate_left
          · intro w hSw; obtain ⟨⟨k0, k1⟩, ⟨j0, j1⟩, _⟩ := hSw.out; go_simp; try with_reducible rfl
          try simp only [Act.put, List.getElem_toArray, List.getElem_cons_succ, List.getElem_cons_zero, List.setIfInBounds_toArray, List.set_cons_zero, List.set_cons_succ]
          refine wpAnyH_take (i := 5) (v := ?_) rfl (by kernel_rfl) (by kernel_rfl) (by kernel_rfl) (fun _ _ _ h => h) (Or.inl ⟨by rfl, ?_⟩) (by assumption) ?_
          rotate_left
          · intro w hSw; obtain ⟨⟨k0, k1⟩, ⟨j0, j1⟩, _⟩ := hSw.out; go_simp; try with_reducible rfl
          try simp only [Act.put, List.getElem_toArray, List.getElem_cons_succ, List.getElem_cons_zero, List.setIfInBounds_toArray, List.set_cons_zero, List.set_cons_succ]
          refine wpAnyH_take (i := 6) (v := ?_) rfl (by kernel_rfl) (by kernel_rfl) (by kernel_rfl) (fun _ _ _ h => h) (Or.inl ⟨by rfl, ?_⟩) (by assumption) ?_
          rotate_left
          · intro w hSw; obtain ⟨⟨k0, k1⟩, ⟨j0, j1⟩, _⟩ := hSw.out; go_simp; try with_reducible rfl
          try simp only [Act.put, List.getElem_toArray, List.getElem_cons_succ, List.getElem_cons_zero, List.setIfInBounds_toArray, List.set_cons_zero, List.set_cons_succ]
          refine wpAnyH_take (i := 7) (v := ?_) rfl (by kernel_rfl) (by kernel_rfl) (by kernel_rfl) (fun _ _ _ h => h) (Or.inl ⟨by rfl, ?_⟩) (by assumption) ?_
          rotate_left
          · intro w hSw; obtain ⟨⟨k0, k1⟩, ⟨j0, j1⟩, _⟩ := hSw.out; go_simp; try with_reducible rfl
          try simp only [Act.put, List.getElem_toArray, List.getElem_cons_succ, List.getElem_cons_zero, List.setIfInBounds_toArray, List.set_cons_zero, List.set_cons_succ]
          refine wpAnyH_take (i := 8) (v := ?_) rfl (by kernel_rfl) (by kernel_rfl) (by kernel_rfl) (fun _ _ _ h => h) (Or.inl ⟨by rfl, ?_⟩) (by assumption) ?_
          rotate_left
          · intro w hSw; obtain ⟨⟨k0, k1⟩, ⟨j0, j1⟩, _⟩ := hSw.out; go_simp; try with_reducible rfl
          try simp only [Act.put, List.getElem_toArray, List.getElem_cons_succ, List.getElem_cons_zero, List.setIfInBounds_toArray, List.set_cons_zero, List.set_cons_succ]
          refine wpAnyH_take (i := 9) (v := ?_) rfl (by kernel_rfl) (by kernel_rfl) (by kernel_rfl) (fun _ _ _ h => h) (Or.inl ⟨by rfl, ?_⟩) (by assumption) ?_
          rotate_left
          · intro w hSw; obtain ⟨⟨k0, k1⟩, ⟨j0, j1⟩, _⟩ := hSw.out; go_simp; try with_reducible rfl
          try simp only [Act.put, List.getElem_toArray, List.getElem_cons_succ, List.getElem_cons_zero, List.setIfInBounds_toArray, List.set_cons_zero, List.set_cons_succ]
          refine wpAnyH_take (i := 10) (v := ?_) rfl (by kernel_rfl) (by kernel_rfl) (by kernel_rfl) (fun _ _ _ h => h) (Or.inl ⟨by rfl, ?_⟩) (by assumption) ?_
          rotate_left
          · intro w hSw; obtain ⟨⟨k0, k1⟩, ⟨j0, j1⟩, _⟩ := hSw.out; go_simp; try with_reducible rfl
          try simp only [Act.put, List.getElem_toArray, List.getElem_cons_succ, List.getElem_cons_zero, List.setIfInBounds_toArray, List.set_cons_zero, List.set_cons_succ]
          refine wpAnyH_take (i := 11) (v := ?_) rfl (by kernel_rfl) (by kernel_rfl) (by kernel_rfl) (fun _ _ _ h => h) (Or.inl ⟨by rfl, ?_⟩) (by assumption) ?_
          rotate_left
          · intro w hSw; obtain ⟨⟨k0, k1⟩, ⟨j0, j1⟩, _⟩ := hSw.out; go_simp; try with_reducible rfl
          try simp only [Act.put, List.getElem_toArray, List.getElem_cons_succ, List.getElem_cons_zero, List.setIfInBounds_toArray, List.set_cons_zero, List.set_cons_succ]
          refine wpAnyH_take (i := 12) (v := ?_) rfl (by kernel_rfl) (by kernel_rfl) (by kernel_rfl) (fun _ _ _ h => h) (Or.inl ⟨by rfl, ?_⟩) (by assumption) ?_
          rotate_left
          · intro w hSw; obtain ⟨⟨k0, k1⟩, ⟨j0, j1⟩, _⟩ := hSw.out; go_simp; try with_reducible rfl
          try simp only [Act.put, List.getElem_toArray, List.getElem_cons_succ, List.getElem_cons_zero, List.setIfInBounds_toArray, List.set_cons_zero, List.set_cons_succ]
          refine wpAnyH_take (i := 13) (v := ?_) rfl (by kernel_rfl) (by kernel_rfl) (by kernel_rfl) (fun _ _ _ h => h) (Or.inl ⟨by rfl, ?_⟩) (by assumption) ?_
          rotate_left
          · intro w hSw; obtain ⟨⟨k0, k1⟩, ⟨j0, j1⟩, _⟩ := hSw.out; go_simp; try with_reducible rfl
          try simp only [Act.put, List.getElem_toArray, List.getElem_cons_succ, List.getElem_cons_zero, List.setIfInBounds_toArray, List.set_cons_zero, List.set_cons_succ]
          refine wpAnyH_ready (rs := [14]) (by kernel_rfl) (by simp) ?_
          refine AllReadyH.cons rfl (fun K hK => ?_) AllReadyH.nil
          go_simp
          refine (rsamep_yes p4 m4 d4 p5 m5 d5 b4 k4 f4 b5 k5 f5 q2 we (U4.out.same HTE.out) (U5.out.same HTE.out) (V4.out.same HTE.out) (V5.out.same HTE.out)).mono ?_
          rintro e wx ⟨rfl, hs⟩
          have hH2 := Lib.hid (And.intro (And.intro (same_cell hs hHeld.out.1.1) (same_cell hs hHeld.out.1.2)) (And.intro (And.intro (same_cell hs hHeld.out.2.1.1) (same_cell hs hHeld.out.2.1.2)) (hHeld.out.2.2.trans hs)))
          clear hs hHeld
          go_wp2_with fail
          refine hK.out _ _ ?_ (fun hHeld => ?_)
          · exact hH2
          clear hK K
          try simp only [Act.put, List.getElem_toArray, List.getElem_cons_succ, List.getElem_cons_zero, List.setIfInBounds_toArray, List.set_cons_zero, List.set_cons_succ]
          clear hH2
          refine wpAnyH_take (i := 15) (v := ?_) rfl (by kernel_rfl) (by kernel_rfl) (by kernel_rfl) (fun _ _ _ h => h) (Or.inl ⟨by rfl, ?_⟩) (by assumption) ?_
          rotate_left
          · intro w hSw; obtain ⟨⟨k0, k1⟩, ⟨j0, j1⟩, _⟩ := hSw.out; go_simp; try with_reducible rfl
          try simp only [Act.put, List.getElem_toArray, List.getElem_cons_succ, List.getElem_cons_zero, List.setIfInBounds_toArray, List.set_cons_zero, List.set_cons_succ]
          refine wpAnyH_done (by kernel_rfl) ?_ _
          have HF := Lib.hid (HTE.out.trans hHeld.out.2.2)
          clear hHeld
          go_wp2_with fail
          go_roundw
          case rel => exact ⟨2 + 1, by go_num, by omega, HF⟩
          case measure => simp [intOf]
        · rw [show ((3 : Nat) : Int) = 3 from rfl]
          have HF2 := Lib.hid (hD.out.trans hT.out)
          clear hT
          go_wp2_with fail
          go_roundw
          case rel => exact ⟨i + 1, by go_num, by omega, HF2⟩
          case measure => simp [intOf]; omega
    · obtain rfl : i = m := by omega
      go_wp2_with fail
      go_ret
      exact ⟨rfl, hD.out⟩
end Go.Proofs.Ytdbhcdhenapfoaa
