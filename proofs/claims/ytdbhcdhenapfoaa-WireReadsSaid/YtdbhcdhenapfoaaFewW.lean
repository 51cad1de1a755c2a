/- Layer 10: few; a box is itself. -/
import Derived.Test.YtdbhcdhenapfoaaSameW
import Derived.Laws.StructEq
set_option linter.unusedVariables false
set_option linter.unusedSimpArgs false
namespace Go.Proofs.Ytdbhcdhenapfoaa
open Go.RowKit Go.Maps
/-- up to 100 of each -/
def fewB : List Nat → Bool
  | [] => true
  | n :: r => decide (n ≤ 100) && fewB r
/-- slices of numbers, by their lengths, in one block -/
structure SlcAt (w : World) (b : Nat) (ns : List Nat) : Prop where
  it : ∀ i, i < ns.length → ∃ a c, w.cell? ⟨b, i, none⟩ = some (.slice a (ns.getD i 0) c)
theorem SlcAt.same {w w' : World} {b : Nat} {ns : List Nat} (h : SlcAt w b ns) (hs : Same w w') : SlcAt w' b ns := ⟨fun i hi => by obtain ⟨a, c, e⟩ := h.it i hi; exact ⟨a, c, same_cell hs e⟩⟩
theorem fewB_false {ns : List Nat} {i : Nat} (hi : i < ns.length) (h : ¬ ns.getD i 0 ≤ 100) : fewB ns = false := by
  induction ns generalizing i with
  | nil => simp at hi
  | cons n r ih =>
    cases i with
    | zero => simp [fewB]; intro h2; exact absurd h2 (by simpa using h)
    | succ i => simp only [fewB]; rw [ih (i := i) (by simpa using hi) (by simpa using h)]; simp
theorem fewB_true {ns : List Nat} (h : ∀ i, i < ns.length → ns.getD i 0 ≤ 100) : fewB ns = true := by
  induction ns with
  | nil => rfl
  | cons n r ih =>
    have h0 := h 0 (by simp)
    simp only [fewB]
    rw [ih (fun i hi => by simpa using h (i + 1) (by simpa using hi))]
    simpa using h0
theorem few_any (b : Nat) (ns : List Nat) (m c : Nat) (hm : ns.length = m) (hs : m ≤ 100) (w : World) (h : SlcAt w b ns) :
    Calls Try.prog 9 #[.slice (some ⟨b, 0, none⟩) m c] w fun z w' => z = .returned (.bool (fewB ns)) ∧ w' = w := by
  have HB := Lib.hid h
  have HM := Lib.hid hm
  have hm0 : (0 : Int) ≤ m := by omega
  clear h hm
  go_enter Try.func9, Try.ntmps9
  go_wp2_with fail
  go_loopw [7] (fun s7 wr => ∃ i : Nat, s7 = .int .i64 i ∧ i ≤ m ∧ Hid (∀ j, j < i → ns.getD j 0 ≤ 100) ∧ Hid (wr = w)) (fun s7 _ => m - (intOf s7).toNat)
  case atStart => exact ⟨0, rfl, by omega, Lib.hid (fun j hj => by omega), Lib.hid rfl⟩
  case round =>
    obtain ⟨i, rfl, hi', hF, hW⟩ := hrel
    obtain ⟨wa, rfl⟩ : ∃ wz, wz = wr := ⟨_, rfl⟩
    by_cases hlt : i < m
    · have hi0 : (0 : Int) ≤ i := by omega
      have hi1 : (i : Int) < m := by omega
      obtain ⟨a, c', hc⟩ := HB.out.it i (by rw [HM.out]; exact hlt)
      rw [← hW.out] at hc
      obtain ⟨k, ek⟩ : ∃ k, ns.getD i 0 = k := ⟨_, rfl⟩
      rw [ek] at hc
      by_cases hk : k ≤ 100
      · have hd : decide ((k : Int) > 100) = false := decide_eq_false (by omega)
        have HN := Lib.hid (show ∀ j, j < i + 1 → ns.getD j 0 ≤ 100 from fun j hj => by
          by_cases e : j = i
          · subst e; rw [ek]; exact hk
          · exact hF.out j (by omega))
        go_wp2_with fail
        go_roundw
        case rel => exact ⟨i + 1, by go_num, by omega, HN, hW⟩
        case measure => simp [intOf]; omega
      · have hd : decide ((k : Int) > 100) = true := decide_eq_true (by omega)
        have HN := Lib.hid (fewB_false (ns := ns) (i := i) (by rw [HM.out]; exact hlt) (by rw [ek]; exact hk))
        go_wp2_with fail
        go_ret
        exact ⟨by rw [HN.out]; rfl, hW.out⟩
    · obtain rfl : m = i := by omega
      have HN := Lib.hid (fewB_true (ns := ns) (fun j hj => hF.out j (by rw [← HM.out]; exact hj)))
      go_wp2_with fail
      go_ret
      exact ⟨by rw [HN.out]; rfl, hW.out⟩
theorem pair_under : Try.prog.underlying 35 = some (.struct (Try.prog.fieldsOf 35)) := by kernel_rfl
theorem pair_held : Try.prog.stoodInHeld 35 = false := by kernel_rfl
theorem pair_fields : (Try.prog.fieldsOf 35).toList.map (fun f => (f.name == "_", f.type, f.offset)) = [(false, 33, 0), (false, 33, 1)] := by kernel_rfl
theorem eq_two (d : Nat) (x y : Int) (w : World) (fs : List Field) (hf : fs.map (fun f => (f.name == "_", f.type, f.offset)) = [(false, 33, 0), (false, 33, 1)]) : (Op.eqFields (d + 1) #[.int .u64 x, .int .u64 y] #[.int .u64 x, .int .u64 y] fs).run Try.prog w = .ok true w := by
  have hl := congrArg List.length hf
  rw [List.length_map] at hl
  obtain ⟨f, g, rfl⟩ : ∃ f g, fs = [f, g] := by
    match fs, hl with
    | [f, g], _ => exact ⟨f, g, rfl⟩
  · simp at hf
    obtain ⟨⟨n1, t1, o1⟩, n2, t2, o2⟩ := hf
    have p0 : ∀ (w : World), (part 33 #[.int .u64 x, .int .u64 y] 0).run Try.prog w = .ok (.int .u64 x) w := by intro w; simp [part, go_sem]
    have p1 : ∀ (w : World), (part 33 #[.int .u64 x, .int .u64 y] 1).run Try.prog w = .ok (.int .u64 y) w := by intro w; simp [part, go_sem]
    have q0 : ∀ (w : World) (a : Int), (Op.equalIn (d + 1) 33 (.int .u64 a) (.int .u64 a)).run Try.prog w = .ok true w := by intro w a; rw [run_equalIn_int w d _ _ _ _ _ Try.underlying33]; simp
    simp [Op.eqFields, n1, n2, t1, t2, o1, o2, Sem.run_bind, p0, p1, q0]
theorem pair_self (d : Nat) (x y : Int) (w : World) : (Op.equalIn (d + 2) 35 (.agg #[.int .u64 x, .int .u64 y]) (.agg #[.int .u64 x, .int .u64 y])).run Try.prog w = .ok true w :=
  (run_equalIn_struct (P := Try.prog) w (d + 1) 35 #[.int .u64 x, .int .u64 y] #[.int .u64 x, .int .u64 y] pair_under pair_held).trans (eq_two d x y w _ pair_fields)
theorem pair_self2 (n d : Nat) (h : n = d + 2) (x y : Int) (w : World) : (Op.equalIn n 35 (.agg #[.int .u64 x, .int .u64 y]) (.agg #[.int .u64 x, .int .u64 y])).run Try.prog w = .ok true w := by
  subst h
  exact pair_self d x y w
theorem info_pair : (Try.prog.info? 35).map (fun i => (i.zero, i.size, i.bytes)) = some (some (.agg #[.int .u64 0, .int .u64 0]), 2, 16) := by kernel_rfl
theorem box_self (x0 x1 x2 x3 x4 x5 : Int) (w : World) : (Op.equalIn 10000 37 (.agg #[.int .u64 x0, .int .u64 x1, .int .u64 x2, .int .u64 x3, .int .u64 x4, .int .u64 x5]) (.agg #[.int .u64 x0, .int .u64 x1, .int .u64 x2, .int .u64 x3, .int .u64 x4, .int .u64 x5])).run Try.prog w = .ok true w := by
  obtain ⟨i0, hi, hz0, hz1, hz2⟩ := info_parts info_pair
  have hc : Try.prog.cellsOf 35 = 2 := by kernel_rfl
  rw [run_equalIn_array w 9999 _ _ Try.underlying37 hi, hc]
  have p0 : ∀ (w : World), (part 35 #[.int .u64 x0, .int .u64 x1, .int .u64 x2, .int .u64 x3, .int .u64 x4, .int .u64 x5] (0 * 2)).run Try.prog w = .ok (.agg #[.int .u64 x0, .int .u64 x1]) w := fun _ => by kernel_rfl
  have p1 : ∀ (w : World), (part 35 #[.int .u64 x0, .int .u64 x1, .int .u64 x2, .int .u64 x3, .int .u64 x4, .int .u64 x5] (1 * 2)).run Try.prog w = .ok (.agg #[.int .u64 x2, .int .u64 x3]) w := fun _ => by kernel_rfl
  have p2 : ∀ (w : World), (part 35 #[.int .u64 x0, .int .u64 x1, .int .u64 x2, .int .u64 x3, .int .u64 x4, .int .u64 x5] (2 * 2)).run Try.prog w = .ok (.agg #[.int .u64 x4, .int .u64 x5]) w := fun _ => by kernel_rfl
  have q0 : ∀ (w : World) (a b : Int), (Op.equalIn 9999 35 (.agg #[.int .u64 a, .int .u64 b]) (.agg #[.int .u64 a, .int .u64 b])).run Try.prog w = .ok true w := fun w a b => pair_self2 9999 9997 rfl a b w
  show (Op.eqItems 9999 _ 2 _ _ [0, 1, 2]).run _ _ = _
  simp only [Op.eqItems, Sem.run_bind, p0, p1, p2, q0, Result.andThen_ok]
  simp [q0, p1, p2, Result.andThen, Op.eqItems]
end Go.Proofs.Ytdbhcdhenapfoaa
