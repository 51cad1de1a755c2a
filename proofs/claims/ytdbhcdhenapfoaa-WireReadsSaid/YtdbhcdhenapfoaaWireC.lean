/- Layer 10: ways to write things as bytes and to read them, in plain words. -/
import Derived.Test.YtdbhcdhenapfoaaRead
set_option linter.unusedVariables false
set_option linter.unusedSimpArgs false
namespace Go.Proofs.Ytdbhcdhenapfoaa
abbrev Bs := List UInt8
/-- a way to write things as bytes and to read them back -/
structure Cod (α : Type) where
  enc : α → Bs
  ok : α → Prop
  par : Bs → Option (α × Bs)
  back : ∀ x r, ok x → par (enc x ++ r) = some (x, r)
  only : ∀ l x r, par l = some (x, r) → ok x ∧ l = enc x ++ r
def byteAt (x : Int) (i : Nat) : UInt8 := UInt8.ofNat (x.toNat / 2 ^ i % 256)
def encN (x : Int) : Bs := [byteAt x 56, byteAt x 48, byteAt x 40, byteAt x 32, byteAt x 24, byteAt x 16, byteAt x 8, byteAt x 0]
def numV (l : Bs) : Nat := l.foldl (fun n b => n * 256 + b.toNat) 0
theorem numV_snoc (l : Bs) (b : UInt8) : numV (l ++ [b]) = numV l * 256 + b.toNat := by unfold numV; simp
theorem numV_lt : ∀ (k : Nat) (l : Bs), l.length = k → numV l < 256 ^ k
  | 0, l, h => by rw [List.eq_nil_of_length_eq_zero h]; decide
  | k + 1, l, h => by
    obtain ⟨m, b, rfl⟩ : ∃ m b, l = m ++ [b] := ⟨l.dropLast, l.getLast (by intro e; subst e; simp at h), (List.dropLast_concat_getLast _).symm⟩
    rw [List.length_append] at h
    have ih := numV_lt k m (by simpa using h)
    rw [numV_snoc, Nat.pow_succ]
    have := b.toNat_lt
    omega
def parN (l : Bs) : Option (Int × Bs) := if l.length < 8 then none else some ((numV (l.take 8) : Nat), l.drop 8)
theorem encN_len (x : Int) : (encN x).length = 8 := rfl
theorem byteAt_toNat (x : Int) (i : Nat) : (byteAt x i).toNat = x.toNat / 2 ^ i % 256 := by unfold byteAt; rw [UInt8.toNat_ofNat']; omega
theorem numV_encN {x : Int} (h : U64 x) : numV (encN x) = x.toNat := by
  have h1 := h.1
  have h2 := h.2
  unfold numV encN
  simp only [List.foldl_cons, List.foldl_nil, byteAt_toNat]
  omega
theorem eight {l : Bs} (h : l.length = 8) : ∃ a b c d e f g i, l = [a, b, c, d, e, f, g, i] := by
  match l, h with
  | [a, b, c, d, e, f, g, i], _ => exact ⟨a, b, c, d, e, f, g, i, rfl⟩
theorem encN_numV {l : Bs} (h : l.length = 8) : encN (numV l : Nat) = l := by
  obtain ⟨a, b, c, d, e, f, g, i, rfl⟩ := eight h
  have ha := a.toNat_lt
  have hb := b.toNat_lt
  have hc := c.toNat_lt
  have hd := d.toNat_lt
  have he := e.toNat_lt
  have hf := f.toNat_lt
  have hg := g.toNat_lt
  have hi := i.toNat_lt
  have key : ∀ (k : Nat) (x : UInt8), (((((((((0 * 256 + a.toNat) * 256 + b.toNat) * 256 + c.toNat) * 256 + d.toNat) * 256 + e.toNat) * 256 + f.toNat) * 256 + g.toNat) * 256 + i.toNat) / 2 ^ k % 256) = x.toNat → byteAt (numV [a, b, c, d, e, f, g, i] : Nat) k = x := by
    intro k x hx
    apply UInt8.toNat_inj.1
    rw [byteAt_toNat, Int.toNat_natCast]
    exact hx
  unfold encN
  rw [key 56 a (by omega), key 48 b (by omega), key 40 c (by omega), key 32 d (by omega), key 24 e (by omega), key 16 f (by omega), key 8 g (by omega), key 0 i (by omega)]
def numC : Cod Int where
  enc := encN
  ok := U64
  par := parN
  back := fun x r h => by
    unfold parN
    rw [if_neg (by rw [List.length_append, encN_len]; omega), List.take_left' (encN_len x), List.drop_left' (encN_len x), numV_encN h]
    have := h.1
    rw [Int.toNat_of_nonneg this]
  only := fun l x r h => by
    unfold parN at h
    split at h
    · cases h
    · rename_i hl
      injection h with h
      injection h with h1 h2
      have ht : (l.take 8).length = 8 := by rw [List.length_take]; omega
      subst h1 h2
      have := numV_lt 8 _ ht
      refine ⟨⟨by omega, by simp at this; omega⟩, ?_⟩
      rw [encN_numV ht, List.take_append_drop]
def encC (n : Nat) : Bs := [UInt8.ofNat (n / 256 % 256), UInt8.ofNat (n % 256)]
def parC (most : Nat) : Bs → Option (Nat × Bs)
  | a :: b :: r => if a.toNat * 256 + b.toNat > most then none else some (a.toNat * 256 + b.toNat, r)
  | _ => none
def cntC (most : Nat) : Cod Nat where
  enc := encC
  ok := fun n => n ≤ most ∧ n < 65536
  par := parC most
  back := fun n r h => by
    unfold encC
    simp only [List.cons_append, List.nil_append, parC, UInt8.toNat_ofNat']
    have e : n / 256 % 256 % 2 ^ 8 * 256 + n % 256 % 2 ^ 8 = n := by have := h.2; omega
    rw [e, if_neg (by have := h.1; omega)]
  only := fun l n r h => by
    match l, h with
    | a :: b :: r', h =>
      simp only [parC] at h
      split at h
      · cases h
      · injection h with h
        injection h with h1 h2
        subst h2
        have ha := a.toNat_lt
        have hb := b.toNat_lt
        refine ⟨⟨by omega, by omega⟩, ?_⟩
        unfold encC
        have e1 : UInt8.ofNat (n / 256 % 256) = a := UInt8.toNat_inj.1 (by rw [UInt8.toNat_ofNat']; omega)
        have e2 : UInt8.ofNat (n % 256) = b := UInt8.toNat_inj.1 (by rw [UInt8.toNat_ofNat']; omega)
        rw [e1, e2]; rfl
def pairC {α β : Type} (A : Cod α) (B : Cod β) : Cod (α × β) where
  enc := fun x => A.enc x.1 ++ B.enc x.2
  ok := fun x => A.ok x.1 ∧ B.ok x.2
  par := fun l => (A.par l).bind fun x => (B.par x.2).bind fun y => some ((x.1, y.1), y.2)
  back := fun x r h => by
    rw [List.append_assoc, A.back _ _ h.1]
    simp only [Option.bind_some]
    rw [B.back _ _ h.2]
    rfl
  only := fun l x r h => by
    obtain ⟨⟨a, r1⟩, h1, h2⟩ := Option.bind_eq_some_iff.1 h
    obtain ⟨⟨b, r2⟩, h3, h4⟩ := Option.bind_eq_some_iff.1 h2
    injection h4 with h4
    injection h4 with h5 h6
    subst h5 h6
    obtain ⟨o1, e1⟩ := A.only _ _ _ h1
    obtain ⟨o2, e2⟩ := B.only _ _ _ h3
    refine ⟨⟨o1, o2⟩, ?_⟩
    rw [e1, List.append_assoc]
    simp only at e2 ⊢
    rw [e2]
def many {α : Type} (A : Cod α) : Nat → Bs → Option (List α × Bs)
  | 0, l => some ([], l)
  | k + 1, l => (A.par l).bind fun x => (many A k x.2).bind fun y => some (x.1 :: y.1, y.2)
theorem many_snoc {α : Type} (A : Cod α) : ∀ (k : Nat) (l : Bs), many A (k + 1) l = (many A k l).bind fun y => (A.par y.2).bind fun x => some (y.1 ++ [x.1], x.2)
  | 0, l => by
    simp only [many, Option.bind_some, List.nil_append]
  | k + 1, l => by
    rw [many]
    cases h : A.par l with
    | none => simp [many, h]
    | some x =>
      simp only [Option.bind_some]
      rw [many_snoc A k x.2]
      conv => rhs; rw [many, h]
      simp only [Option.bind_some]
      cases h2 : many A k x.2 with
      | none => rfl
      | some y =>
        simp only [Option.bind_some]
        cases h3 : A.par y.2 with
        | none => rfl
        | some z => rfl
theorem many_len {α : Type} (A : Cod α) : ∀ (k : Nat) (l : Bs) (xs : List α) (r : Bs), many A k l = some (xs, r) → xs.length = k
  | 0, l, xs, r, h => by injection h with h; injection h with h1 h2; subst h1; rfl
  | k + 1, l, xs, r, h => by
    obtain ⟨⟨a, r1⟩, h1, h2⟩ := Option.bind_eq_some_iff.1 h
    obtain ⟨⟨b, r2⟩, h3, h4⟩ := Option.bind_eq_some_iff.1 h2
    injection h4 with h4
    injection h4 with h5 h6
    subst h5
    rw [List.length_cons, many_len A k _ _ _ h3]
theorem many_back {α : Type} (A : Cod α) : ∀ (xs : List α) (r : Bs), (∀ x ∈ xs, A.ok x) → many A xs.length (xs.flatMap A.enc ++ r) = some (xs, r)
  | [], r, h => rfl
  | x :: xs, r, h => by
    rw [List.flatMap_cons, List.append_assoc, List.length_cons, many, A.back x _ (h x List.mem_cons_self)]
    simp only [Option.bind_some]
    rw [many_back A xs r (fun y hy => h y (List.mem_cons_of_mem _ hy))]
    rfl
theorem many_only {α : Type} (A : Cod α) : ∀ (k : Nat) (l : Bs) (xs : List α) (r : Bs), many A k l = some (xs, r) → (∀ x ∈ xs, A.ok x) ∧ l = xs.flatMap A.enc ++ r
  | 0, l, xs, r, h => by
    injection h with h; injection h with h1 h2; subst h1 h2
    exact ⟨(fun x hx => by cases hx), rfl⟩
  | k + 1, l, xs, r, h => by
    obtain ⟨⟨a, r1⟩, h1, h2⟩ := Option.bind_eq_some_iff.1 h
    obtain ⟨⟨b, r2⟩, h3, h4⟩ := Option.bind_eq_some_iff.1 h2
    injection h4 with h4
    injection h4 with h5 h6
    subst h5 h6
    obtain ⟨o1, e1⟩ := A.only _ _ _ h1
    obtain ⟨o2, e2⟩ := many_only A k _ _ _ h3
    refine ⟨fun x hx => ?_, ?_⟩
    · rcases List.mem_cons.1 hx with rfl | hx
      · exact o1
      · exact o2 x hx
    · rw [e1, List.flatMap_cons, List.append_assoc]
      simp only at e2 ⊢
      rw [e2]
def fixC {α : Type} (k : Nat) (A : Cod α) : Cod (List α) where
  enc := fun xs => xs.flatMap A.enc
  ok := fun xs => xs.length = k ∧ ∀ x ∈ xs, A.ok x
  par := many A k
  back := fun xs r h => by
    obtain ⟨h1, h2⟩ := h
    subst h1
    exact many_back A xs r h2
  only := fun l xs r h => by
    obtain ⟨o, e⟩ := many_only A k l xs r h
    exact ⟨⟨many_len A k l xs r h, o⟩, e⟩
def listC {α : Type} (most : Nat) (A : Cod α) : Cod (List α) where
  enc := fun xs => encC xs.length ++ xs.flatMap A.enc
  ok := fun xs => (xs.length ≤ most ∧ xs.length < 65536) ∧ ∀ x ∈ xs, A.ok x
  par := fun l => (parC most l).bind fun n => many A n.1 n.2
  back := fun xs r h => by
    rw [List.append_assoc]
    have := (cntC most).back xs.length (xs.flatMap A.enc ++ r) h.1
    simp only [cntC] at this
    rw [this]
    exact many_back A xs r h.2
  only := fun l xs r h => by
    obtain ⟨⟨n, r1⟩, h1, h2⟩ := Option.bind_eq_some_iff.1 h
    obtain ⟨o1, e1⟩ := (cntC most).only _ _ _ h1
    obtain ⟨o2, e2⟩ := many_only A n r1 xs r h2
    have hl := many_len A n r1 xs r h2
    simp only [cntC] at o1 e1
    subst hl
    refine ⟨⟨o1, o2⟩, ?_⟩
    rw [e1, List.append_assoc, e2]
abbrev ProofD := List Int × List Int
abbrev LetterD := List Int × ProofD
abbrev MixD := List LetterD × List (List Int) × List Int × List Int × List Int × ProofD
abbrev PassD := List Int × List ProofD
def numsC : Cod (List Int) := listC 64 numC
def proofC : Cod ProofD := pairC numsC numsC
def boxC : Cod (List Int) := fixC 6 numC
def letterC : Cod LetterD := pairC boxC proofC
def mixC : Cod MixD := pairC (listC 8 letterC) (pairC (listC 8 boxC) (pairC numsC (pairC numsC (pairC numsC proofC))))
def passC : Cod PassD := pairC (fixC 9 numC) (fixC 3 proofC)
def passlC : Cod (List PassD) := listC 8 passC
/-- a thing behind a byte, and nothing behind it -/
def rd {α : Type} (k : UInt8) (C : Cod α) : Bs → Option α
  | [] => none
  | b :: r => if b = k then (match C.par r with | some (x, []) => some x | _ => none) else none
theorem rd_wr {α : Type} {k : UInt8} {C : Cod α} {x : α} (h : C.ok x) : rd k C (k :: C.enc x) = some x := by
  have := C.back x [] h
  rw [List.append_nil] at this
  simp [rd, this]
theorem wr_rd {α : Type} {k : UInt8} {C : Cod α} {l : Bs} {x : α} (h : rd k C l = some x) : C.ok x ∧ l = k :: C.enc x := by
  cases l with
  | nil => cases h
  | cons b r =>
    simp only [rd] at h
    by_cases hb : b = k
    · rw [if_pos hb] at h
      subst hb
      cases hp : C.par r with
      | none => rw [hp] at h; cases h
      | some z =>
        obtain ⟨y, r2⟩ := z
        rw [hp] at h
        cases r2 with
        | nil =>
          injection h with h
          subst h
          obtain ⟨o, e⟩ := C.only _ _ _ hp
          rw [List.append_nil] at e
          exact ⟨o, by rw [e]⟩
        | cons c r3 => cases h
    · rw [if_neg hb] at h; cases h
theorem rd_kinds {α β : Type} {j k : UInt8} {A : Cod α} {B : Cod β} {l : Bs} {x : α} (hjk : j ≠ k) (h : rd j A l = some x) : rd k B l = none := by
  obtain ⟨_, e⟩ := wr_rd h
  subst e
  simp [rd, hjk]
theorem rd_cut {α β : Type} {j k : UInt8} {A : Cod α} {B : Cod β} {l : Bs} {x : α} {c : Nat} (hs : j = k → HEq A B ∧ α = β) (h : rd j A l = some x) (hc : c < l.length) : rd k B (l.take c) = none := by
  obtain ⟨o, e⟩ := wr_rd h
  subst e
  cases c with
  | zero => rfl
  | succ c =>
    by_cases hjk : j = k
    · obtain ⟨h1, h2⟩ := hs hjk
      subst hjk h2
      have h1 := eq_of_heq h1
      subst h1
      rw [List.take_succ_cons]
      cases hr : rd j A (j :: (A.enc x).take c) with
      | none => rfl
      | some y =>
        exfalso
        obtain ⟨o2, e2⟩ := wr_rd hr
        injection e2 with _ e2
        have h3 := A.back y ((A.enc x).drop c) o2
        rw [← e2, List.take_append_drop] at h3
        have h4 := A.back x [] o
        rw [List.append_nil, h3] at h4
        injection h4 with h4
        injection h4 with _ h5
        rw [List.length_cons] at hc
        have := congrArg List.length h5
        rw [List.length_drop] at this
        simp at this
        omega
    · rw [List.take_succ_cons]
      simp [rd, hjk]
end Go.Proofs.Ytdbhcdhenapfoaa
