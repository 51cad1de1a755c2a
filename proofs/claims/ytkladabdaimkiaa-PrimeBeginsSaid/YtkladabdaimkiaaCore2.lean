/- The laws of layer 2 at the values that the rows open. -/
import Derived.Test.YtkladabdaimkiaaLaw2B
import Derived.Test.YtkladabdaimkiaaOpen
set_option linter.unusedVariables false
set_option linter.unusedSimpArgs false
namespace Go.Proofs.Ytkladabdaimkiaa
open Go.RowKit
section
variable {H : Type} {enc : TypeId × Value → H} {W : World}
theorem wf_U64 {x : Int} (h : (Lit.int .u64 x).wf = true) : U64 x := by
  have hb := bounds_u64 h
  exact ⟨hb.1, by omega⟩
theorem rd_rows' {a : Option Addr} {n cap : Nat} (h : Rd enc W 22 [.slice a n cap]) : n ≤ cap ∧ cap ≤ 9223372036854775807 ∧ ∃ rs, RowsAt W a n rs := by
  obtain ⟨a', n', cap', rs, e, h1, h2, h3⟩ := rd_rows h
  simp at e
  obtain ⟨rfl, rfl, rfl⟩ := e
  exact ⟨h1, h2, rs, h3⟩
theorem coreHolds (a : Option Addr) (n cap : Nat) (h : Rd enc W 22 [.slice a n cap]) (x : Int) (hx : (Lit.int .u64 x).wf = true) :
    Calls Try.prog 3 #[.slice a n cap, .int .u64 x] W fun e w' => e = .returned (.bool true) ∧ Same W w' := by
  obtain ⟨_, _, rs, hr⟩ := rd_rows' h
  exact lawHolds a n cap x rs W hr (wf_U64 hx)
theorem coreTrue (a : Option Addr) (n cap : Nat) (h : Rd enc W 22 [.slice a n cap]) (x : Int) (hx : (Lit.int .u64 x).wf = true) :
    Calls Try.prog 4 #[.slice a n cap, .int .u64 x] W fun e w' => e = .returned (.bool true) ∧ Same W w' := by
  obtain ⟨_, _, rs, hr⟩ := rd_rows' h
  exact lawTrue a n cap x rs W hr (wf_U64 hx)
theorem coreFermat (a : Option Addr) (n cap : Nat) (h : Rd enc W 22 [.slice a n cap]) (x : Int) (hx : (Lit.int .u64 x).wf = true) (y : Int) (hy : (Lit.int .u64 y).wf = true) :
    Calls Try.prog 6 #[.slice a n cap, .int .u64 x, .int .u64 y] W fun e w' => e = .returned (.bool true) ∧ Same W w' := by
  obtain ⟨_, _, rs, hr⟩ := rd_rows' h
  exact lawFermat a n cap x y rs W hr (wf_U64 hx) (wf_U64 hy)
theorem coreBegins (a : Option Addr) (n cap : Nat) (h : Rd enc W 22 [.slice a n cap]) (x : Int) (hx : (Lit.int .u64 x).wf = true) (k : Int) (hk : (Lit.int .i64 k).wf = true) :
    Calls Try.prog 5 #[.slice a n cap, .int .u64 x, .int .i64 k] W fun e w' => e = .returned (.bool true) ∧ Same W w' := by
  obtain ⟨hc, hm, rs, hr⟩ := rd_rows' h
  have hb := bounds_i64 hk
  exact lawBegins a n cap x k rs W hr hc hm (wf_U64 hx) (by omega) (by omega)
end
end Go.Proofs.Ytkladabdaimkiaa
