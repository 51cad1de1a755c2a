/- What a slice that came in weighs bounds its length. -/
import Derived.Test.YtlnkpbaibnfhhaaProg
import Derived.SizedLaws
import Derived.Deep.Slices
set_option linter.unusedVariables false
namespace Go.Proofs.Ytlnkpbaibnfhhaa
open Go.ChangeShapes
open Go.Deep (open_slice)
theorem size_slice {H : Type} {enc : TypeId × Value → H} {P : Program} {w : World} {base : Nat} {spare : Nat → Bool} {held : Bool} {fuel : Nat} {ts : List TypeId} {ds : List (DataW H)} {t e : TypeId} {a : Option Addr} {len cap : Nat} {d : DataW H} {pl : List MemPlace}
    (hsz : (DataW.weightsEach P ts ds).all (· ≤ reachBytes) = true) {j : Nat} (hj : ts[j]? = some t) (hd : ds[j]? = some d) (ht : P.underlying t = some (.slice e))
    (h : DataW.trod enc P w base spare held fuel t [.slice a len cap] = some (d, pl)) : len * P.bytesOf e ≤ reachBytes := by
  rcases open_slice ht h with ⟨h0, _⟩ | ⟨a', len', cap', m, n, D, Pl, hcs, hb, hl, hm, hmm, hx, _⟩
  · simp at h0
    obtain ⟨_, rfl, _⟩ := h0
    simp
  · simp at hcs
    obtain ⟨_, rfl, _⟩ := hcs
    injection hx with hx _
    subst hx
    have := sized_slice hsz hj hd ht
    simp only [List.length_map, List.length_range] at this
    exact Nat.le_trans (Nat.mul_le_mul_right _ (by omega)) this
end Go.Proofs.Ytlnkpbaibnfhhaa
