/- How long a slice argument can be at most. -/
import Derived.Test.YthodjlhjfaccpaaPm
import Derived.SizedLaws
import Derived.Deep.Slices
set_option linter.unusedVariables false
namespace Go.Proofs.Ythodjlhjfaccpaa
open Go Go.RowKit Go.Deep
variable {H : Type} {enc : TypeId × Value → H} {P : Program} {w : World} {base : Nat} {spare : Nat → Bool} {held : Bool}
theorem sized_len {ts : List TypeId} {ds : List (DataW H)} (hsz : (DataW.weightsEach P ts ds).all (· ≤ reachBytes) = true) {j : Nat} {t e : TypeId} {fuel : Nat} {a : Option Addr} {len cap : Nat} {x : DataW H} {ps : List MemPlace}
    (ht : ts[j]? = some t) (hd : ds[j]? = some x) (hu : P.underlying t = some (.slice e)) (h : DataW.trod enc P w base spare held fuel t [.slice a len cap] = some (x, ps)) : len * P.bytesOf e ≤ reachBytes := by
  rcases open_slice hu h with ⟨h0, _⟩ | ⟨a', len', cap', m, n, D, Pl, hcs, hb, hl, hm, hmm, hx, hi⟩
  · injection h0 with h0
    injection h0 with _ h2 _
    rw [h2, Nat.zero_mul]
    exact Nat.zero_le _
  · injection hcs with hcs
    injection hcs with _ h2 _
    subst h2
    have hx1 : x = .slice ((List.range len).map D) ((List.range (m - len)).map fun j => D (len + j)) := congrArg Prod.fst hx
    have := sized_slice hsz ht (hd.trans (congrArg some hx1)) hu
    rw [List.length_map, List.length_range] at this
    exact Nat.le_trans (Nat.mul_le_mul_right _ (Nat.le_add_right _ _)) this
end Go.Proofs.Ythodjlhjfaccpaa
