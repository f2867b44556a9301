/- The row of the law ParseFirst: for every two lists of tokens, the place of a fault tells how far the tokens begin a program. -/
import Derived.Test.YthodjlhjfaccpaaRows
import Derived.Test.YthodjlhjfaccpaaFw
import Derived.Test.YthodjlhjfaccpaaOp
import Derived.WalkKit
import Derived.ProofKit
import Derived.OpenShut
import Derived.ShutString
import Derived.ChangeOld
import Derived.Below
import Derived.SizedLaws
namespace Go.Proofs.Ythodjlhjfaccpaa.parseFirst
open Go.ChangeShapes Go.WideShapes Go.ChangeAt Go.RowKit
set_option linter.unusedVariables false
theorem own : ownKnob Try.prog.godebug = none := by kernel_rfl
theorem laidOut : laidOutB Try.prog = true := by kernel_rfl
theorem bytesTok : Try.prog.bytesOf 48 = 40 := by kernel_rfl
set_option maxRecDepth 100000 in
theorem lifted (os : Os) (started : os.Started) (H : Type) (enc : TypeId × Value → H) :
    ReturnsInHanded {} Try.checked os 6 .any (Rows.parseFirstSpec.pre6 enc Try.prog Try.f6 Rows.parseFirstRow.domain false) (Rows.parseFirstSpec.post enc Try.prog Try.f6 false true false false) := by
  refine returnsInHanded_of_change_sized (C := Try.checked) own started (by kernel_rfl) Try.func6
    (ChangeSpec.witness6 (enc := enc) (C := Try.checked) false ⟨#[], #[.slice none 0 0, .slice none 0 0], []⟩ 8 (by kernel_rfl) (by kernel_rfl) (by kernel_rfl) (by kernel_rfl)) ?_
  intro W base args ds gs before hval0 hW hcnd hsz0 _
  have hval : ∀ (j : Nat) t v, Try.f6.params[j]? = some t → args[j]? = some v → Value.okWide Try.prog W .any base t v := hval0
  have hsz : (DataW.weightsEach Try.prog (Try.f6.params.toList ++ Rows.parseFirstSpec.plain.varTypes Try.prog) (ds ++ gs)).all (· ≤ reachBytes) = true := hsz0
  have hW' := hW
  obtain ⟨p, q, hA0, hV, rfl, hfz, hnd⟩ := hW
  have hA : DataW.TrodAll enc Try.prog W 0 (fun _ => true) true Try.f6.params.toList args.toList ds p := hA0
  rw [Try.params6] at hA hval hsz
  obtain ⟨v0, vs0, d0, ds0, p0, q0, hargs, rfl, rfl, h0, r0⟩ := trodAll_cons hA
  obtain ⟨v1, vs1, d1, ds1, p1, q1, rfl, rfl, rfl, h1, r1⟩ := trodAll_cons r0
  obtain ⟨rfl, rfl, rfl⟩ := trodAll_nil r1
  obtain rfl : args = #[v0, v1] := by cases args; simp_all
  obtain ⟨rfl, rfl⟩ := trodVars_none hV
  obtain ⟨a0, len0, cap0, rfl⟩ := okWide_slice Try.underlying22 (hval 0 22 v0 rfl rfl)
  obtain ⟨a1, len1, cap1, rfl⟩ := okWide_slice Try.underlying22 (hval 1 22 v1 rfl rfl)
  have k0 := h0
  have k1 := h1
  have lt0 : ∀ x ∈ p0, x.block < W.heap.size := by obtain ⟨m, hm⟩ := k0; exact DataW.trod_lt m _ _ _ hm
  have lt1 : ∀ x ∈ p1, x.block < W.heap.size := by obtain ⟨m, hm⟩ := k1; exact DataW.trod_lt m _ _ _ hm
  obtain ⟨l, hl, hm, hr, hn⟩ : ∃ l : List Pm.Tok, l.length = len0 ∧ len0 * 40 ≤ reachBytes ∧ RdS W (.slice a0 len0 cap0) len0 (Pm.toksC l) ∧ ∀ t ∈ l, t.name.size ≤ maxLen := by
    obtain ⟨fuel, hf⟩ := h0
    obtain ⟨l, g1, g2, g3, g4⟩ := toks_open hf
    have := sized_len hsz (j := 0) rfl rfl Try.underlying22 hf
    rw [bytesTok] at this
    exact ⟨l, g1, this, g3, g4⟩
  obtain ⟨l2, hl2, hm2, hr2, hn2⟩ : ∃ l : List Pm.Tok, l.length = len1 ∧ len1 * 40 ≤ reachBytes ∧ RdS W (.slice a1 len1 cap1) len1 (Pm.toksC l) ∧ ∀ t ∈ l, t.name.size ≤ maxLen := by
    obtain ⟨fuel, hf⟩ := h1
    obtain ⟨l, g1, g2, g3, g4⟩ := toks_open hf
    have := sized_len hsz (j := 1) rfl rfl Try.underlying22 hf
    rw [bytesTok] at this
    exact ⟨l, g1, this, g3, g4⟩
  subst hl hl2
  clear hA0 hval0 hsz0 hsz
  have b0 := reachBytes_lt
  refine (parseFirst_c l l2 a0 a1 cap0 cap1 W hr hr2 (by omega) (by omega)).mono fun e W' ⟨he, hk⟩ => ?_
  have bel := hk.below
  subst he
  exact ⟨_, rfl, _, _, _, [], _, [], hW', trodAll_mk1 (shut_bool Try.underlying4 _), (trodAll_cons_mk (Below.trod laidOut (by kernel_rfl) (of_decide_eq_true (by kernel_rfl)) k0 bel lt0) (trodAll_cons_mk (Below.trod laidOut (by kernel_rfl) (of_decide_eq_true (by kernel_rfl)) k1 bel lt1) trodAll_mk0)), rfl, bel.frame _, fun h => by cases h⟩
theorem over : Rows.parseFirstRow.holds Try.pinned (OpenSpec.ofChange Rows.parseFirstSpec) :=
  OpenClaim.holds_of_wide 6 Try.f6 rfl rfl rfl rfl rfl rfl rfl ⟨rfl, rfl, rfl, rfl, rfl⟩ rfl rfl rfl rfl rfl (by kernel_rfl) Try.func6 (by kernel_rfl)
    (of_decide_eq_true (by kernel_rfl)) (by unfold Func.isWrapper; first | (rw [if_pos (by decide +kernel)]; kernel_rfl) | (rw [if_neg (by decide +kernel)]; exact ⟨rfl, rfl⟩))
    (fun os started H enc _ => lifted os started H enc)
theorem proved : Rows.ParseFirstSaid := over
#print axioms proved
end Go.Proofs.Ythodjlhjfaccpaa.parseFirst
namespace Go.Proofs.Ythodjlhjfaccpaa
/-- The row, under a short name, for the claim. -/
theorem parseFirst_holds : Rows.ParseFirstSaid := parseFirst.proved
end Go.Proofs.Ythodjlhjfaccpaa
