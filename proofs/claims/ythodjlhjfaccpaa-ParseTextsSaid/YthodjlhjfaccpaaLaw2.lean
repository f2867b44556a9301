/- The row of the law ParseTexts: for every text of up to 65000 bytes, what Parse answers on its tokens is the document's answer. -/
import Derived.Test.YthodjlhjfaccpaaRows
import Derived.Test.YthodjlhjfaccpaaTr
import Derived.WalkKit
import Derived.ProofKit
import Derived.OpenShut
import Derived.ShutString
import Derived.ChangeOld
import Derived.Below
import Derived.SizedLaws
set_option linter.unusedVariables false
namespace Go.Proofs.Ythodjlhjfaccpaa
open Go Go.RowKit Mem Pm

section
variable {H : Type} {enc : TypeId × Value → H} {P : Program} {w : World} {base : Nat} {spare : Nat → Bool} {held : Bool}
/-- A []byte argument: the bytes that it reads as. -/
theorem bytes_open {fuel : Nat} {a : Option Addr} {len cap : Nat} {x : DataW H × List MemPlace} (h : DataW.trod enc Try.prog w base spare held fuel 25 [.slice a len cap] = some x) :
    ∃ l : List UInt8, l.length = len ∧ len ≤ maxLen ∧ RdS w (.slice a len cap) len (bytesC l) := by
  rcases Go.ChangeShapes.open_ints Try.underlying25 Try.underlying5 (by kernel_rfl) h with ⟨h0, _⟩ | ⟨a', len', cap', zs, hcs, hb, hl, hm, hz, _, hcell, hwz⟩
  · injection h0 with h0
    injection h0 with h1 h2 h3
    subst h1 h2 h3
    exact ⟨[], rfl, Nat.zero_le _, ⟨_, _, rfl, Nat.le_refl _, fun h => absurd rfl h⟩⟩
  · injection hcs with hcs
    injection hcs with h1 h2 h3
    subst h1 h2 h3
    have hlz : len ≤ zs.length := by rw [hz]; split <;> omega
    have hlen : ((zs.take len).map fun n => UInt8.ofNat n.toNat).length = len := by rw [List.length_map, List.length_take]; omega
    refine ⟨(zs.take len).map fun n => UInt8.ofNat n.toNat, hlen, by omega, ⟨_, _, rfl, hl, fun hne => ?_⟩⟩
    have hcells : ∀ j u, (bytesC ((zs.take len).map fun n => UInt8.ofNat n.toNat))[j]? = some u → w.cell? (a'.add j) = some u := by
      intro j u hu
      unfold bytesC at hu
      rw [List.map_map, List.getElem?_map, List.getElem?_take] at hu
      split at hu
      · rename_i hj
        have hzj : zs[j]? = some zs[j] := List.getElem?_eq_getElem (by omega)
        rw [hzj] at hu
        injection hu with hu
        rw [hcell j (by omega), List.getD_eq_getElem?_getD, hzj, Option.getD_some, ← hu]
        have hw := hwz zs[j] (List.getElem_mem _)
        have hb : 0 ≤ zs[j] ∧ zs[j] < 256 := by
          simp [Lit.wf, IntKind.min, IntKind.max, IntKind.signed, IntKind.bits] at hw
          omega
        have h256 : zs[j].toNat < 256 := by omega
        show some (Value.int IntKind.u8 zs[j]) = some (Value.int IntKind.u8 ((UInt8.ofNat zs[j].toNat).toNat : Int))
        rw [UInt8.toNat_ofNat']
        congr 2
        omega
      · cases hu
    obtain ⟨b, off, spot⟩ := a'
    have hpos : ∃ u, (bytesC ((zs.take len).map fun n => UInt8.ofNat n.toNat))[0]? = some u := by
      cases hx : bytesC ((zs.take len).map fun n => UInt8.ofNat n.toNat) with
      | nil => exact absurd hx hne
      | cons u r => exact ⟨u, rfl⟩
    obtain ⟨u0, hu0⟩ := hpos
    have hspot : spot = none := by simpa [Addr.add] using World.cell?_spot (hcells 0 u0 hu0)
    subst hspot
    exact ⟨b, off, rfl, fun j u hu => by rw [← Addr.add_lit]; exact hcells j u hu⟩
end

set_option maxRecDepth 100000 in
set_option maxHeartbeats 4000000 in
theorem parseTexts_c (l : List UInt8) (a : Option Addr) (cap : Nat) (w : World) (h : RdS w (.slice a l.length cap) l.length (bytesC l)) (hl : l.length ≤ 9223372036854775807) :
    Calls Try.prog 4 #[.slice a l.length cap] w fun e w' => e = .returned (.bool true) ∧ Kp (fun k => k < w.heap.size) w w' := by
  have H := Lib.hid h
  clear h
  by_cases hm : 65000 < l.length
  · have hmi : (65000 : Int) < (l.length : Int) := by omega
    go_enter Try.func4, Try.ntmps4
    go_wp2_with fail
    go_ret
    exact ⟨rfl, Kp.refl _ _⟩
  · have hmi : ¬ (65000 : Int) < (l.length : Int) := by omega
    go_enter Try.func4, Try.ntmps4
    go_wp2_with fail
    refine (alive_c0 w).mono ?_
    rintro e w1 ⟨rfl, hk1⟩
    have hf1 : Fr w w1 := ⟨hk1.os, hk1.tape, hk1.output, hk1.size, fun k hk _ => hk1.block k hk⟩
    have HF1 := Lib.hid hf1
    clear hk1 hf1
    go_wp2_with fail
    refine (refTokens_c l a cap w1 (H.out.fr HF1.out) (by omega)).mono ?_
    rintro e w2 ⟨a2, c2, rfl, hg2⟩
    have htl := Lx.toks_len l (l.length + 1) 0 (Nat.zero_le _)
    have htn := Lx.toks_name l (l.length + 1) 0
    change (Lx.tokens l).1.length ≤ _ at htl
    change ∀ t ∈ (Lx.tokens l).1, _ at htn
    generalize Lx.tokens l = T at hg2 htl htn ⊢
    obtain ⟨T, p, q⟩ := T
    dsimp only at hg2 htl htn ⊢
    have hh2 := hg2 _ _ _ (Hs.start w1)
    have HR2 := Lib.hid (rdS_row hh2 0 rfl)
    have HF2 := Lib.hid (HF1.out.trans hg2.fr')
    have Htn := Lib.hid htn
    clear hh2 hg2 htn
    go_wp2_with fail
    refine (parses_c T l.length a2 c2 w2 HR2.out (by omega) (fun t ht => Nat.le_trans (Htn.out t ht) (by decide))).mono ?_
    rintro e w3 ⟨rfl, hk3⟩
    have HK3 := Lib.hid hk3
    clear hk3
    go_wp2_with fail
    go_ret
    exact ⟨rfl, (fr_kp HF2.out).trans (HK3.out.mono fun k hk => Nat.lt_of_lt_of_le hk HF2.out.size)⟩
end Go.Proofs.Ythodjlhjfaccpaa
namespace Go.Proofs.Ythodjlhjfaccpaa.parseTexts
open Go.ChangeShapes Go.WideShapes Go.ChangeAt Go.RowKit
theorem own : ownKnob Try.prog.godebug = none := by kernel_rfl
theorem laidOut : laidOutB Try.prog = true := by kernel_rfl
set_option maxRecDepth 100000 in
theorem lifted (os : Os) (started : os.Started) (H : Type) (enc : TypeId × Value → H) :
    ReturnsInHanded {} Try.checked os 4 .any (Rows.parseTextsSpec.pre6 enc Try.prog Try.f4 Rows.parseTextsRow.domain false) (Rows.parseTextsSpec.post enc Try.prog Try.f4 false true false false) := by
  refine returnsInHanded_of_change_sized (C := Try.checked) own started (by kernel_rfl) Try.func4
    (ChangeSpec.witness6 (enc := enc) (C := Try.checked) false ⟨#[], #[.slice none 0 0], []⟩ 8 (by kernel_rfl) (by kernel_rfl) (by kernel_rfl) (by kernel_rfl)) ?_
  intro W base args ds gs before hval0 hW hcnd hsz0 _
  have hval : ∀ (j : Nat) t v, Try.f4.params[j]? = some t → args[j]? = some v → Value.okWide Try.prog W .any base t v := hval0
  have hW' := hW
  obtain ⟨p, q, hA0, hV, rfl, hfz, hnd⟩ := hW
  have hA : DataW.TrodAll enc Try.prog W 0 (fun _ => true) true Try.f4.params.toList args.toList ds p := hA0
  rw [Try.params4] at hA hval
  obtain ⟨v0, vs0, d0, ds0, p0, q0, hargs, rfl, rfl, h0, r0⟩ := trodAll_cons hA
  obtain ⟨rfl, rfl, rfl⟩ := trodAll_nil r0
  obtain rfl : args = #[v0] := by cases args; simp_all
  obtain ⟨rfl, rfl⟩ := trodVars_none hV
  obtain ⟨a0, len0, cap0, rfl⟩ := okWide_slice Try.underlying25 (hval 0 25 v0 rfl rfl)
  have k0 := h0
  have lt0 : ∀ x ∈ p0, x.block < W.heap.size := by obtain ⟨m, hm⟩ := k0; exact DataW.trod_lt m _ _ _ hm
  obtain ⟨l, hl, hm, hr⟩ : ∃ l : List UInt8, l.length = len0 ∧ len0 ≤ maxLen ∧ RdS W (.slice a0 len0 cap0) len0 (bytesC l) := by
    obtain ⟨fuel, hf⟩ := h0
    exact bytes_open hf
  subst hl
  clear hA0 hval0 hsz0
  refine (parseTexts_c l a0 cap0 W hr hm).mono fun e W' ⟨he, hk⟩ => ?_
  have bel := hk.below
  subst he
  exact ⟨_, rfl, _, _, _, [], _, [], hW', trodAll_mk1 (shut_bool Try.underlying4 _), (trodAll_cons_mk (Below.trod laidOut (by kernel_rfl) (of_decide_eq_true (by kernel_rfl)) k0 bel lt0) trodAll_mk0), rfl, bel.frame _, fun h => by cases h⟩
theorem over : Rows.parseTextsRow.holds Try.pinned (OpenSpec.ofChange Rows.parseTextsSpec) :=
  OpenClaim.holds_of_wide 4 Try.f4 rfl rfl rfl rfl rfl rfl rfl ⟨rfl, rfl, rfl, rfl, rfl⟩ rfl rfl rfl rfl rfl (by kernel_rfl) Try.func4 (by kernel_rfl)
    (of_decide_eq_true (by kernel_rfl)) (by unfold Func.isWrapper; first | (rw [if_pos (by decide +kernel)]; kernel_rfl) | (rw [if_neg (by decide +kernel)]; exact ⟨rfl, rfl⟩))
    (fun os started H enc _ => lifted os started H enc)
theorem proved : Rows.ParseTextsSaid := over
#print axioms proved
end Go.Proofs.Ythodjlhjfaccpaa.parseTexts
namespace Go.Proofs.Ythodjlhjfaccpaa
/-- The row, under a short name, for the claim. -/
theorem parseTexts_holds : Rows.ParseTextsSaid := parseTexts.proved
end Go.Proofs.Ythodjlhjfaccpaa
