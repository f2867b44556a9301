/- The row of the law TreeOneText, and its card: two trees have one text just if they are the same but for places and types. Conditions: none beyond the row's own (the library's tables are laid as its text lays them). -/
import Derived.Test.YtllahgnpjodgmaaDoorVo
import Derived.Test.YtllahgnpjodgmaaDoorYl
set_option linter.unusedVariables false
namespace Go.Proofs.YtllahgnpjodgmaaDoor.treeOneText
open Go.ChangeShapes Go.WideShapes Go.ChangeAt Go.RowKit Mem
set_option maxRecDepth 100000 in
theorem lifted (os : Os) (started : os.Started) (H : Type) (enc : TypeId × Value → H) :
    ReturnsInHanded {} Tryd.checked os 7 .any (fun w args => (Rows.treeOneTextSpec.pre enc Tryd.prog Tryd.f7 [] false w args ∧ laidMetH Tryd.prog laidL w) ∧ sizedMet enc Tryd.prog Tryd.f7 (OpenSpec.ofChange Rows.treeOneTextSpec) false w args)
      (Rows.treeOneTextSpec.post enc Tryd.prog Tryd.f7 false true false false) := by
  refine returnsInHanded_of_change_and (C := Tryd.checked) (X := fun w _ => laidMetH Tryd.prog laidL w) (fun _ _ _ hh h => h.of_heap hh) own started (by kernel_rfl) Tryd.func7
    (ChangeSpec.witness_shaped (enc := enc) (C := Tryd.checked) (os := os) (X := fun w _ => laidMetH Tryd.prog laidL w) false (World.doorLaid Tryd.prog 400 os) #[.agg #[.slice none 0 0, .slice none 0 0], .agg #[.slice none 0 0, .slice none 0 0]] 8 rfl (World.shaped_of_RefB (by kernel_rfl) (by kernel_rfl)) (by kernel_rfl) (by kernel_rfl) (by kernel_rfl) (door_met os _)) ?_
  intro W base args ds gs before hval0 hW hcnd hsz0 hL _
  have hval : ∀ (j : Nat) t v, Tryd.f7.params[j]? = some t → args[j]? = some v → Value.okWide Tryd.prog W .any base t v := hval0
  have hW' := hW
  obtain ⟨p, q, hA0, hV, rfl, hfz, hnd⟩ := hW
  have hA : DataW.TrodAll enc Tryd.prog W 0 (fun _ => true) true Tryd.f7.params.toList args.toList ds p := hA0
  rw [Tryd.params7] at hA hval
  obtain ⟨v0, vs0, d0, ds0, p0, q0, hargs, rfl, rfl, h0, r0⟩ := trodAll_cons hA
  obtain ⟨v1, vs1, d1, ds1, p1, q1, rfl, rfl, rfl, h1, r1⟩ := trodAll_cons r0
  obtain ⟨rfl, rfl, rfl⟩ := trodAll_nil r1
  obtain rfl : args = #[v0, v1] := by cases args; simp_all
  obtain ⟨rfl, rfl⟩ := trodVars_none hV
  have k0 := h0
  have lt0 : ∀ x ∈ p0, x.block < W.heap.size := by obtain ⟨m, hm⟩ := k0; exact DataW.trod_lt m _ _ _ hm
  have hsz0' : ∀ n ∈ d0.weights Tryd.prog 25, n ≤ reachBytes := fun n hn => by
    have h := List.all_eq_true.1 hsz0 n (DataW.weights_mem_each (j := 0) (t := 25) (d := d0) rfl rfl n hn)
    simpa using h
  obtain ⟨nodes0, funcs0, nd0, fu0, rfl, hin0⟩ := tree_open (hval 0 25 v0 rfl rfl) h0 hsz0'
  have k1 := h1
  have lt1 : ∀ x ∈ p1, x.block < W.heap.size := by obtain ⟨m, hm⟩ := k1; exact DataW.trod_lt m _ _ _ hm
  have hsz1' : ∀ n ∈ d1.weights Tryd.prog 25, n ≤ reachBytes := fun n hn => by
    have h := List.all_eq_true.1 hsz0 n (DataW.weights_mem_each (j := 1) (t := 25) (d := d1) rfl rfl n hn)
    simpa using h
  obtain ⟨nodes1, funcs1, nd1, fu1, rfl, hin1⟩ := tree_open (hval 1 25 v1 rfl rfl) h1 hsz1'
  clear hA0 hval0 hsz0
  refine (treeOneText_c nodes0 nodes1 funcs0 funcs1 nd0 fu0 nd1 fu1 W hin0 hin1 (tab_of_laid hL)).mono fun e W' ⟨he, hk⟩ => ?_
  have bel := ((Hs.start W).ch0 hk).kp.below
  subst he
  exact ⟨_, rfl, _, _, _, [], _, [], hW', trodAll_mk1 (shut_bool Tryd.underlying4 _), (trodAll_cons_mk (Below.trod laidOut (by kernel_rfl) (of_decide_eq_true (by kernel_rfl)) k0 bel lt0) (trodAll_cons_mk (Below.trod laidOut (by kernel_rfl) (of_decide_eq_true (by kernel_rfl)) k1 bel lt1) trodAll_mk0)), rfl, bel.frame _, fun h => by cases h⟩
theorem over : Rows.TreeOneTextSaid :=
  OpenClaim.holds_of_wide 7 Tryd.f7 rfl rfl rfl rfl rfl rfl rfl ⟨rfl, rfl, rfl, rfl, rfl⟩ rfl rfl rfl rfl rfl (by kernel_rfl) Tryd.func7 (by kernel_rfl)
    (of_decide_eq_true (by kernel_rfl)) (by unfold Func.isWrapper; first | (rw [if_pos (by decide +kernel)]; kernel_rfl) | (rw [if_neg (by decide +kernel)]; exact ⟨rfl, rfl⟩))
    (fun os started H enc _ => lifted os started H enc)
theorem card : Rows.TreeOneTextCardSaid :=
  Claim7.holds_tied_plain_at .later [] [.data, .data, .data] true _ false
    over (fun _ h => by cases h) (by kernel_rfl) (fun _ h => by cases h) treeOneText_row_tie rfl ⟨rfl, rfl⟩ (by kernel_rfl) rfl
    (fun f fn hf hfn => by
      obtain rfl : f = 7 := Option.some.inj ((show Tryd.prog.funcNamed "quern/quernlaw3.TreeOneText" = some 7 by kernel_rfl).symm.trans hf) |>.symm
      obtain rfl : fn = Tryd.f7 := (Option.some.inj (Tryd.func7.symm.trans hfn)).symm
      exact ⟨by kernel_rfl, fun j t ht => by
        have ht' : (#[25, 25] : Array TypeId)[j]? = some t := by rw [← Tryd.params7]; exact ht
        have hm : t = 25 := by
          rcases j with _ | _ | j
          · simpa using ht'.symm
          · simpa using ht'.symm
          · simp at ht'
        subst hm
        exact (show Tryd.prog.wantsStandIn 25 = false by kernel_rfl)⟩)
    (by kernel_rfl)
end Go.Proofs.YtllahgnpjodgmaaDoor.treeOneText
namespace Go.Proofs.YtllahgnpjodgmaaDoor
/-- The card, under a short name, for the claim. -/
theorem treeOneText_holds : Rows.TreeOneTextCardSaid := treeOneText.card
#print axioms treeOneText_holds
end Go.Proofs.YtllahgnpjodgmaaDoor
