/- The row of the law TreePlaces, and its card: places and types change no tree and no text. Conditions: none beyond the row's own (the library's tables are laid as its text lays them). -/
import Derived.Test.YtllahgnpjodgmaaDoorVo
import Derived.Test.YtllahgnpjodgmaaDoorVk
set_option linter.unusedVariables false
namespace Go.Proofs.YtllahgnpjodgmaaDoor
open Go.ChangeShapes Go.WideShapes Go.ChangeAt Go.RowKit Mem
section
variable {H : Type} {enc : TypeId × Value → H} {w : World} {base : Nat} {spare : Nat → Bool} {held : Bool}
open Go Pm Go.Deep Go.Joins
theorem list5 {α : Type} {l : List α} (h : l.length = 5) : ∃ c0 c1 c2 c3 c4, l = [c0, c1, c2, c3, c4] :=
  match l, h with
  | [c0, c1, c2, c3, c4], _ => ⟨c0, c1, c2, c3, c4, rfl⟩
theorem plsC_len (l : List Pl) : (plsC l).length = l.length * 5 := by
  induction l with
  | nil => rfl
  | cons x l ih => show (plC x ++ plsC l).length = _; rw [List.length_append, ih, List.length_cons]; show 5 + _ = _; omega
set_option maxRecDepth 100000 in
set_option maxHeartbeats 4000000 in
theorem places_open {fuel : Nat} {v : Value} {x : DataW H × List MemPlace} (h : DataW.trod enc Tryd.prog w base spare held fuel 38 [v] = some x) (hw : ∀ n ∈ x.1.weights Tryd.prog 38, n ≤ reachBytes) :
    ∃ l : List Pl, l.length ≤ 140737488355328 ∧ RdS w v l.length (plsC l) := by
  have h47 : (2 : Nat) ^ 47 = 140737488355328 := by decide
  have hrb := reachBytes_lt
  rcases open_slice Tryd.underlying38 h with ⟨hcs, _⟩ | ⟨a, len, cap, m, n, D, Pl0, hcs, hb, hl, hm, hmm, hx, hi⟩
  · injection hcs with hcs
    subst hcs
    exact ⟨[], Nat.zero_le _, ⟨_, _, rfl, Nat.le_refl _, fun h => absurd rfl h⟩⟩
  · injection hcs with hcs
    subst hcs
    have hC : Tryd.prog.cellsOf 43 = 5 := by kernel_rfl
    have hall : ∀ n, n ≤ len → ∃ l : List Pl, l.length = n ∧ ∀ j u, (plsC l)[j]? = some u → w.cell? (a.add j) = some u := by
      intro n
      induction n with
      | zero => exact fun _ => ⟨[], rfl, fun j u hu => by simp [plsC] at hu⟩
      | succ n ih =>
        intro hn
        obtain ⟨l, hll, hlc⟩ := ih (by omega)
        obtain ⟨cs', hc, ht'⟩ := hi n (by rw [hmm]; split <;> omega)
        rw [hC] at hc
        obtain ⟨ys, n', hn', hy, hlen, hyl, hf⟩ := DataW.trod_struct Tryd.underlying43 ht'
        obtain ⟨_, hcl, hat⟩ := World.cells?_some hc
        have hys : ys.length = 5 := hyl
        obtain ⟨c0, c1, c2, c3, c4, rfl⟩ := list5 hcl
        obtain ⟨y0, y1, y2, y3, y4, rfl⟩ := list5 hys
        obtain ⟨k0, e0, _, _⟩ := DataW.trod_int Tryd.underlying3 (fld_of (by kernel_rfl) hf (j := 0) rfl rfl rfl)
        obtain ⟨k1, e1, _, _⟩ := DataW.trod_int Tryd.underlying3 (fld_of (by kernel_rfl) hf (j := 1) rfl rfl rfl)
        obtain ⟨k2, e2, _, _⟩ := DataW.trod_int Tryd.underlying3 (fld_of (by kernel_rfl) hf (j := 2) rfl rfl rfl)
        obtain ⟨k3, e3, _, _⟩ := DataW.trod_int Tryd.underlying3 (fld_of (by kernel_rfl) hf (j := 3) rfl rfl rfl)
        obtain ⟨k4, e4, _, _⟩ := DataW.trod_int Tryd.underlying3 (fld_of (by kernel_rfl) hf (j := 4) rfl rfl rfl)
        have e0' : c0 = .int .i64 k0 := (List.cons.inj e0).1
        subst e0'
        have e1' : c1 = .int .i64 k1 := (List.cons.inj e1).1
        subst e1'
        have e2' : c2 = .int .i64 k2 := (List.cons.inj e2).1
        subst e2'
        have e3' : c3 = .int .i64 k3 := (List.cons.inj e3).1
        subst e3'
        have e4' : c4 = .int .i64 k4 := (List.cons.inj e4).1
        subst e4'
        refine ⟨l ++ [⟨k0, k1, k2, k3, k4⟩], by rw [List.length_append, hll]; rfl, ?_⟩
        intro j u hu
        have hsp : plsC (l ++ [(⟨k0, k1, k2, k3, k4⟩ : Pl)]) = plsC l ++ [.int .i64 k0, .int .i64 k1, .int .i64 k2, .int .i64 k3, .int .i64 k4] := by
          unfold plsC; rw [List.flatMap_append]; simp [plC]
        rw [hsp] at hu
        have hnl : (plsC l).length = n * 5 := by rw [plsC_len, hll]
        rcases Nat.lt_or_ge j (plsC l).length with hj | hj
        · rw [List.getElem?_append_left hj] at hu; exact hlc j u hu
        · rw [List.getElem?_append_right hj, hnl] at hu
          rw [hnl] at hj
          have hj10 : j - n * 5 < 5 := (List.getElem?_eq_some_iff.1 hu).1
          have hh := hat (j - n * 5) hj10
          rw [Go.Deep.add_add, show n * 5 + (j - n * 5) = j by omega] at hh
          rw [hh]; exact hu
    obtain ⟨l, hll, hlc⟩ := hall len (Nat.le_refl _)
    have hl47 : len ≤ 140737488355328 := by
      have h1 := hw ((((List.range len).map D).length + ((List.range (m - len)).map fun j => D (len + j)).length) * Tryd.prog.bytesOf 43) (by rw [hx]; simp [DataW.weights, Tryd.underlying38])
      rw [List.length_map, List.length_range] at h1
      have hb8 : Tryd.prog.bytesOf 43 = 40 := by kernel_rfl
      rw [hb8] at h1
      omega
    refine ⟨l, by omega, ⟨_, _, by rw [hll], by omega, fun hne => ?_⟩⟩
    obtain ⟨b, off, spot⟩ := a
    have hpos : ∃ u, (plsC l)[0]? = some u := by
      cases hx2 : plsC l with
      | nil => exact absurd hx2 hne
      | cons u r => exact ⟨u, rfl⟩
    obtain ⟨u0, hu0⟩ := hpos
    have hspot : spot = none := by simpa [Addr.add] using World.cell?_spot (hlc 0 u0 hu0)
    subst hspot
    exact ⟨b, off, rfl, fun j u hu => by rw [← Addr.add_lit]; exact hlc j u hu⟩
end
end Go.Proofs.YtllahgnpjodgmaaDoor
namespace Go.Proofs.YtllahgnpjodgmaaDoor.treePlaces
open Go.ChangeShapes Go.WideShapes Go.ChangeAt Go.RowKit Mem
set_option maxRecDepth 100000 in
theorem lifted (os : Os) (started : os.Started) (H : Type) (enc : TypeId × Value → H) :
    ReturnsInHanded {} Tryd.checked os 6 .any (fun w args => (Rows.treePlacesSpec.pre enc Tryd.prog Tryd.f6 [] false w args ∧ laidMetH Tryd.prog laidL w) ∧ sizedMet enc Tryd.prog Tryd.f6 (OpenSpec.ofChange Rows.treePlacesSpec) false w args)
      (Rows.treePlacesSpec.post enc Tryd.prog Tryd.f6 false true false false) := by
  refine returnsInHanded_of_change_and (C := Tryd.checked) (X := fun w _ => laidMetH Tryd.prog laidL w) (fun _ _ _ hh h => h.of_heap hh) own started (by kernel_rfl) Tryd.func6
    (ChangeSpec.witness_shaped (enc := enc) (C := Tryd.checked) (os := os) (X := fun w _ => laidMetH Tryd.prog laidL w) false (World.doorLaid Tryd.prog 400 os) #[.agg #[.slice none 0 0, .slice none 0 0], .slice none 0 0] 8 rfl (World.shaped_of_RefB (by kernel_rfl) (by kernel_rfl)) (by kernel_rfl) (by kernel_rfl) (by kernel_rfl) (door_met os _)) ?_
  intro W base args ds gs before hval0 hW hcnd hsz0 hL _
  have hval : ∀ (j : Nat) t v, Tryd.f6.params[j]? = some t → args[j]? = some v → Value.okWide Tryd.prog W .any base t v := hval0
  have hW' := hW
  obtain ⟨p, q, hA0, hV, rfl, hfz, hnd⟩ := hW
  have hA : DataW.TrodAll enc Tryd.prog W 0 (fun _ => true) true Tryd.f6.params.toList args.toList ds p := hA0
  rw [Tryd.params6] at hA hval
  obtain ⟨v0, vs0, d0, ds0, p0, q0, hargs, rfl, rfl, h0, r0⟩ := trodAll_cons hA
  obtain ⟨v1, vs1, d1, ds1, p1, q1, rfl, rfl, rfl, h1, r1⟩ := trodAll_cons r0
  obtain ⟨rfl, rfl, rfl⟩ := trodAll_nil r1
  obtain rfl : args = #[v0, v1] := by cases args; simp_all
  obtain ⟨rfl, rfl⟩ := trodVars_none hV
  have k0 := h0
  have k1 := h1
  have lt1 : ∀ x ∈ p1, x.block < W.heap.size := by obtain ⟨m, hm⟩ := k1; exact DataW.trod_lt m _ _ _ hm
  have lt0 : ∀ x ∈ p0, x.block < W.heap.size := by obtain ⟨m, hm⟩ := k0; exact DataW.trod_lt m _ _ _ hm
  have hsz : ∀ n ∈ d0.weights Tryd.prog 25, n ≤ reachBytes := fun n hn => by
    have h := List.all_eq_true.1 hsz0 n (DataW.weights_mem_each (j := 0) (t := 25) (d := d0) rfl rfl n hn)
    simpa using h
  obtain ⟨nodes, funcs, nd, fu, rfl, hin⟩ := tree_open (hval 0 25 v0 rfl rfl) h0 hsz
  have hsz1 : ∀ n ∈ d1.weights Tryd.prog 38, n ≤ reachBytes := fun n hn => by
    have h := List.all_eq_true.1 hsz0 n (DataW.weights_mem_each (j := 1) (t := 38) (d := d1) rfl rfl n hn)
    simpa using h
  obtain ⟨a1, len1, cap1, rfl⟩ := okWide_slice Tryd.underlying38 (hval 1 38 v1 rfl rfl)
  obtain ⟨l, hl, hlr⟩ : ∃ l : List Pl, l.length ≤ 140737488355328 ∧ RdS W (.slice a1 len1 cap1) l.length (plsC l) := by
    obtain ⟨m, hm⟩ := h1
    exact places_open (x := (d1, p1)) hm hsz1
  clear hA0 hval0 hsz0
  refine (treePlaces_c nodes funcs nd fu l (.slice a1 len1 cap1) W hin hlr hl (tab_of_laid hL)).mono fun e W' ⟨he, hk⟩ => ?_
  have bel := ((Hs.start W).ch0 hk).kp.below
  subst he
  exact ⟨_, rfl, _, _, _, [], _, [], hW', trodAll_mk1 (shut_bool Tryd.underlying4 _), (trodAll_cons_mk (Below.trod laidOut (by kernel_rfl) (of_decide_eq_true (by kernel_rfl)) k0 bel lt0) (trodAll_cons_mk (Below.trod laidOut (by kernel_rfl) (of_decide_eq_true (by kernel_rfl)) k1 bel lt1) trodAll_mk0)), rfl, bel.frame _, fun h => by cases h⟩
theorem over : Rows.TreePlacesSaid :=
  OpenClaim.holds_of_wide 6 Tryd.f6 rfl rfl rfl rfl rfl rfl rfl ⟨rfl, rfl, rfl, rfl, rfl⟩ rfl rfl rfl rfl rfl (by kernel_rfl) Tryd.func6 (by kernel_rfl)
    (of_decide_eq_true (by kernel_rfl)) (by unfold Func.isWrapper; first | (rw [if_pos (by decide +kernel)]; kernel_rfl) | (rw [if_neg (by decide +kernel)]; exact ⟨rfl, rfl⟩))
    (fun os started H enc _ => lifted os started H enc)
theorem card : Rows.TreePlacesCardSaid :=
  Claim7.holds_tied_plain_at .later [] [.data, .data, .data] true _ false
    over (fun _ h => by cases h) (by kernel_rfl) (fun _ h => by cases h) treePlaces_row_tie rfl ⟨rfl, rfl⟩ (by kernel_rfl) rfl
    (fun f fn hf hfn => by
      obtain rfl : f = 6 := Option.some.inj ((show Tryd.prog.funcNamed "quern/quernlaw3.TreePlaces" = some 6 by kernel_rfl).symm.trans hf) |>.symm
      obtain rfl : fn = Tryd.f6 := (Option.some.inj (Tryd.func6.symm.trans hfn)).symm
      exact ⟨by kernel_rfl, fun j t ht => by
        have ht' : (#[25, 38] : Array TypeId)[j]? = some t := by rw [← Tryd.params6]; exact ht
        have hm : t = 25 ∨ t = 38 := by
          rcases j with _ | _ | j
          · left; simpa using ht'.symm
          · right; simpa using ht'.symm
          · simp at ht'
        rcases hm with rfl | rfl
        · exact (show Tryd.prog.wantsStandIn 25 = false by kernel_rfl)
        · exact (show Tryd.prog.wantsStandIn 38 = false by kernel_rfl)⟩)
    (by kernel_rfl)
end Go.Proofs.YtllahgnpjodgmaaDoor.treePlaces
namespace Go.Proofs.YtllahgnpjodgmaaDoor
/-- The card, under a short name, for the claim. -/
theorem treePlaces_holds : Rows.TreePlacesCardSaid := treePlaces.card
#print axioms treePlaces_holds
end Go.Proofs.YtllahgnpjodgmaaDoor
