/- quernlaw3.TreeOneText, the walk. -/
import Derived.Test.YtllahgnpjodgmaaDoorYk
import Derived.Test.YtllahgnpjodgmaaDoorTm
import Derived.Test.YtllahgnpjodgmaaDoorVa
import Derived.Test.YtllahgnpjodgmaaDoorVk
set_option linter.unusedVariables false
namespace Go.Proofs.YtllahgnpjodgmaaDoor
open Go Go.RowKit Mem Pm
/-- One text, one tree. -/
theorem one_text {nodes nodes' : List Nd} {funcs funcs' : List Int} (h : Tm.check nodes funcs = true) (h' : Tm.check nodes' funcs' = true) (hv : ∀ n ∈ nodes, n.value ≤ 9223372036854775807) (hv' : ∀ n ∈ nodes', n.value ≤ 9223372036854775807) :
    Tm.print nodes funcs = Tm.print nodes' funcs' ↔ Like nodes nodes' funcs funcs' := by
  constructor
  · intro he
    exact Rb.print_inj (Tm.check_iff.1 h) (Tm.check_iff.1 h') hv hv' he
  · rintro ⟨h1, rfl⟩
    have h2 : nodes.map Tm.er = nodes'.map Tm.er := h1
    rw [← Tm.print_er (nodes := nodes), ← Tm.print_er (nodes := nodes'), h2]
set_option maxRecDepth 100000 in
set_option maxHeartbeats 16000000 in
theorem treeOneText_c (nodes nodes' : List Nd) (funcs funcs' : List Int) (nd fu nd' fu' : Value) (w : World) (h : TreeIn w nodes funcs nd fu) (h' : TreeIn w nodes' funcs' nd' fu') (htab : Tab w) :
    Calls Tryd.prog 7 #[.agg #[nd, fu], .agg #[nd', fu']] w fun e w' => e = .returned (.bool true) ∧ Fr w w' := by
  obtain ⟨an, cn, rfl, hcn⟩ : ∃ an cn, nd = .slice an nodes.length cn ∧ nodes.length ≤ cn := by obtain ⟨_, _, ⟨a, c, h1, h2, _⟩, _⟩ := h.rd.nds; exact ⟨a, c, h1, h2⟩
  obtain ⟨af, cf, rfl, hcf⟩ : ∃ af cf, fu = .slice af funcs.length cf ∧ funcs.length ≤ cf := by obtain ⟨a, c, h1, h2, _⟩ := h.rd.funcs; exact ⟨a, c, h1, h2⟩
  obtain ⟨bn, dn, rfl, hdn⟩ : ∃ an cn, nd' = .slice an nodes'.length cn ∧ nodes'.length ≤ cn := by obtain ⟨_, _, ⟨a, c, h1, h2, _⟩, _⟩ := h'.rd.nds; exact ⟨a, c, h1, h2⟩
  obtain ⟨bf, df, rfl, hdf⟩ : ∃ af cf, fu' = .slice af funcs'.length cf ∧ funcs'.length ≤ cf := by obtain ⟨a, c, h1, h2, _⟩ := h'.rd.funcs; exact ⟨a, c, h1, h2⟩
  have HT := Lib.hid h
  have HU := Lib.hid h'
  have HTab := Lib.hid htab
  have H0 := Lib.hid (((Hs.start w).alloc [.slice an nodes.length cn, .slice af funcs.length cf] 25).alloc [.slice bn nodes'.length dn, .slice bf funcs'.length df] 25)
  clear h h' htab
  go_enter Tryd.func7, Tryd.ntmps7
  go_upto_region 1 with fail
  obtain ⟨W1, hW1⟩ : ∃ W, W = (w.alloc (.cells #[.slice an nodes.length cn, .slice af funcs.length cf] 25)).alloc (.cells #[.slice bn nodes'.length dn, .slice bf funcs'.length df] 25) := ⟨_, rfl⟩
  obtain ⟨ta, hta⟩ : ∃ ta, ta = w.heap.size := ⟨_, rfl⟩
  obtain ⟨tb, htb⟩ : ∃ tb, tb = w.heap.size + 1 := ⟨_, rfl⟩
  have H1 : Hid (Hs (fun k => k < w.heap.size) w W1 [.blk tb 25 [.slice bn nodes'.length dn, .slice bf funcs'.length df], .blk ta 25 [.slice an nodes.length cn, .slice af funcs.length cf]]) := Lib.hid (by
    have h := H0.out
    rw [size_alloc'] at h
    rw [hW1, hta, htb]; exact h)
  rw [← hW1]
  rw [← htb, ← hta]
  clear hW1 H0 htb hta
  have a0 := H1.out.cell 1 rfl 0 rfl
  have a1 := H1.out.cell 1 rfl 1 rfl
  have b0 := H1.out.cell 0 rfl 0 rfl
  have b1 := H1.out.cell 0 rfl 1 rfl
  go_wp2_with fail
  refine (fits_c nodes funcs _ _ _ (HT.out.rd.fr (fr_of_kp H1.out.kp)) HT.out.nl HT.out.fl HT.out.each).mono ?_
  rintro e w1 ⟨bfit, rfl, hf1, hfit⟩
  replace H1 := Lib.hid (H1.out.ch0 hf1)
  replace a0 := fr_cell hf1 a0
  replace a1 := fr_cell hf1 a1
  replace b0 := fr_cell hf1 b0
  replace b1 := fr_cell hf1 b1
  have HFit := Lib.hid hfit
  clear hf1 hfit
  cases bfit with
  | false =>
    have HF := Lib.hid (fr_of_kp H1.out.kp)
    go_wp2_with fail
    go_ret
    exact ⟨rfl, HF.out⟩
  | true =>
  have HFt := Lib.hid (HFit.out rfl)
  clear HFit
  go_wp2_with fail
  refine (fits_c nodes' funcs' _ _ _ (HU.out.rd.fr (fr_of_kp H1.out.kp)) HU.out.nl HU.out.fl HU.out.each).mono ?_
  rintro e w2 ⟨bfit, rfl, hf1, hfit⟩
  replace H1 := Lib.hid (H1.out.ch0 hf1)
  replace a0 := fr_cell hf1 a0
  replace a1 := fr_cell hf1 a1
  replace b0 := fr_cell hf1 b0
  replace b1 := fr_cell hf1 b1
  have HFit' := Lib.hid hfit
  clear hf1 hfit
  cases bfit with
  | false =>
    have HF := Lib.hid (fr_of_kp H1.out.kp)
    go_wp2_with fail
    go_ret
    exact ⟨rfl, HF.out⟩
  | true =>
  have HFt' := Lib.hid (HFit'.out rfl)
  clear HFit'
  obtain ⟨z1, z2, z3⟩ := fits_kids HFt.out
  obtain ⟨y1, y2, y3⟩ := fits_kids HFt'.out
  have hsm : Small nodes funcs := ⟨by omega, by omega, fun n hm => ⟨by have := z3 n hm; omega, by have := (HT.out.each n hm).2; omega⟩⟩
  have hsm' : Small nodes' funcs' := ⟨by omega, by omega, fun n hm => ⟨by have := y3 n hm; omega, by have := (HU.out.each n hm).2; omega⟩⟩
  have Z3 := Lib.hid z3
  have HS := Lib.hid hsm
  have HS' := Lib.hid hsm'
  clear z3 y3 hsm hsm'
  go_wp2_with fail
  refine (alive_c _ (tab_fr HTab.out (fr_of_kp H1.out.kp))).mono ?_
  rintro e w3 ⟨rfl, hf3⟩
  replace H1 := Lib.hid (H1.out.ch0 hf3)
  replace a0 := fr_cell hf3 a0
  replace a1 := fr_cell hf3 a1
  replace b0 := fr_cell hf3 b0
  replace b1 := fr_cell hf3 b1
  clear hf3
  go_wp2_with fail
  refine (print_c nodes funcs _ _ _ (HT.out.rd.fr (fr_of_kp H1.out.kp)) HS.out (tab_fr HTab.out (fr_of_kp H1.out.kp)) HT.out.val (by omega) (fun h => fits_text HFt.out h HT.out.val)).mono ?_
  rintro e w4 hp1
  have HP1 := Lib.hid hp1
  clear hp1
  rcases HP1.out with ⟨hc1, rfl, hf4⟩ | ⟨hc1, v1, rfl, hg4⟩
  · replace H1 := Lib.hid (H1.out.ch0 hf4)
    replace b0 := fr_cell hf4 b0
    replace b1 := fr_cell hf4 b1
    clear HP1 hf4 a0 a1 hc1
    go_wp2_with fail
    refine (print_c nodes' funcs' _ _ _ (HU.out.rd.fr (fr_of_kp H1.out.kp)) HS'.out (tab_fr HTab.out (fr_of_kp H1.out.kp)) HU.out.val (by omega) (fun h => fits_text HFt'.out h HU.out.val)).mono ?_
    rintro e w5 hp2
    rcases hp2 with ⟨hc2, rfl, hf5⟩ | ⟨hc2, v2, rfl, hg5⟩
    · have HF := Lib.hid (fr_of_kp (H1.out.ch0 hf5).kp)
      clear hf5 hc2 b0 b1 H1
      go_wp2_with (first | (go_at_call 18; refine (num_c _ _).mono ?_; rintro e w' ⟨rfl, rfl⟩))
      go_ret
      exact ⟨rfl, HF.out⟩
    · have HF := Lib.hid (fr_of_kp (hg5 _ _ _ H1.out).kp)
      clear hg5 hc2 b0 b1 H1
      go_wp2_with (first | (go_at_call 18; refine (num_c _ _).mono ?_; rintro e w' ⟨rfl, rfl⟩))
      go_ret
      exact ⟨rfl, HF.out⟩
  have hh4 := hg4 _ _ _ H1.out
  obtain ⟨aP, cP, rfl, _, _⟩ := hh4.form 0 rfl
  have H2 := Lib.hid hh4
  replace a0 := hh4.cell 2 rfl 0 rfl
  replace a1 := hh4.cell 2 rfl 1 rfl
  replace b0 := hh4.cell 1 rfl 0 rfl
  replace b1 := hh4.cell 1 rfl 1 rfl
  have HC1 := Lib.hid hc1
  clear HP1 hg4 hh4 H1 hc1
  go_wp2_with fail
  refine (print_c nodes' funcs' _ _ _ (HU.out.rd.fr (fr_of_kp H2.out.kp)) HS'.out (tab_fr HTab.out (fr_of_kp H2.out.kp)) HU.out.val (by omega) (fun h => fits_text HFt'.out h HU.out.val)).mono ?_
  rintro e w5 hp2
  rcases hp2 with ⟨hc2, rfl, hf5⟩ | ⟨hc2, v2, rfl, hg5⟩
  · have HF := Lib.hid (fr_of_kp (H2.out.ch0 hf5).kp)
    clear hf5 hc2 a0 a1 b0 b1 H2
    go_wp2_with (first | (go_at_call 18; refine (num_c _ _).mono ?_; rintro e w' ⟨rfl, rfl⟩))
    go_ret
    exact ⟨rfl, HF.out⟩
  have hh5 := hg5 _ _ _ H2.out
  obtain ⟨aQ, cQ, rfl, _, _⟩ := hh5.form 0 rfl
  have H3 := Lib.hid hh5
  replace a0 := hh5.cell 3 rfl 0 rfl
  replace a1 := hh5.cell 3 rfl 1 rfl
  replace b0 := hh5.cell 2 rfl 0 rfl
  replace b1 := hh5.cell 2 rfl 1 rfl
  have HC2 := Lib.hid hc2
  clear hg5 hh5 H2 hc2
  have hone := one_text HC1.out HC2.out HT.out.val HU.out.val
  have HOne := Lib.hid hone
  clear hone
  obtain ⟨P1, hP1⟩ : ∃ P, P = Tm.print nodes funcs := ⟨_, rfl⟩
  obtain ⟨P2, hP2⟩ : ∃ P, P = Tm.print nodes' funcs' := ⟨_, rfl⟩
  rw [← hP1, ← hP2] at H3 HOne
  rw [← hP1, ← hP2]
  clear hP1 hP2
  go_upto_region 8 with (first | (go_at_call 18; refine (num_c _ _).mono ?_; rintro e w' ⟨rfl, rfl⟩))
  have H4 := Lib.hid H3.out.drew
  have s1 := row_string H4.out 0 rfl
  have s2 := row_string H4.out 1 rfl
  have HF4 := Lib.hid (fr_of_kp H4.out.kp)
  clear H3
  go_region_held3 (fun w' => w'.cell? ⟨ta, 0, none⟩ = some (.slice an nodes.length cn) ∧ w'.cell? ⟨ta, 1, none⟩ = some (.slice af funcs.length cf) ∧ w'.cell? ⟨tb, 0, none⟩ = some (.slice bn nodes'.length dn) ∧ w'.cell? ⟨tb, 1, none⟩ = some (.slice bf funcs'.length df) ∧ (convert 30 9 (.slice aP P1.length cP)).run Tryd.prog w' = .ok (.string ⟨P1.toArray⟩) w' ∧ (convert 30 9 (.slice aQ P2.length cQ)).run Tryd.prog w' = .ok (.string ⟨P2.toArray⟩) w') (go_keep) (first | (go_at_call 22; refine (alike_c nodes nodes' funcs funcs' _ _ _ _ _ (HT.out.rd.fr HF4.out) (HU.out.rd.fr HF4.out) (by omega) (by omega) (fun n hm => by have := Z3.out n hm; omega)).mono ?_; rintro e w6 hlr; unfold LikeR at hlr; obtain ⟨x, rfl, hx, hf6⟩ := hlr; have HX := Lib.hid hx; have HF6 := Lib.hid (HF4.out.trans hf6); have H6 := Lib.hid (H4.out.ch0 hf6); replace a0 := fr_cell hf6 a0; replace a1 := fr_cell hf6 a1; replace b0 := fr_cell hf6 b0; replace b1 := fr_cell hf6 b1; replace s1 := row_string H6.out 0 rfl; replace s2 := row_string H6.out 1 rfl; clear hf6 hx))
  have hb : ((P1 == P2) == x) = true := by rw [beq_iff_eq, Bool.eq_iff_iff, beq_iff_eq]; exact HOne.out.trans HX.out.symm
  have HB := Lib.hid hb
  clear hb
  go_wp2_with fail
  go_ret
  exact ⟨by rw [← HB.out]; rfl, HF6.out⟩
end Go.Proofs.YtllahgnpjodgmaaDoor
