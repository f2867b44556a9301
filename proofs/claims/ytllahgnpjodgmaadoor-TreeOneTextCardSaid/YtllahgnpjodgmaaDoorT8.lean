/- tree.kids: all kinds.
tree.Check. -/
import Derived.Test.YtllahgnpjodgmaaDoorT5
import Derived.Test.YtllahgnpjodgmaaDoorT6
import Derived.Test.YtllahgnpjodgmaaDoorTk
import Derived.Test.YtllahgnpjodgmaaDoorT2
import Derived.Test.YtllahgnpjodgmaaDoorTm
import Derived.Deep.DeepCutAuto
namespace Go.Proofs.YtllahgnpjodgmaaDoor
open Go Go.RowKit Mem Pm
theorem kids_c (k : Int) (l : List Int) (v : Value) (w : World) (hr : RdS w v l.length (ints l)) (hl : l.length ≤ 9223372036854775807) :
    Calls Tryd.prog 38 #[.int .i64 k, v] w fun e w' => e = .returned (.bool (Tm.kidsOk k l)) ∧ Fr w w' := by
  by_cases h1 : k = 1
  · exact kids_1 k l v w hr hl h1
  by_cases h3 : k = 3
  · exact kids_3 k l v w hr hl h3
  by_cases h4 : k = 4 ∨ k = 12
  · exact kids_4 k l v w hr hl h4
  by_cases h5 : k = 5 ∨ k = 8 ∨ k = 9 ∨ k = 27 ∨ k = 28 ∨ k = 30
  · exact kids_5 k l v w hr hl h5
  by_cases h6 : k = 6 ∨ k = 29 ∨ k = 31
  · exact kids_6 k l v w hr hl h6
  by_cases h7 : k = 7
  · exact kids_7 k l v w hr hl h7
  by_cases h10 : k = 10
  · exact kids_10 k l v w hr hl h10
  by_cases h11 : k = 11
  · exact kids_11 k l v w hr hl h11
  by_cases h25 : k = 25
  · exact kids_25 k l v w hr hl h25
  by_cases h2 : k = 2 ∨ k = 13 ∨ k = 14 ∨ k = 20 ∨ k = 21 ∨ k = 22 ∨ k = 23 ∨ k = 24 ∨ k = 26
  · exact kids_2 k l v w hr hl h2
  exact kids_no k l v w hr hl (by omega)
end Go.Proofs.YtllahgnpjodgmaaDoor

set_option linter.unusedVariables false
namespace Go.Proofs.YtllahgnpjodgmaaDoor
open Go Go.RowKit Mem Pm

/-- A node of a tree, cell by cell. -/
theorem node_at {w : World} {nodes : List Nd} {funcs : List Int} {a : Option Addr} {c : Nat} {fu : Value} (h : TreeRd w nodes funcs (.slice a nodes.length c) fu) {i : Nat} (hi : i < nodes.length) :
    ∃ g off ak ck, a = some ⟨g, off, none⟩ ∧ RdS w (.slice ak (nodes[i]).kids.length ck) (nodes[i]).kids.length (ints (nodes[i]).kids) ∧
      w.cell? ⟨g, off + i * 10, none⟩ = some (.int .i64 (nodes[i]).kind) ∧ w.cell? ⟨g, off + i * 10 + 1, none⟩ = some (.int .i64 (nodes[i]).at_) ∧ w.cell? ⟨g, off + i * 10 + 2, none⟩ = some (.int .i64 (nodes[i]).where_) ∧
      w.cell? ⟨g, off + i * 10 + 3, none⟩ = some (.int .i64 (nodes[i]).close) ∧ w.cell? ⟨g, off + i * 10 + 4, none⟩ = some (.int .i64 (nodes[i]).decl) ∧ w.cell? ⟨g, off + i * 10 + 5, none⟩ = some (.int .i64 (nodes[i]).type) ∧
      w.cell? ⟨g, off + i * 10 + 6, none⟩ = some (.int .i64 (nodes[i]).op) ∧ w.cell? ⟨g, off + i * 10 + 7, none⟩ = some (.int .i64 (nodes[i]).value) ∧ w.cell? ⟨g, off + i * 10 + 8, none⟩ = some (.string (nodes[i]).name) ∧
      w.cell? ⟨g, off + i * 10 + 9, none⟩ = some (.slice ak (nodes[i]).kids.length ck) := by
  obtain ⟨kvs, k1, r1, q1⟩ := h.nds
  have hz : (nodes.zip kvs)[i]? = some (nodes[i], kvs[i]'(by omega)) := by rw [List.getElem?_eq_getElem (by rw [List.length_zip]; omega), List.getElem_zip]
  have y := q1 _ (List.mem_of_getElem? hz)
  obtain ⟨g, off, cc, he, z⟩ := rdS_cells r1 (by rw [List.length_zip]; omega) hz
  injection he with he _ _
  generalize kvs[i]'(by omega) = v at z y
  dsimp only at y
  obtain ⟨ak, ck, rfl, y1, y2⟩ := y
  exact ⟨g, off, ak, ck, he, ⟨ak, ck, rfl, y1, y2⟩, z 0 _ (by omega) rfl, by rw [Nat.add_assoc]; exact z 1 _ (by omega) rfl, by rw [Nat.add_assoc]; exact z 2 _ (by omega) rfl, by rw [Nat.add_assoc]; exact z 3 _ (by omega) rfl,
    by rw [Nat.add_assoc]; exact z 4 _ (by omega) rfl, by rw [Nat.add_assoc]; exact z 5 _ (by omega) rfl, by rw [Nat.add_assoc]; exact z 6 _ (by omega) rfl, by rw [Nat.add_assoc]; exact z 7 _ (by omega) rfl,
    by rw [Nat.add_assoc]; exact z 8 _ (by omega) rfl, by rw [Nat.add_assoc]; exact z 9 _ (by omega) rfl⟩

theorem fr_cell {w w' : World} (h : Fr w w') {b o : Nat} {v : Value} (hc : w.cell? ⟨b, o, none⟩ = some v) : w'.cell? ⟨b, o, none⟩ = some v :=
  (World.cell?_of_block (h.block b (block_lt_of_cell hc) id)).trans hc
theorem fr_of_kp {w w' : World} (h : Kp (fun k => k < w.heap.size) w w') : Fr w w' := ⟨h.os, h.tape, h.output, h.size, fun k hk _ => h.block k hk⟩
/-- How great a tree may be. -/
structure Small (nodes : List Nd) (funcs : List Int) : Prop where
  nl : nodes.length ≤ 100000000
  fl : funcs.length ≤ 9223372036854775807
  each : ∀ n ∈ nodes, n.kids.length ≤ 9223372036854775807 ∧ n.name.size ≤ 9223372036854775807

theorem go_step {nodes : List Nd} {m i : Nat} {W : List Int} {N : Nd} (hN : nodes.getD i {} = N) : Tm.go nodes (m + 1) i W = (Tm.step nodes N i W).bind (Tm.go nodes m (i + 1)) := by rw [← hN]; rfl
theorem check_none {nodes : List Nd} {funcs : List Int} (h : Tm.go nodes nodes.length 0 [] = none) : Tm.check nodes funcs = false := by unfold Tm.check; rw [h]
def errT (b : Bool) : Int := if b then 0 else 30

set_option maxRecDepth 100000 in
set_option maxHeartbeats 16000000 in
theorem check_c (nodes : List Nd) (funcs : List Int) (nd fu : Value) (w : World) (h : TreeRd w nodes funcs nd fu) (hs : Small nodes funcs) :
    Calls Tryd.prog 21 #[.agg #[nd, fu]] w fun e w' => e = .returned (.int .i64 (errT (Tm.check nodes funcs))) ∧ Fr w w' := by
  obtain ⟨an, cn, rfl, hcn⟩ : ∃ an cn, nd = .slice an nodes.length cn ∧ nodes.length ≤ cn := by obtain ⟨_, _, ⟨a, c, h1, h2, _⟩, _⟩ := h.nds; exact ⟨a, c, h1, h2⟩
  obtain ⟨af, cf, rfl, hcf⟩ : ∃ af cf, fu = .slice af funcs.length cf ∧ funcs.length ≤ cf := by obtain ⟨a, c, h1, h2, _⟩ := h.funcs; exact ⟨a, c, h1, h2⟩
  obtain ⟨i0, hi0, hz0, hz1, hz2⟩ := info_parts infoInt
  have HT := Lib.hid h
  have HS := Lib.hid hs
  have H1 := Lib.hid ((Hs.start w).alloc [.slice an nodes.length cn, .slice af funcs.length cf] 25)
  have hnl : nodes.length ≤ 9223372036854775807 := by have := hs.nl; omega
  have hfl : funcs.length ≤ 9223372036854775807 := hs.fl
  obtain ⟨G, hG⟩ : ∃ G : Bool, G = Tm.check nodes funcs := ⟨_, rfl⟩
  have HG := Lib.hid hG
  clear h hs hG
  go_enter Tryd.func21, Tryd.ntmps21
  go_wp2_with fail
  generalize World.alloc w _ = W0 at H1 ⊢
  obtain ⟨gt, hgt⟩ : ∃ gt, gt = w.heap.size := ⟨_, rfl⟩
  rw [← hgt]
  have H1 : Hid (Hs (fun k => k < w.heap.size) w W0 [.blk gt 25 [.slice an nodes.length cn, .slice af funcs.length cf]]) := Lib.hid (by rw [hgt]; exact H1.out)
  clear hgt
  go_loopg [3, 15] nodes.length (fun m v3 v15 wr => ∃ (i : Nat) (W : List Int), i + m = nodes.length ∧ v15 = .int .i64 (i : Int) ∧ (∀ x ∈ W, 0 ≤ x ∧ x < (i : Int)) ∧ W.length ≤ i ∧ Tm.go nodes m i W = Tm.go nodes nodes.length 0 [] ∧
    Hs (fun k => k < w.heap.size) w wr [.row 3 1 v3 W.length (ints W), .blk gt 25 [.slice an nodes.length cn, .slice af funcs.length cf]])
  case atStart => exact ⟨0, [], by omega, rfl, (fun _ h => by cases h), Nat.le_refl _, rfl, H1.out.nil 3 1⟩
  case round =>
  obtain ⟨i, W, him, rfl, hW, hWi, hgo, hh⟩ := hrel
  have hff := hh.form2 0 rfl
  have HW := Lib.hid hW
  have Hgo := Lib.hid hgo
  have Hh := Lib.hid hh
  have b0 := hh.cell 1 rfl 0 rfl
  have b1 := hh.cell 1 rfl 1 rfl
  have hfr : Fr w wr := ⟨hh.kp.os, hh.kp.tape, hh.kp.output, hh.kp.size, fun k hk _ => hh.kp.block k hk⟩
  have HFr := Lib.hid hfr
  clear hW hgo hfr
  by_cases hlt : i < nodes.length
  case pos =>
    have hki : (i : Int) < (nodes.length : Int) := by omega
    have hk0 : (0 : Int) ≤ (i : Int) := by omega
    obtain ⟨g, off, ak, ck, rfl, hkr, x0, x1, x2, x3, x4, x5, x6, x7, x8, x9⟩ := node_at HT.out hlt
    have HKw := Lib.hid hkr
    replace hkr := hkr.fr HFr.out
    replace x0 := fr_cell HFr.out x0
    replace x1 := fr_cell HFr.out x1
    replace x2 := fr_cell HFr.out x2
    replace x3 := fr_cell HFr.out x3
    replace x4 := fr_cell HFr.out x4
    replace x5 := fr_cell HFr.out x5
    replace x6 := fr_cell HFr.out x6
    replace x7 := fr_cell HFr.out x7
    replace x8 := fr_cell HFr.out x8
    replace x9 := fr_cell HFr.out x9
    have hnb := HS.out.each _ (List.getElem_mem hlt)
    have hgd : nodes.getD i {} = nodes[i] := Tm.getD_get hlt
    have hgs := go_step (m := gk - 1) (W := W) hgd
    rw [show gk - 1 + 1 = gk by omega] at hgs
    have HGd := Lib.hid hgd
    have HGs := Lib.hid hgs
    have HKr := Lib.hid hkr
    have HNb := Lib.hid hnb
    clear hgd hgs hkr hnb
    generalize nodes[i] = N at *
    obtain ⟨aw, cw, rfl, hcw, hgw⟩ := hh.form 0 rfl
    have hv : (aw = none ∧ cw = 0 ∧ W.length = 0) ∨ ∃ gw, aw = some ⟨gw, 0, none⟩ := by
      rcases hff with ⟨h, h0⟩ | ⟨g, cp, h, _⟩
      · injection h with h1 _ h3
        exact .inl ⟨h1, h3, h0⟩
      · injection h with h1 _ h3
        exact .inr ⟨g, h1⟩
    have Hv := Lib.hid hv
    have hki2 : (i : Int) ≤ 100000000 := by have := HS.out.nl; omega
    have hWl : (W.length : Int) ≤ 100000000 := by omega
    have hNk : (N.kids.length : Int) ≤ 9223372036854775807 := by have := HNb.out.1; omega
    have hNn := HNb.out.2
    have nofin : Tm.step nodes N i W = none → errT (Tm.check nodes funcs) = 30 := by
      intro h0
      rw [check_none (by rw [← Hgo.out, HGs.out, h0]; rfl)]
      rfl
    have NF := Lib.hid nofin
    have Hn := Lib.hid (hh.drew.alloc (ndC N (.slice ak N.kids.length ck)) 45)
    have hdal : (wr.alloc (.cells (ndC N (.slice ak N.kids.length ck)).toArray 45)).drew = wr.drew.alloc (.cells (ndC N (.slice ak N.kids.length ck)).toArray 45) := rfl
    clear hh hgw nofin hff hdal hv
    obtain ⟨Q, hQ⟩ : ∃ Q : Bool, Q = (Tm.fields N && decide (N.kids.length ≤ W.length) && decide (W.drop (W.length - N.kids.length) = N.kids)) := ⟨_, rfl⟩
    have HQ := Lib.hid hQ
    clear hQ
    go_upto_region 6 with fail
    go_cut [3, 6, 41] (fun v3 v6 v41 wx => v3 = .slice aw W.length cw ∧ v6 = .int .i64 ((W.length : Int) - (N.kids.length : Int)) ∧ v41 = .bool (!Q) ∧ Hs (fun k => k < w.heap.size) w wx [.blk wr.heap.size 45 (ndC N (.slice ak N.kids.length ck)), .row 3 1 (.slice aw W.length cw) W.length (ints W), .blk gt 25 [.slice (some ⟨g, off, none⟩) nodes.length cn, .slice af funcs.length cf]])
    case first =>
      cases hfl : Tm.fields N with
      | false =>
        refine Reg.wp_region_text (by kernel_rfl) (by kernel_rfl) ?_
        go_wp2_with fail
        refine (fields_c N _ hNn _).mono ?_
        rintro e w2 ⟨rfl, hf2⟩
        have H2 := Lib.hid (Hn.out.ch0 hf2)
        clear hf2
        go_wp2_with fail
        refine ⟨by kernel_rfl, ?_⟩
        go_wp2_with fail
        go_meet
        case rel => exact ⟨rfl, rfl, by rw [HQ.out, hfl]; rfl, H2.out⟩
      | true =>
        by_cases hle : N.kids.length ≤ W.length
        case neg =>
          have hneg : (W.length : Int) - (N.kids.length : Int) < 0 := by omega
          refine Reg.wp_region_text (by kernel_rfl) (by kernel_rfl) ?_
          go_wp2_with fail
          refine (fields_c N _ hNn _).mono ?_
          rintro e w2 ⟨rfl, hf2⟩
          have H2 := Lib.hid (Hn.out.ch0 hf2)
          clear hf2
          go_wp2_with fail
          refine ⟨by kernel_rfl, ?_⟩
          go_wp2_with fail
          go_meet
          case rel => exact ⟨rfl, rfl, by rw [HQ.out, hfl, decide_eq_false hle]; rfl, H2.out⟩
        case pos =>
          obtain ⟨A, hA⟩ : ∃ A, A = W.length - N.kids.length := ⟨_, rfl⟩
          have hAl : A + N.kids.length = W.length := by omega
          have hdl : (W.drop A).length = W.length - A := List.length_drop ..
          have hA1 : (W.length : Int) - (N.kids.length : Int) = (A : Int) := by omega
          have hA2 : ¬ (A : Int) < 0 := by omega
          have hA3 : (0 : Int) ≤ (A : Int) := by omega
          have hA4 : (A : Int) ≤ (W.length : Int) := by omega
          have hA5 : A ≤ W.length := by omega
          have hQ2 : Q = decide (W.drop A = N.kids) := by rw [HQ.out, hfl, decide_eq_true hle, hA]; rfl
          have HQ2 := Lib.hid hQ2
          have HAl := Lib.hid hAl
          have HDl := Lib.hid hdl
          clear hA hAl hdl hQ2 hle
          rcases Hv.out with ⟨rfl, rfl, hW0⟩ | ⟨gw, rfl⟩
          · have hWn : W = [] := List.eq_nil_of_length_eq_zero hW0
            subst hWn
            have hA0 : A = 0 := by simpa using hA5
            subst hA0
            refine Reg.wp_region_text (by kernel_rfl) (by kernel_rfl) ?_
            go_wp2_with fail
            refine (fields_c N _ hNn _).mono ?_
            rintro e w2 ⟨rfl, hf2⟩
            have H2 := Lib.hid (Hn.out.ch0 hf2)
            have b9 : w2.cell? ⟨wr.heap.size, 9, none⟩ = some (.slice ak N.kids.length ck) := H2.out.cell 0 rfl 9 rfl
            have hk0 : N.kids = [] := List.eq_nil_of_length_eq_zero (by have := HAl.out; simpa using this)
            have hqr : Q = decide (([] : List Int) = []) := by rw [HQ2.out, hk0]; rfl
            have HQR := Lib.hid hqr
            have HK0 := Lib.hid hk0
            clear hf2 hk0 hqr
            go_wp2_with fail
            refine (equal_c [] [] (.slice none 0 0) (.slice ak 0 ck) w2 ⟨_, _, rfl, Nat.le_refl _, fun h => absurd rfl h⟩ ⟨_, _, rfl, Nat.zero_le _, fun h => absurd rfl h⟩ (Nat.zero_le _) (Nat.zero_le _)).mono ?_
            rintro e w3 ⟨rfl, hf3⟩
            have H3 := Lib.hid (H2.out.ch0 hf3)
            clear hf3
            go_wp2_with fail
            refine ⟨by kernel_rfl, ?_⟩
            go_wp2_with fail
            go_meet
            case rel => exact ⟨rfl, by rw [HK0.out]; rfl, by rw [HQR.out]; rfl, H3.out⟩
          · by_cases hcA : cw = A
            · subst hcA
              refine Reg.wp_region_text (by kernel_rfl) (by kernel_rfl) ?_
              go_wp2_with fail
              refine (fields_c N _ hNn _).mono ?_
              rintro e w2 ⟨rfl, hf2⟩
              have H2 := Lib.hid (Hn.out.ch0 hf2)
              have b9 : w2.cell? ⟨wr.heap.size, 9, none⟩ = some (.slice ak N.kids.length ck) := H2.out.cell 0 rfl 9 rfl
              have hk0 : N.kids = [] := List.eq_nil_of_length_eq_zero (by have := HAl.out; omega)
              have hd0 : W.drop cw = [] := List.drop_eq_nil_of_le (by omega)
              have hqr : Q = decide (([] : List Int) = N.kids) := by rw [HQ2.out, hd0]
              have HQR := Lib.hid hqr
              have Hk2 : Hid (RdS w2 (.slice ak N.kids.length ck) N.kids.length (ints N.kids)) := Lib.hid (HKr.out.fr (((Ch.refl _ _).drew.alloc _).trans hf2))
              clear hf2 hk0 hd0 hqr
              go_wp2_with fail
              refine (equal_c [] N.kids (.slice (some ⟨gw, 0, none⟩) 0 0) _ w2 ⟨_, _, rfl, Nat.le_refl _, fun h => absurd rfl h⟩ Hk2.out (Nat.zero_le _) HNb.out.1).mono ?_
              rintro e w3 ⟨rfl, hf3⟩
              have H3 := Lib.hid (H2.out.ch0 hf3)
              clear hf3
              go_wp2_with fail
              refine ⟨by kernel_rfl, ?_⟩
              go_wp2_with fail
              go_meet
              case rel => exact ⟨rfl, by go_num, by rw [HQR.out, decide_eq_false (by omega), Bool.false_or]; simp [eq_comm], H3.out⟩
            · refine Reg.wp_region_text (by kernel_rfl) (by kernel_rfl) ?_
              go_wp2_with fail
              refine (fields_c N _ hNn _).mono ?_
              rintro e w2 ⟨rfl, hf2⟩
              have H2 := Lib.hid (Hn.out.ch0 hf2)
              have b9 : w2.cell? ⟨wr.heap.size, 9, none⟩ = some (.slice ak N.kids.length ck) := H2.out.cell 0 rfl 9 rfl
              have hrw := rdS_tail (rdS_row H2.out 1 rfl) hA5
              rw [Nat.zero_add, HDl.out] at hrw
              have hrw2 : RdS w2 (.slice (some ⟨gw, A, none⟩) (W.length - A) (cw - A)) (W.drop A).length (ints (W.drop A)) := by rw [HDl.out]; exact hrw
              have HRw := Lib.hid hrw2
              have Hk2 : Hid (RdS w2 (.slice ak N.kids.length ck) N.kids.length (ints N.kids)) := Lib.hid (HKr.out.fr (((Ch.refl _ _).drew.alloc _).trans hf2))
              have HQR := Lib.hid HQ2.out
              have hdl2 : (W.drop A).length ≤ 9223372036854775807 := by rw [HDl.out]; omega
              clear hf2 hrw hrw2
              go_wp2_with fail
              all_goals first | (exact absurd ‹cw = A› hcA) | skip
              refine (equal_c (W.drop A) N.kids (.slice (some ⟨gw, A, none⟩) (W.length - A) (cw - A)) _ w2 HRw.out Hk2.out hdl2 HNb.out.1).mono ?_
              rintro e w3 ⟨rfl, hf3⟩
              have H3 := Lib.hid (H2.out.ch0 hf3)
              clear hf3
              go_wp2_with fail
              refine ⟨by kernel_rfl, ?_⟩
              go_wp2_with fail
              go_meet
              case rel => exact ⟨rfl, by go_num, by rw [HQR.out, decide_eq_false (by omega), Bool.false_or], H3.out⟩
    case rest =>
    obtain ⟨rfl, rfl, rfl, hh2⟩ := hcut
    have H2 := Lib.hid hh2
    clear hh2 x0 x1 x2 x3 x4 x5 x6 x7 x8 x9 b0 b1 Hn
    cases Q with
    | false =>
      have hst : Tm.step nodes N i W = none := by
        unfold Tm.step
        rw [if_neg]
        intro ⟨h1, h2, h3, _⟩
        have := HQ.out
        rw [h1, decide_eq_true h2, decide_eq_true h3] at this
        cases this
      have HF := Lib.hid (NF.out hst)
      clear hst
      go_wp2_with fail
      go_ret
      exact ⟨by rw [HF.out]; rfl, fr_of_kp H2.out.kp⟩
    | true =>
      have hq : Tm.fields N = true ∧ N.kids.length ≤ W.length ∧ W.drop (W.length - N.kids.length) = N.kids := by
        have := HQ.out
        simpa [and_assoc] using this.symm
      have hkin : ∀ x ∈ N.kids, 0 ≤ x ∧ x < (i : Int) := fun x hx => HW.out x (by rw [← hq.2.2] at hx; exact List.mem_of_mem_drop hx)
      have hkl : N.kids.length ≤ 100000000 := by have := hq.2.1; omega
      have Hq := Lib.hid hq
      have Hkin := Lib.hid hkin
      clear hq hkin
      obtain ⟨wo, rfl⟩ : ∃ wo : World, wo = wr := ⟨_, rfl⟩
      obtain ⟨ko, rfl⟩ : ∃ ko : Nat, ko = gk := ⟨_, rfl⟩
      have b9 : wc.cell? ⟨wo.heap.size, 9, none⟩ = some (.slice ak N.kids.length ck) := H2.out.cell 0 rfl 9 rfl
      go_wp2_with fail
      go_loopg [7, 45] N.kids.length (fun m v7 v45 wx => ∃ j : Nat, j + m = N.kids.length ∧ v45 = .int .i64 (j : Int) ∧ Hs (fun k => k < w.heap.size) w wx (.row 3 1 v7 j (ints ((N.kids.take j).map (Tm.kindOf nodes))) ::
        [.blk wo.heap.size 45 (ndC N (.slice ak N.kids.length ck)), .row 3 1 (.slice aw W.length cw) W.length (ints W), .blk gt 25 [.slice (some ⟨g, off, none⟩) nodes.length cn, .slice af funcs.length cf]]))
      case atStart => exact ⟨0, by omega, rfl, H2.out.nil 3 1⟩
      case round =>
      obtain ⟨j, hj, rfl, hh3⟩ := hrel
      obtain ⟨a7, c7, rfl, _, _⟩ := hh3.form 0 rfl
      have H3 := Lib.hid hh3
      have bt0 : wr.cell? ⟨gt, 0, none⟩ = some (.slice (some ⟨g, off, none⟩) nodes.length cn) := hh3.cell 3 rfl 0 rfl
      have hfx := fr_of_kp hh3.kp
      clear hh3 b9
      by_cases hjl : j < N.kids.length
      case pos =>
        have hji : (j : Int) < (N.kids.length : Int) := by omega
        have hj0 : (0 : Int) ≤ (j : Int) := by omega
        have hx : N.kids[j]? = some N.kids[j] := List.getElem?_eq_getElem hjl
        have hxin := Hkin.out _ (List.getElem_mem hjl)
        obtain ⟨gk', ok', hak, cx⟩ := rdS_int (HKw.out.fr hfx) hx
        have htk : (N.kids.take (j + 1)).map (Tm.kindOf nodes) = (N.kids.take j).map (Tm.kindOf nodes) ++ [Tm.kindOf nodes N.kids[j]] := by
          rw [List.take_add_one, hx, List.map_append]; rfl
        have HTk := Lib.hid htk
        generalize N.kids[j] = x at cx hxin HTk
        obtain ⟨xn, rfl⟩ : ∃ xn : Nat, x = (xn : Int) := ⟨x.toNat, by omega⟩
        have hxl : xn < nodes.length := by omega
        have hxi : (xn : Int) < (nodes.length : Int) := by omega
        have hx0 : (0 : Int) ≤ (xn : Int) := by omega
        obtain ⟨g2, off2, ak2, ck2, hg2, _, y0, _⟩ := node_at HT.out hxl
        injection hg2 with hg2
        injection hg2 with hg3 hg4 _
        subst hg3 hg4
        have y0' := fr_cell hfx y0
        have hkd : Tm.kindOf nodes (xn : Int) = (nodes[xn]).kind := by
          show (nodes.getD ((xn : Int)).toNat {}).kind = _
          rw [Int.toNat_natCast, Tm.getD_get hxl]
        rw [← hkd] at y0'
        have Hn3 := Lib.hid (H3.out.alloc [.int .i64 (Tm.kindOf nodes (xn : Int))] 3)
        have hjb : j ≤ 1000000000 := by omega
        subst hak
        clear hx htk hxin y0 hkd
        generalize Tm.kindOf nodes (xn : Int) = kd at y0' Hn3 HTk
        go_wp2_with (at_builtin; go_must (refine Hs.push rfl _ _ 23 rfl 3 i0 _ 1 8 (by kernel_rfl) hi0 hz0 hz1 hz2 rfl (Nat.succ_pos _) (Nat.le_of_ble_eq_true rfl) 1 (.slice a7 j c7) j (ints ((N.kids.take j).map (Tm.kindOf nodes))) rfl 0 wr.heap.size [.int .i64 kd] rfl rfl rfl rfl rfl hjb Hn3.out ?_))
        intro v1 w1 hh4
        obtain ⟨a1, c1, rfl, _, _⟩ := hh4.form 1 rfl
        have H4 := Lib.hid hh4.tail
        clear hh4 bt0 cx y0'
        go_wp2_with fail
        go_roundg (gk - 1)
        case measure => omega
        case rel =>
          refine ⟨j + 1, by omega, by go_num, ?_⟩
          rw [HTk.out]
          have := H4.out
          simpa [ints] using this
      case neg =>
        obtain rfl : j = N.kids.length := by omega
        have hji : ¬ (N.kids.length : Int) < (N.kids.length : Int) := by omega
        have b0' : wr.cell? ⟨wo.heap.size, 0, none⟩ = some (.int .i64 N.kind) := H3.out.cell 1 rfl 0 rfl
        have hr7 := rdS_row H3.out 0 rfl
        rw [List.take_length] at hr7
        have hml : (N.kids.map (Tm.kindOf nodes)).length = N.kids.length := List.length_map _
        have hkc := kids_c N.kind (N.kids.map (Tm.kindOf nodes)) (.slice a7 N.kids.length c7) wr (by rw [hml]; exact hr7) (by rw [hml]; exact HNb.out.1)
        have HKc := Lib.hid hkc
        clear hr7 hml hkc bt0
        go_wp2_with fail
        refine HKc.out.mono ?_
        clear HKc
        rintro e w5 ⟨rfl, hf5⟩
        have H5 := Lib.hid (H3.out.ch0 hf5)
        clear hf5 b0'
        cases hkk : Tm.kidsOk N.kind (N.kids.map (Tm.kindOf nodes)) with
        | false =>
          have hst : Tm.step nodes N i W = none := by
            unfold Tm.step
            rw [if_neg]
            intro ⟨_, _, _, h4⟩
            rw [hkk] at h4; cases h4
          have HF := Lib.hid (NF.out hst)
          clear hst
          go_wp2_with fail
          go_ret
          exact ⟨by rw [HF.out]; rfl, fr_of_kp H5.out.kp⟩
        | true =>
          obtain ⟨A, hA⟩ : ∃ A, A = W.length - N.kids.length := ⟨_, rfl⟩
          have hle := Hq.out.2.1
          have hst : Tm.step nodes N i W = some (W.take A ++ [(i : Int)]) := by
            unfold Tm.step
            rw [if_pos ⟨Hq.out.1, Hq.out.2.1, Hq.out.2.2, hkk⟩, hA]
          have hnext : Tm.go nodes (ko - 1) (i + 1) (W.take A ++ [(i : Int)]) = Tm.go nodes nodes.length 0 [] := by
            rw [← Hgo.out, HGs.out, hst]; rfl
          have hAb : A ≤ 1000000000 := by omega
          have hAl : A ≤ W.length := by omega
          have hA1 : ((W.length : Int) - (N.kids.length : Int)).toNat = A := by omega
          have hA3 : (0 : Int) ≤ (W.length : Int) - (N.kids.length : Int) := by omega
          have hA4 : (W.length : Int) - (N.kids.length : Int) ≤ (cw : Int) := by omega
          have hA5 : N.kids.length ≤ W.length := hle
          have HA := Lib.hid hA
          have Hnx := Lib.hid hnext
          clear hst hnext hA hle
          rcases Hv.out with ⟨rfl, rfl, hW0⟩ | ⟨gw, rfl⟩
          case inl =>
            have hWn : W = [] := List.eq_nil_of_length_eq_zero hW0
            subst hWn
            have hA0 : A = 0 := by simpa using hAl
            subst hA0
            have Hn6 := Lib.hid (H5.out.alloc [.int .i64 (i : Int)] 3)
            go_wp2_with (at_builtin; go_must (refine Hs.push rfl _ _ 23 rfl 3 i0 _ 1 8 (by kernel_rfl) hi0 hz0 hz1 hz2 rfl (Nat.succ_pos _) (Nat.le_of_ble_eq_true rfl) 3 (.slice none 0 0) 0 [] rfl 0 w5.heap.size [.int .i64 (i : Int)] rfl rfl rfl rfl rfl hAb Hn6.out ?_))
            intro v6 w6 hh6
            obtain ⟨a6, c6, rfl, _, _⟩ := hh6.form 3 rfl
            have H6 := Lib.hid hh6.tail.tail.tail
            clear hh6
            go_wp2_with fail
            go_roundg (ko - 1)
            case measure => omega
            case rel =>
              refine ⟨i + 1, ([] : List Int).take 0 ++ [(i : Int)], by omega, by go_num, ?_, ?_, Hnx.out, ?_⟩
              · intro x hx
                rcases List.mem_append.1 hx with hx | hx
                · have := HW.out x (List.mem_of_mem_take hx); omega
                · rw [List.mem_singleton] at hx; subst hx; omega
              · simp
              · have h6 := H6.out
                have hl6 : (([] : List Int).take 0 ++ [(i : Int)]).length = 0 + 1 := by simp
                rw [hl6]
                exact h6
          case inr =>
            have Hn6 := Lib.hid ((H5.out.cut 2 rfl hAl).alloc [.int .i64 (i : Int)] 3)
            go_wp2_with (at_builtin; go_must (refine Hs.push rfl _ _ 23 rfl 3 i0 _ 1 8 (by kernel_rfl) hi0 hz0 hz1 hz2 rfl (Nat.succ_pos _) (Nat.le_of_ble_eq_true rfl) 3 (.slice (some ⟨gw, 0, none⟩) A cw) A ((ints W).take (A * 1)) rfl 0 w5.heap.size [.int .i64 (i : Int)] rfl rfl rfl rfl rfl hAb Hn6.out ?_))
            intro v6 w6 hh6
            obtain ⟨a6, c6, rfl, _, _⟩ := hh6.form 3 rfl
            have H6 := Lib.hid hh6.tail.tail.tail
            clear hh6
            go_wp2_with fail
            go_roundg (ko - 1)
            case measure => omega
            case rel =>
              refine ⟨i + 1, W.take A ++ [(i : Int)], by omega, by go_num, ?_, ?_, Hnx.out, ?_⟩
              · intro x hx
                rcases List.mem_append.1 hx with hx | hx
                · have := HW.out x (List.mem_of_mem_take hx); omega
                · rw [List.mem_singleton] at hx; subst hx; omega
              · rw [List.length_append, List.length_take]; simp; omega
              · have h6 := H6.out
                have hl6 : (W.take A ++ [(i : Int)]).length = A + 1 := by rw [List.length_append, List.length_take]; simp; omega
                rw [hl6]
                simpa [ints, List.map_take] using h6
  case neg =>
    obtain rfl : i = nodes.length := by omega
    have hki : ¬ (nodes.length : Int) < (nodes.length : Int) := by omega
    have hg0 : gk = 0 := by omega
    have hgw : Tm.go nodes nodes.length 0 [] = some W := by rw [← Hgo.out, hg0]; rfl
    have HGw := Lib.hid hgw
    obtain ⟨aw, cw, rfl, hcw, _⟩ := hh.form 0 rfl
    have heq := equal_c W funcs (.slice aw W.length cw) (.slice af funcs.length cf) wr (rdS_row hh 0 rfl) (HT.out.funcs.fr HFr.out) (by omega) hfl
    have HEq := Lib.hid heq
    clear hg0 hgw heq hh hff hlt
    go_wp2_with fail
    refine HEq.out.mono ?_
    clear HEq
    rintro e w2 ⟨rfl, hf2⟩
    have H2 := Lib.hid (Hh.out.ch0 hf2)
    clear hf2 b0 b1
    by_cases hWf : W = funcs
    case neg =>
      have hd : decide (W = funcs) = false := decide_eq_false hWf
      have hck : errT (Tm.check nodes funcs) = 30 := by unfold Tm.check; rw [HGw.out]; dsimp only; rw [hd]; rfl
      have HCk := Lib.hid hck
      clear hck hWf
      go_wp2_with fail
      go_ret
      exact ⟨by rw [HCk.out]; rfl, fr_of_kp H2.out.kp⟩
    case pos =>
      have hd : decide (W = funcs) = true := decide_eq_true hWf
      have hfin : ∀ x ∈ funcs, 0 ≤ x ∧ x < (nodes.length : Int) := fun x hx => HW.out x (by rw [hWf]; exact hx)
      have hck : Tm.check nodes funcs = funcs.all (fun f => Tm.kindOf nodes f == 1) := by unfold Tm.check; rw [HGw.out]; dsimp only; rw [hd, Bool.true_and]
      have HCk := Lib.hid hck
      have Hfin := Lib.hid hfin
      have b1 : w2.cell? ⟨gt, 1, none⟩ = some (.slice af funcs.length cf) := H2.out.cell 1 rfl 1 rfl
      clear hck hfin hWf
      go_wp2_with fail
      clear b1
      generalize decide (W = funcs) = dW at *
      go_loopg [79] funcs.length (fun m v wx => ∃ j : Nat, j + m = funcs.length ∧ v = .int .i64 (j : Int) ∧ (∀ x ∈ funcs.take j, Tm.kindOf nodes x = 1) ∧ Hs (fun k => k < w.heap.size) w wx [.row 3 1 (.slice aw W.length cw) W.length (ints W), .blk gt 25 [.slice an nodes.length cn, .slice af funcs.length cf]])
      case atStart => exact ⟨0, by omega, rfl, (fun x hx => by simp at hx), H2.out⟩
      case round =>
      obtain ⟨j, hj, rfl, hall, hh3⟩ := hrel
      have H3 := Lib.hid hh3
      have HAll := Lib.hid hall
      have bt0 : wr.cell? ⟨gt, 0, none⟩ = some (.slice an nodes.length cn) := hh3.cell 1 rfl 0 rfl
      have hfx := fr_of_kp hh3.kp
      clear hh3 hall
      by_cases hjl : j < funcs.length
      case pos =>
        have hji : (j : Int) < (funcs.length : Int) := by omega
        have hj0 : (0 : Int) ≤ (j : Int) := by omega
        have hx : funcs[j]? = some funcs[j] := List.getElem?_eq_getElem hjl
        have hxin := Hfin.out _ (List.getElem_mem hjl)
        have hxm : funcs[j] ∈ funcs := List.getElem_mem hjl
        obtain ⟨gk', ok', hak, cx⟩ := rdS_int (HT.out.funcs.fr hfx) hx
        have htk : funcs.take (j + 1) = funcs.take j ++ [funcs[j]] := by rw [List.take_add_one, hx]; rfl
        have HTk := Lib.hid htk
        have Hxm := Lib.hid hxm
        generalize funcs[j] = x at cx hxin HTk Hxm
        obtain ⟨xn, rfl⟩ : ∃ xn : Nat, x = (xn : Int) := ⟨x.toNat, by omega⟩
        have hxl : xn < nodes.length := by omega
        have hxi : (xn : Int) < (nodes.length : Int) := by omega
        have hx0 : (0 : Int) ≤ (xn : Int) := by omega
        obtain ⟨g2, off2, ak2, ck2, hg2, _, y0, _⟩ := node_at HT.out hxl
        subst hg2
        have y0' := fr_cell hfx y0
        have hkd : Tm.kindOf nodes (xn : Int) = (nodes[xn]).kind := by
          show (nodes.getD ((xn : Int)).toNat {}).kind = _
          rw [Int.toNat_natCast, Tm.getD_get hxl]
        rw [← hkd] at y0'
        subst hak
        clear hx htk hxin y0 hkd hxm
        by_cases hk1 : Tm.kindOf nodes (xn : Int) = 1
        · have hkb : (Tm.kindOf nodes (xn : Int) != 1) = false := by rw [bne_eq_false_iff_eq]; exact hk1
          have HK1 := Lib.hid hk1
          clear hk1
          go_wp2_with fail
          go_roundg (gk - 1)
          case measure => omega
          case rel =>
            refine ⟨j + 1, by omega, by go_num, ?_, H3.out⟩
            rw [HTk.out]
            intro y hy
            rcases List.mem_append.1 hy with hy | hy
            · exact HAll.out y hy
            · rw [List.mem_singleton] at hy; rw [hy]; exact HK1.out
        · have hkb : (Tm.kindOf nodes (xn : Int) != 1) = true := by rw [bne_iff_ne]; exact hk1
          have hck : errT (Tm.check nodes funcs) = 30 := by
            rw [HCk.out]
            have : funcs.all (fun f => Tm.kindOf nodes f == 1) = false := by
              rw [Bool.eq_false_iff]
              intro h
              exact hk1 (by simpa using List.all_eq_true.1 h _ Hxm.out)
            rw [this]; rfl
          have HCk2 := Lib.hid hck
          clear hck hk1
          go_wp2_with fail
          go_ret
          exact ⟨by rw [HCk2.out]; rfl, fr_of_kp H3.out.kp⟩
      case neg =>
        obtain rfl : j = funcs.length := by omega
        have hji : ¬ (funcs.length : Int) < (funcs.length : Int) := by omega
        have hck : errT (Tm.check nodes funcs) = 0 := by
          rw [HCk.out]
          have : funcs.all (fun f => Tm.kindOf nodes f == 1) = true := by
            rw [List.all_eq_true]
            intro x hx
            have := HAll.out x (by rw [List.take_length]; exact hx)
            rw [this]; rfl
          rw [this]; rfl
        have HCk2 := Lib.hid hck
        clear hck
        go_wp2_with fail
        go_ret
        exact ⟨by rw [HCk2.out]; rfl, fr_of_kp H3.out.kp⟩
end Go.Proofs.YtllahgnpjodgmaaDoor
