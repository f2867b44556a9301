/- quernref3's small predicates.
quernref3.kids. -/
import Derived.Test.YtllahgnpjodgmaaDoorT1
import Derived.Test.YtllahgnpjodgmaaDoorTm
import Derived.Test.YtllahgnpjodgmaaDoorT8
set_option linter.unusedVariables false
namespace Go.Proofs.YtllahgnpjodgmaaDoor
open Go Go.RowKit Mem Pm

set_option maxRecDepth 100000 in
set_option maxHeartbeats 2000000 in
theorem rExpr_c (k : Int) (w : World) : Calls Tryd.prog 68 #[.int .i64 k] w fun e w' => e = .returned (.bool (Tm.isE k)) ∧ w = w' := by
  by_cases h : 20 ≤ k
  · have h2 : decide ((20 : Int) ≤ k) = true := decide_eq_true h
    go_enter Tryd.func68, Tryd.ntmps68
    go_wp2_with fail
    go_ret
    exact ⟨by simp [Tm.isE, h], rfl⟩
  · have h2 : decide ((20 : Int) ≤ k) = false := decide_eq_false h
    go_enter Tryd.func68, Tryd.ntmps68
    go_wp2_with fail
    go_ret
    exact ⟨by simp [Tm.isE]; omega, rfl⟩
set_option maxRecDepth 100000 in
set_option maxHeartbeats 2000000 in
theorem rStmt_c (k : Int) (w : World) : Calls Tryd.prog 76 #[.int .i64 k] w fun e w' => e = .returned (.bool (Tm.isS k)) ∧ w = w' := by
  by_cases h : 3 ≤ k
  · have h2 : decide ((3 : Int) ≤ k) = true := decide_eq_true h
    go_enter Tryd.func76, Tryd.ntmps76
    go_wp2_with fail
    go_ret
    exact ⟨by simp [Tm.isS, h], rfl⟩
  · have h2 : decide ((3 : Int) ≤ k) = false := decide_eq_false h
    go_enter Tryd.func76, Tryd.ntmps76
    go_wp2_with fail
    go_ret
    exact ⟨by simp [Tm.isS]; omega, rfl⟩
set_option maxRecDepth 100000 in
set_option maxHeartbeats 4000000 in
theorem rNamed_c (k : Int) (w : World) : Calls Tryd.prog 66 #[.int .i64 k] w fun e w' => e = .returned (.bool (Tm.named k)) ∧ w = w' := by
  rcases (show k = 1 ∨ k = 2 ∨ k = 4 ∨ k = 5 ∨ k = 6 ∨ k = 24 ∨ k = 25 ∨ (k ≠ 1 ∧ k ≠ 2 ∧ k ≠ 4 ∧ k ≠ 5 ∧ k ≠ 6 ∧ k ≠ 24 ∧ k ≠ 25) by omega) with rfl | rfl | rfl | rfl | rfl | rfl | rfl | ⟨h1, h2, h3, h4, h5, h6, h7⟩
  case inr.inr.inr.inr.inr.inr.inr =>
    have e1 : (k == 1) = false := beq_eq_false_iff_ne.2 h1
    have e2 : (k == 2) = false := beq_eq_false_iff_ne.2 h2
    have e3 : (k == 4) = false := beq_eq_false_iff_ne.2 h3
    have e4 : (k == 5) = false := beq_eq_false_iff_ne.2 h4
    have e5 : (k == 6) = false := beq_eq_false_iff_ne.2 h5
    have e6 : (k == 24) = false := beq_eq_false_iff_ne.2 h6
    have e7 : (k == 25) = false := beq_eq_false_iff_ne.2 h7
    go_enter Tryd.func66, Tryd.ntmps66
    go_wp2_with fail
    go_ret
    exact ⟨by simp [Tm.named, *], rfl⟩
  all_goals
    go_enter Tryd.func66, Tryd.ntmps66
    go_wp2_with fail
    go_ret
    exact ⟨rfl, rfl⟩
set_option maxRecDepth 100000 in
set_option maxHeartbeats 4000000 in
theorem many_c (k : Int) (w : World) : Calls Tryd.prog 64 #[.int .i64 k] w fun e w' => e = .returned (.tuple #[.int .i64 (Tm.many k).1, .int .i64 (Tm.many k).2]) ∧ w = w' := by
  go_enter Tryd.func64, Tryd.ntmps64
  go_wp2_with fail
  all_goals (go_ret2; refine ⟨?_, rfl⟩; simp_all [Tm.many])
set_option maxRecDepth 100000 in
set_option maxHeartbeats 8000000 in
theorem wanted_c (k : Int) (n i : Nat) (kid : Int) (hn : n ≤ 9223372036854775807) (w : World) : Calls Tryd.prog 65 #[.int .i64 k, .int .i64 (n : Int), .int .i64 (i : Int), .int .i64 kid] w fun e w' => e = .returned (.bool (Tm.wanted k n i kid)) ∧ w = w' := by
  have hor : ((((i : Int) == (n : Int) - 1) = true ∧ i + 1 = n) ∨ (((i : Int) == (n : Int) - 1) = false ∧ ¬ i + 1 = n)) ∧ (((i : Int) == 0) = decide (i = 0)) ∧ (((i : Int) == 1) = decide (i = 1)) := by
    refine ⟨?_, by rw [Bool.eq_iff_iff]; simp, by rw [Bool.eq_iff_iff]; simp; omega⟩
    by_cases h : i + 1 = n
    · exact .inl ⟨beq_iff_eq.2 (by omega), h⟩
    · exact .inr ⟨beq_eq_false_iff_ne.2 (by omega), h⟩
  obtain ⟨hor, z0, z1⟩ := hor
  rcases hor with ⟨e1, e2⟩ | ⟨e1, e2⟩
  all_goals
    have E2 := Lib.hid e2
    have Z0 := Lib.hid z0
    have Z1 := Lib.hid z1
    clear e2 z0 z1
    go_enter Tryd.func65, Tryd.ntmps65
    go_wp2_with (first | (go_at_call 76; refine (rStmt_c _ _).mono ?_; rintro e w' ⟨rfl, rfl⟩) | (go_at_call 68; refine (rExpr_c _ _).mono ?_; rintro e w' ⟨rfl, rfl⟩))
    all_goals
      go_ret
      refine ⟨?_, rfl⟩
      have e2 := E2.out
      have z0 := Z0.out
      have z1 := Z1.out
      clear E2 Z0 Z1
      simp_all [Tm.wanted]
      all_goals first | omega | exact .inl (by omega) | (intro h; exfalso; omega) | (rw [if_neg (by omega), if_neg (by omega)])
end Go.Proofs.YtllahgnpjodgmaaDoor

set_option linter.unusedVariables false
namespace Go.Proofs.YtllahgnpjodgmaaDoor
open Go Go.RowKit Mem Pm

theorem wantAll_cons (k : Int) (n i : Nat) (x : Int) (l : List Int) : Tm.wantAll k n (x :: l) i = (Tm.wanted k n i x && Tm.wantAll k n l (i + 1)) := rfl
set_option maxRecDepth 100000 in
set_option maxHeartbeats 8000000 in
theorem rKids_c (nodes : List Nd) (funcs : List Int) (nd fu : Value) (w : World) (h : TreeRd w nodes funcs nd fu) (N : Nd) (ak : Option Addr) (ck : Nat) (hk : RdS w (.slice ak N.kids.length ck) N.kids.length (ints N.kids))
    (hin : ∀ x ∈ N.kids, 0 ≤ x ∧ x < (nodes.length : Int)) (hl : N.kids.length ≤ 9223372036854775807) (hnl : nodes.length ≤ 9223372036854775807) :
    Calls Tryd.prog 40 #[.agg #[nd, fu], ndV N (.slice ak N.kids.length ck)] w fun e w' => e = .returned (.bool (Tm.kidsOk N.kind (N.kids.map (Tm.kindOf nodes)))) ∧ Fr w w' := by
  obtain ⟨an, cn, rfl, hcn⟩ : ∃ an cn, nd = .slice an nodes.length cn ∧ nodes.length ≤ cn := by obtain ⟨_, _, ⟨a, c, h1, h2, _⟩, _⟩ := h.nds; exact ⟨a, c, h1, h2⟩
  obtain ⟨af, cf, rfl, hcf⟩ : ∃ af cf, fu = .slice af funcs.length cf ∧ funcs.length ≤ cf := by obtain ⟨a, c, h1, h2, _⟩ := h.funcs; exact ⟨a, c, h1, h2⟩
  have HT := Lib.hid h
  have HK := Lib.hid hk
  have Hin := Lib.hid hin
  have h1 := ((Hs.start w).alloc [.slice an nodes.length cn, .slice af funcs.length cf] 25).alloc (ndC N (.slice ak N.kids.length ck)) 45
  rw [size_alloc'] at h1
  have H1 := Lib.hid h1
  rw [← Tm.refKids_eq]
  have hml : (N.kids.map (Tm.kindOf nodes)).length = N.kids.length := List.length_map _
  obtain ⟨R, hR⟩ : ∃ R, R = Tm.wantAll N.kind N.kids.length (N.kids.map (Tm.kindOf nodes)) 0 := ⟨_, rfl⟩
  obtain ⟨lo, hi, hm⟩ : ∃ lo hi, Tm.many N.kind = (lo, hi) := ⟨_, _, rfl⟩
  obtain ⟨B, hB⟩ : ∃ B : Bool, B = (decide (hi = -2) || decide ((N.kids.length : Int) < lo) || (decide (0 ≤ hi) && decide (hi < (N.kids.length : Int)))) := ⟨_, rfl⟩
  have hfin : Tm.refKids N.kind (N.kids.map (Tm.kindOf nodes)) = (!B && R) := by unfold Tm.refKids; rw [hml, hm, ← hR, hB]
  have HFin := Lib.hid hfin
  have HR := Lib.hid hR
  have HB := Lib.hid hB
  have HM := Lib.hid hm
  have b0 : ((w.alloc (.cells [Value.slice an nodes.length cn, Value.slice af funcs.length cf].toArray 25)).alloc (.cells (ndC N (.slice ak N.kids.length ck)).toArray 45)).cell? ⟨w.heap.size + 1, 0, none⟩ = some (.int .i64 N.kind) := h1.cell 0 rfl 0 rfl
  clear h hk hin h1 hml hR hfin hB hm b0
  unfold ndV
  go_enter Tryd.func40, Tryd.ntmps40
  go_wp2_with fail
  have hmc := many_c N.kind ((w.alloc (.cells [Value.slice an nodes.length cn, Value.slice af funcs.length cf].toArray 25)).alloc (.cells (ndC N (.slice ak N.kids.length ck)).toArray 45))
  rw [HM.out] at hmc
  refine hmc.mono ?_
  clear hmc
  rintro e w' ⟨rfl, rfl⟩
  go_upto_region 3 with fail
  have H1 : Hid (Hs (fun k => k < w.heap.size) w _ _) := H1
  generalize World.alloc (World.alloc w _) _ = W at H1 ⊢
  go_cut [34] (fun v34 wx => v34 = .bool B ∧ wx = W)
  case first =>
    have d1 : (hi == -2) = decide (hi = -2) := by rw [Bool.eq_iff_iff]; simp
    cases p1 : decide (hi = -2) with
    | true =>
      rw [p1] at d1
      go_wp2_with fail
      go_meet
      case rel => exact ⟨by rw [HB.out, p1]; rfl, rfl⟩
    | false =>
      rw [p1] at d1
      cases p2 : decide ((N.kids.length : Int) < lo) with
      | true =>
        go_wp2_with fail
        go_meet
        case rel => exact ⟨by rw [HB.out, p1, p2]; rfl, rfl⟩
      | false =>
        cases p3 : decide (0 ≤ hi) with
        | false =>
          go_wp2_with fail
          go_meet
          case rel => exact ⟨by rw [HB.out, p1, p2, p3]; rfl, rfl⟩
        | true =>
          go_wp2_with fail
          go_meet
          case rel => exact ⟨by rw [HB.out, p1, p2, p3]; rfl, rfl⟩
  case rest =>
  obtain ⟨rfl, rfl⟩ := hcut
  cases B with
  | true =>
    go_wp2_with fail
    go_ret
    exact ⟨by rw [HFin.out]; rfl, fr_of_kp H1.out.kp⟩
  | false =>
    go_wp2_with fail
    go_loopg [8] N.kids.length (fun m v8 wr => ∃ j : Nat, j + m = N.kids.length ∧ v8 = .int .i64 (j : Int) ∧ Tm.wantAll N.kind N.kids.length ((N.kids.drop j).map (Tm.kindOf nodes)) j = R ∧
      Hs (fun k => k < w.heap.size) w wr [.blk (w.heap.size + 1) 45 (ndC N (.slice ak N.kids.length ck)), .blk w.heap.size 25 [.slice an nodes.length cn, .slice af funcs.length cf]])
    case atStart => exact ⟨0, by omega, rfl, HR.out.symm, H1.out⟩
    case round =>
    obtain ⟨j, hj, rfl, hwa, hh⟩ := hrel
    have HWa := Lib.hid hwa
    have H2 := Lib.hid hh
    have bt0 : wr.cell? ⟨w.heap.size, 0, none⟩ = some (.slice an nodes.length cn) := hh.cell 1 rfl 0 rfl
    have bn0 : wr.cell? ⟨w.heap.size + 1, 0, none⟩ = some (.int .i64 N.kind) := hh.cell 0 rfl 0 rfl
    have bn9 : wr.cell? ⟨w.heap.size + 1, 9, none⟩ = some (.slice ak N.kids.length ck) := hh.cell 0 rfl 9 rfl
    have hfx := fr_of_kp hh.kp
    clear hwa hh
    by_cases hjl : j < N.kids.length
    case pos =>
      have hji : (j : Int) < (N.kids.length : Int) := by omega
      have hj0 : (0 : Int) ≤ (j : Int) := by omega
      have hx : N.kids[j]? = some N.kids[j] := List.getElem?_eq_getElem hjl
      have hxin := Hin.out _ (List.getElem_mem hjl)
      obtain ⟨gk', ok', hak, cx⟩ := rdS_int (HK.out.fr hfx) hx
      have htk : (N.kids.drop j).map (Tm.kindOf nodes) = Tm.kindOf nodes N.kids[j] :: (N.kids.drop (j + 1)).map (Tm.kindOf nodes) := by
        rw [List.drop_eq_getElem_cons hjl, List.map_cons]
      have HTk := Lib.hid htk
      generalize N.kids[j] = x at cx hxin HTk
      obtain ⟨xn, rfl⟩ : ∃ xn : Nat, x = (xn : Int) := ⟨x.toNat, by omega⟩
      have hxl : xn < nodes.length := by omega
      have hxi : (xn : Int) < (nodes.length : Int) := by omega
      have hx0 : (0 : Int) ≤ (xn : Int) := by omega
      obtain ⟨g2, off2, ak2, ck2, hg2, _, y0, _⟩ := node_at HT.out hxl
      subst hg2
      have y0' := fr_cell hfx y0
      have hkd : Tm.kindOf nodes (xn : Int) = (nodes[xn]).kind := by
        show (nodes.getD ((xn : Int)).toNat {}).kind = _
        rw [Int.toNat_natCast, Tm.getD_get hxl]
      rw [← hkd] at y0'
      subst hak
      clear hx htk hxin y0 hkd
      generalize Tm.kindOf nodes (xn : Int) = kd at y0' HTk
      go_wp2_with fail
      refine Reg.wp_region_text (by kernel_rfl) (by kernel_rfl) ?_
      go_wp2_with fail
      refine (wanted_c N.kind N.kids.length j kd hl _).mono ?_
      rintro e w' ⟨rfl, rfl⟩
      go_wp2_with fail
      refine ⟨by kernel_rfl, ?_⟩
      cases hwd : Tm.wanted N.kind N.kids.length j kd with
      | true =>
        have HWd := Lib.hid hwd
        clear hwd
        go_wp2_with fail
        go_roundg (gk - 1)
        case measure => omega
        case rel =>
          refine ⟨j + 1, by omega, by go_num, ?_, H2.out.drew⟩
          rw [← HWa.out, HTk.out, wantAll_cons, HWd.out, Bool.true_and]
      | false =>
        have hRf : R = false := by
          rw [← HWa.out, HTk.out, wantAll_cons, hwd, Bool.false_and]
        have HRf := Lib.hid hRf
        clear hRf hwd
        go_wp2_with fail
        go_ret
        exact ⟨by rw [HFin.out, HRf.out]; rfl, fr_of_kp H2.out.drew.kp⟩
    case neg =>
      obtain rfl : j = N.kids.length := by omega
      have hji : ¬ (N.kids.length : Int) < (N.kids.length : Int) := by omega
      have hRt : R = true := by rw [← HWa.out, List.drop_length]; rfl
      have HRt := Lib.hid hRt
      clear hRt
      go_wp2_with fail
      go_ret
      exact ⟨by rw [HFin.out, HRt.out]; rfl, fr_of_kp H2.out.kp⟩
end Go.Proofs.YtllahgnpjodgmaaDoor
