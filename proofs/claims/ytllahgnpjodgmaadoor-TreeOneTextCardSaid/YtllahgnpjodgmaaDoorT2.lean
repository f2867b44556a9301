/- tree.fields. -/
import Derived.Test.YtllahgnpjodgmaaDoorT1
import Derived.Deep.DeepCutAuto
set_option linter.unusedVariables false
namespace Go.Proofs.YtllahgnpjodgmaaDoor
open Go Go.RowKit Mem Pm
set_option maxRecDepth 100000 in
set_option maxHeartbeats 16000000 in
theorem fields_c (n : Nd) (kv : Value) (hs : n.name.size ≤ 9223372036854775807) (w : World) : Calls Tryd.prog 36 #[ndV n kv] w fun e w' => e = .returned (.bool (Tm.fields n)) ∧ Fr w w' := by
  obtain ⟨k, a1, a2, a3, a4, a5, a6, a7, nm, ks⟩ := n
  dsimp only at hs
  obtain ⟨C, hC⟩ : ∃ C : List Value, C = [.int .i64 k, .int .i64 a1, .int .i64 a2, .int .i64 a3, .int .i64 a4, .int .i64 a5, .int .i64 a6, .int .i64 a7, .string nm, kv] := ⟨_, rfl⟩
  obtain ⟨bW, hW⟩ : ∃ b : Bool, b = (a2 == 0 || Tm.named k || k == 31) := ⟨_, rfl⟩
  obtain ⟨bN, hN⟩ : ∃ b : Bool, b = (if Tm.named k then isNm nm.data.toList else nm.data.toList.isEmpty) := ⟨_, rfl⟩
  obtain ⟨bD, hD⟩ : ∃ b : Bool, b = (if k = 1 then decide (0 ≤ a4) && decide (a4 ≤ 3) else if k = 2 ∨ k = 4 then decide (1 ≤ a4) && decide (a4 ≤ 3) else a4 == 0) := ⟨_, rfl⟩
  obtain ⟨bO, hO⟩ : ∃ b : Bool, b = (if k = 30 then decide (20 ≤ a6) && decide (a6 ≤ 22) else if k = 31 then decide (1 ≤ a6) && decide (a6 ≤ 19) else a6 == 0) := ⟨_, rfl⟩
  obtain ⟨bV, hV⟩ : ∃ b : Bool, b = (if k = 20 then decide (0 ≤ a7) else a7 == 0) := ⟨_, rfl⟩
  obtain ⟨bT, hT⟩ : ∃ b : Bool, b = (a5 == 0 || (Tm.isE k && decide (0 < a5) && decide (a5 ≤ 3))) := ⟨_, rfl⟩
  obtain ⟨bC, hCl⟩ : ∃ b : Bool, b = (a3 == 0 || k == 1) := ⟨_, rfl⟩
  have hF : Tm.fields ⟨k, a1, a2, a3, a4, a5, a6, a7, nm, ks⟩ = (bW && bN && bD && bO && bV && bT && bC) := by
    rw [hW, hN, hD, hO, hV, hT, hCl]; rfl
  have HF := Lib.hid hF
  have HW := Lib.hid hW
  have HN := Lib.hid hN
  have HD := Lib.hid hD
  have HO := Lib.hid hO
  have HV := Lib.hid hV
  have HT := Lib.hid hT
  have HCl := Lib.hid hCl
  have h0 : Fr w (w.alloc (.cells C.toArray 45)) ∧ Blk (w.alloc (.cells C.toArray 45)) w.heap.size 45 C := ⟨(Ch.refl _ _).alloc _, Blk.new w _ _⟩
  have HC := Lib.hid hC
  have nx : ∀ wa wb : World, Fr w wa ∧ Blk wa w.heap.size 45 C → Fr wa wb → Fr w wb ∧ Blk wb w.heap.size 45 C := fun _ _ h1 h2 => ⟨h1.1.trans h2, h1.2.ch h2 id⟩
  have NX := Lib.hid nx
  have post : ∀ (b : Bool) (wx : World), Fr w wx → b = (bW && bN && bD && bO && bV && bT && bC) → (Ending.returned (.bool b) = Ending.returned (.bool (Tm.fields ⟨k, a1, a2, a3, a4, a5, a6, a7, nm, ks⟩)) ∧ Fr w wx) := fun b wx h1 h2 => ⟨by rw [h2, HF.out], h1⟩
  have PO := Lib.hid post
  rw [hC] at h0
  have h00 := h0
  rw [← hC] at h00
  clear hF hW hN hD hO hV hT hCl nx post hC
  unfold ndV
  dsimp only
  go_enter Tryd.func36, Tryd.ntmps36
  go_upto_region 1 with fail
  generalize Value.agg _ = ag
  have H0 : Hid (Fr w _ ∧ Blk _ w.heap.size 45 _) := Lib.hid h0
  clear h0 h00
  generalize World.alloc w _ = W at H0 ⊢
  have H0 : Hid (Fr w W ∧ Blk W w.heap.size 45 C) := Lib.hid (by have := H0.out; rw [← HC.out] at this; exact this)
  have c0 : W.cell? ⟨w.heap.size, 0, none⟩ = some (.int .i64 k) := by rw [H0.out.2.cell, HC.out]; rfl
  have c2 : W.cell? ⟨w.heap.size, 2, none⟩ = some (.int .i64 a2) := by rw [H0.out.2.cell, HC.out]; rfl
  go_cut [3] (fun v3 wx => v3 = .bool bW ∧ Fr w wx ∧ Blk wx w.heap.size 45 C)
  case first =>
    go_wp2_with (first | (go_at_call 55; refine (named_c _ _).mono ?_; rintro e w' ⟨rfl, rfl⟩))
    all_goals go_meet
    all_goals (case rel => exact ⟨by rw [HW.out]; simp [*], H0.out⟩)
  case rest =>
  obtain ⟨rfl, hcut⟩ := hcut
  have H1 := Lib.hid hcut
  clear c0 c2 H0 hcut
  have c0 : wc.cell? ⟨w.heap.size, 0, none⟩ = some (.int .i64 k) := by rw [H1.out.2.cell, HC.out]; rfl
  have c8 : wc.cell? ⟨w.heap.size, 8, none⟩ = some (.string nm) := by rw [H1.out.2.cell, HC.out]; rfl
  go_upto_if 27 with (first | (go_at_call 55; refine (named_c _ _).mono ?_; rintro e w' ⟨rfl, rfl⟩))
  go_cut [4] (fun v4 wx => v4 = .bool bN ∧ Fr w wx ∧ Blk wx w.heap.size 45 C)
  case first =>
    cases hnm : Tm.named k with
    | true =>
      go_wp2_with fail
      refine (isName_t _ hs _).mono ?_
      rintro e w2 ⟨rfl, hf⟩
      have H2 := Lib.hid (NX.out _ _ H1.out hf)
      clear hf
      go_wp2_with fail
      go_meet
      case rel => exact ⟨by rw [HN.out, hnm]; rfl, H2.out⟩
    | false =>
      go_wp2_with fail
      go_meet
      case rel => exact ⟨by rw [HN.out, hnm, ByteArray.toList_eq]; rfl, H1.out⟩
  case rest =>
  obtain ⟨rfl, hcut⟩ := hcut
  have H2 := Lib.hid hcut
  clear c0 c8 H1 hcut
  have c4 : wc.cell? ⟨w.heap.size, 4, none⟩ = some (.int .i64 a4) := by rw [H2.out.2.cell, HC.out]; rfl
  have c6 : wc.cell? ⟨w.heap.size, 6, none⟩ = some (.int .i64 a6) := by rw [H2.out.2.cell, HC.out]; rfl
  have c7 : wc.cell? ⟨w.heap.size, 7, none⟩ = some (.int .i64 a7) := by rw [H2.out.2.cell, HC.out]; rfl
  go_wp2_with fail
  go_quiet (fail)
  have H3 := Lib.hid (NX.out _ _ H2.out ((Ch.refl _ _).drewN nq))
  generalize World.drewN wc nq = W3 at H3 ⊢
  clear c4 c6 c7 H2
  have c0 : W3.cell? ⟨w.heap.size, 0, none⟩ = some (.int .i64 k) := by rw [H3.out.2.cell, HC.out]; rfl
  have c4 : W3.cell? ⟨w.heap.size, 4, none⟩ = some (.int .i64 a4) := by rw [H3.out.2.cell, HC.out]; rfl
  have c6 : W3.cell? ⟨w.heap.size, 6, none⟩ = some (.int .i64 a6) := by rw [H3.out.2.cell, HC.out]; rfl
  have c7 : W3.cell? ⟨w.heap.size, 7, none⟩ = some (.int .i64 a7) := by rw [H3.out.2.cell, HC.out]; rfl
  go_upto_region 6 with fail
  go_cut [41] (fun v wx => v = .int .i64 k ∧ wx = W3)
  case first =>
    go_wp2_with fail
    go_meet
    case rel => exact ⟨rfl, rfl⟩
  case rest =>
  obtain ⟨rfl, rfl⟩ := hcut
  apply_assumption
  go_cut [5, 6, 7] (fun v5 v6 v7 wx => v5 = .bool bD ∧ v6 = .bool bO ∧ v7 = .bool bV ∧ wx = wc)
  case first =>
    by_cases e1 : k = 1
    · subst e1
      go_wp2_with fail
      all_goals go_meet
      all_goals (case rel => exact ⟨by rw [HD.out]; simp [*] <;> omega, by rw [HO.out]; simp [*] <;> omega, by rw [HV.out]; simp [*] <;> omega, rfl⟩)
    by_cases e2 : k = 2
    · subst e2
      go_wp2_with fail
      all_goals go_meet
      all_goals (case rel => exact ⟨by rw [HD.out]; simp [*] <;> omega, by rw [HO.out]; simp [*] <;> omega, by rw [HV.out]; simp [*] <;> omega, rfl⟩)
    by_cases e4 : k = 4
    · subst e4
      go_wp2_with fail
      all_goals go_meet
      all_goals (case rel => exact ⟨by rw [HD.out]; simp [*] <;> omega, by rw [HO.out]; simp [*] <;> omega, by rw [HV.out]; simp [*] <;> omega, rfl⟩)
    by_cases e20 : k = 20
    · subst e20
      go_wp2_with fail
      all_goals go_meet
      all_goals (case rel => exact ⟨by rw [HD.out]; simp [*] <;> omega, by rw [HO.out]; simp [*] <;> omega, by rw [HV.out]; simp [*] <;> omega, rfl⟩)
    by_cases e30 : k = 30
    · subst e30
      go_wp2_with fail
      all_goals go_meet
      all_goals (case rel => exact ⟨by rw [HD.out]; simp [*] <;> omega, by rw [HO.out]; simp [*] <;> omega, by rw [HV.out]; simp [*] <;> omega, rfl⟩)
    by_cases e31 : k = 31
    · subst e31
      go_wp2_with fail
      all_goals go_meet
      all_goals (case rel => exact ⟨by rw [HD.out]; simp [*] <;> omega, by rw [HO.out]; simp [*] <;> omega, by rw [HV.out]; simp [*] <;> omega, rfl⟩)
    have n1 : (k == 1) = false := beq_eq_false_iff_ne.2 e1
    have n2 : (k == 2) = false := beq_eq_false_iff_ne.2 e2
    have n4 : (k == 4) = false := beq_eq_false_iff_ne.2 e4
    have n20 : (k == 20) = false := beq_eq_false_iff_ne.2 e20
    have n30 : (k == 30) = false := beq_eq_false_iff_ne.2 e30
    have n31 : (k == 31) = false := beq_eq_false_iff_ne.2 e31
    go_wp2_with fail
    go_meet
    case rel => exact ⟨by rw [HD.out]; simp [*] <;> omega, by rw [HO.out]; simp [*] <;> omega, by rw [HV.out]; simp [*] <;> omega, rfl⟩
  case rest =>
  obtain ⟨rfl, rfl, rfl, rfl⟩ := hcut
  clear c4 c6 c7
  have c3 : wc.cell? ⟨w.heap.size, 3, none⟩ = some (.int .i64 a3) := by rw [H3.out.2.cell, HC.out]; rfl
  have c5 : wc.cell? ⟨w.heap.size, 5, none⟩ = some (.int .i64 a5) := by rw [H3.out.2.cell, HC.out]; rfl
  go_upto_region 18 with fail
  go_cut [8] (fun v8 wx => v8 = .bool bT ∧ wx = wc)
  case first =>
    go_wp2_with (first | (go_at_call 57; refine (isE_c _ _).mono ?_; rintro e w' ⟨rfl, rfl⟩))
    all_goals go_meet
    all_goals (case rel => exact ⟨by rw [HT.out]; simp [*] <;> omega, rfl⟩)
  case rest =>
  obtain ⟨rfl, rfl⟩ := hcut
  go_wp2_with fail
  all_goals (go_ret; refine ⟨?_, H3.out.1⟩; rw [HF.out]; simp [*, HCl.out])
end Go.Proofs.YtllahgnpjodgmaaDoor
