/- quernref3.fields. -/
import Derived.Test.YtllahgnpjodgmaaDoorTA
import Derived.Test.YtllahgnpjodgmaaDoorRn
import Derived.Deep.DeepCutAuto
set_option linter.unusedVariables false
namespace Go.Proofs.YtllahgnpjodgmaaDoor
open Go Go.RowKit Mem Pm

theorem rfields_law (k a4 a5 a6 : Int) :
    (true && true && (if k = 1 then decide (0 ≤ a4) && decide (a4 ≤ 3) else if k = 2 ∨ k = 4 then decide (1 ≤ a4) && decide (a4 ≤ 3) else a4 == 0) &&
      (if k = 30 then decide (20 ≤ a6) && decide (a6 ≤ 22) else if k = 31 then decide (1 ≤ a6) && decide (a6 ≤ 19) else a6 == 0) && true &&
      (a5 == 0 || (Tm.isE k && decide (0 < a5) && decide (a5 ≤ 3))) && true) =
    (!(decide (a4 < (if (k == 2 || k == 4) = true then (1 : Int) else 0)) || decide ((if (k == 1 || k == 2 || k == 4) = true then (3 : Int) else 0) < a4) || decide (a5 < 0) || decide (3 < a5) || (a5 != 0 && !Tm.isE k)) &&
      (if k = 30 then (a6 == 20 || a6 == 21 || a6 == 22) else if k = 31 then (decide (1 ≤ a6) && decide (a6 ≤ 19)) else a6 == 0)) := by
  have hT : ∀ e : Bool, (a5 == 0 || (e && decide (0 < a5) && decide (a5 ≤ 3))) = (!(decide (a5 < 0) || decide (3 < a5) || (a5 != 0 && !e))) := by
    intro e
    by_cases h0 : a5 = 0
    · subst h0; cases e <;> rfl
    · have h1 : (a5 == 0) = false := beq_eq_false_iff_ne.2 h0
      have h2 : (a5 != 0) = true := bne_iff_ne.2 h0
      rw [h1, h2]
      cases e
      · cases decide (a5 < 0) <;> cases decide (3 < a5) <;> rfl
      · by_cases h3 : a5 < 0
        · simp [h3]; omega
        · by_cases h4 : 3 < a5
          · simp [h4]
          · simp [h3, h4]; omega
  have hD : (if k = 1 then decide (0 ≤ a4) && decide (a4 ≤ 3) else if k = 2 ∨ k = 4 then decide (1 ≤ a4) && decide (a4 ≤ 3) else a4 == 0) =
      (!(decide (a4 < (if (k == 2 || k == 4) = true then (1 : Int) else 0)) || decide ((if (k == 1 || k == 2 || k == 4) = true then (3 : Int) else 0) < a4))) := by
    by_cases e1 : k = 1
    · subst e1
      rw [Bool.eq_iff_iff]; simp
    · by_cases e2 : k = 2 ∨ k = 4
      · rw [if_neg e1, if_pos e2]
        have h1 : (k == 2 || k == 4) = true := by simpa using e2
        have h2 : (k == 1 || k == 2 || k == 4) = true := by rw [Bool.or_assoc, h1]; simp
        rw [if_pos h1, if_pos h2, Bool.eq_iff_iff]; simp
      · rw [if_neg e1, if_neg e2]
        have h1 : (k == 2 || k == 4) = false := by simpa using e2
        have h2 : (k == 1 || k == 2 || k == 4) = false := by rw [Bool.or_assoc, h1]; simpa using e1
        rw [if_neg (by rw [h1]; simp), if_neg (by rw [h2]; simp), Bool.eq_iff_iff]; simp; omega
  have hO : (if k = 30 then decide (20 ≤ a6) && decide (a6 ≤ 22) else if k = 31 then decide (1 ≤ a6) && decide (a6 ≤ 19) else a6 == 0) =
      (if k = 30 then (a6 == 20 || a6 == 21 || a6 == 22) else if k = 31 then (decide (1 ≤ a6) && decide (a6 ≤ 19)) else a6 == 0) := by
    by_cases e : k = 30
    · rw [if_pos e, if_pos e, Bool.eq_iff_iff]; simp; omega
    · rw [if_neg e, if_neg e]
  rw [hT, hD, hO]
  generalize (if k = 30 then (a6 == 20 || a6 == 21 || a6 == 22) else if k = 31 then (decide (1 ≤ a6) && decide (a6 ≤ 19)) else a6 == 0) = x
  generalize decide (a4 < (if (k == 2 || k == 4) = true then (1 : Int) else 0)) = y
  generalize decide ((if (k == 1 || k == 2 || k == 4) = true then (3 : Int) else 0) < a4) = z
  generalize decide (a5 < 0) = u
  generalize decide (3 < a5) = v
  generalize (a5 != 0 && !Tm.isE k) = s
  revert x y z u v s
  decide

set_option maxRecDepth 100000 in
set_option maxHeartbeats 16000000 in
theorem rFields_c (n : Nd) (kv : Value) (hs : n.name.size ≤ 9223372036854775807) (w : World) : Calls Tryd.prog 41 #[ndV n kv] w fun e w' => e = .returned (.bool (Tm.fields n)) ∧ Fr w w' := by
  obtain ⟨k, a1, a2, a3, a4, a5, a6, a7, nm, ks⟩ := n
  dsimp only at hs
  obtain ⟨C, hC⟩ : ∃ C : List Value, C = [.int .i64 k, .int .i64 a1, .int .i64 a2, .int .i64 a3, .int .i64 a4, .int .i64 a5, .int .i64 a6, .int .i64 a7, .string nm, kv] := ⟨_, rfl⟩
  obtain ⟨bW, hW⟩ : ∃ b : Bool, b = (a2 == 0 || Tm.named k || k == 31) := ⟨_, rfl⟩
  obtain ⟨bN, hN⟩ : ∃ b : Bool, b = (if Tm.named k then isNm nm.data.toList else nm.data.toList.isEmpty) := ⟨_, rfl⟩
  obtain ⟨bD, hD⟩ : ∃ b : Bool, b = (if k = 1 then decide (0 ≤ a4) && decide (a4 ≤ 3) else if k = 2 ∨ k = 4 then decide (1 ≤ a4) && decide (a4 ≤ 3) else a4 == 0) := ⟨_, rfl⟩
  obtain ⟨bO, hO⟩ : ∃ b : Bool, b = (if k = 30 then decide (20 ≤ a6) && decide (a6 ≤ 22) else if k = 31 then decide (1 ≤ a6) && decide (a6 ≤ 19) else a6 == 0) := ⟨_, rfl⟩
  obtain ⟨bV, hV⟩ : ∃ b : Bool, b = (if k = 20 then decide (0 ≤ a7) else a7 == 0) := ⟨_, rfl⟩
  obtain ⟨bT, hT⟩ : ∃ b : Bool, b = (a5 == 0 || (Tm.isE k && decide (0 < a5) && decide (a5 ≤ 3))) := ⟨_, rfl⟩
  obtain ⟨bC, hCl⟩ : ∃ b : Bool, b = (a3 == 0 || k == 1) := ⟨_, rfl⟩
  have hF : Tm.fields ⟨k, a1, a2, a3, a4, a5, a6, a7, nm, ks⟩ = (bW && bN && bD && bO && bV && bT && bC) := by
    rw [hW, hN, hD, hO, hV, hT, hCl]; rfl
  generalize Tm.fields ⟨k, a1, a2, a3, a4, a5, a6, a7, nm, ks⟩ = RR at hF ⊢
  obtain ⟨B1, hB1⟩ : ∃ b : Bool, b = (!Tm.named k && (!nm.data.toList.isEmpty || (a2 != 0 && k != 31))) := ⟨_, rfl⟩
  obtain ⟨B2, hB2⟩ : ∃ b : Bool, b = ((a3 != 0 && k != 1) || (a7 != 0 && k != 20) || decide (a7 < 0)) := ⟨_, rfl⟩
  have g1 : B1 = true → (bW && bN) = false := by
    rw [hB1, hW, hN]
    cases Tm.named k <;> cases nm.data.toList.isEmpty <;> simp
  have g2 : B1 = false → bW = true ∧ (Tm.named k = false → bN = true) := by
    rw [hB1, hW, hN]
    cases Tm.named k <;> cases nm.data.toList.isEmpty <;> simp
    intro h
    by_cases h0 : a2 = 0
    · exact .inl h0
    · exact .inr (h h0)
  have g3 : Tm.named k = true → bN = isNm nm.data.toList := by rw [hN]; intro h; rw [h]; rfl
  have g4 : B2 = true → (bV && bC) = false := by
    rw [hB2, hV, hCl]
    by_cases e20 : k = 20
    · subst e20
      simp
      intro h h2
      omega
    · simp [e20]
      omega
  have g5 : B2 = false → bV = true ∧ bC = true := by
    rw [hB2, hV, hCl]
    by_cases e20 : k = 20
    · subst e20
      simp
      omega
    · simp [e20]
      omega
  have HF := Lib.hid hF
  have HD := Lib.hid hD
  have HO := Lib.hid hO
  have HT := Lib.hid hT
  have HB1 := Lib.hid hB1
  have HB2 := Lib.hid hB2
  have G1 := Lib.hid g1
  have G2 := Lib.hid g2
  have G3 := Lib.hid g3
  have G4 := Lib.hid g4
  have G5 := Lib.hid g5
  have h0 : Fr w (w.alloc (.cells C.toArray 45)) ∧ Blk (w.alloc (.cells C.toArray 45)) w.heap.size 45 C := ⟨(Ch.refl _ _).alloc _, Blk.new w _ _⟩
  have HC := Lib.hid hC
  have nx : ∀ wa wb : World, Fr w wa ∧ Blk wa w.heap.size 45 C → Fr wa wb → Fr w wb ∧ Blk wb w.heap.size 45 C := fun _ _ h1 h2 => ⟨h1.1.trans h2, h1.2.ch h2 id⟩
  have NX := Lib.hid nx
  rw [hC] at h0
  clear hF hW hN hD hO hV hT hCl nx hC hB1 hB2 g1 g2 g3 g4 g5
  unfold ndV
  dsimp only
  go_enter Tryd.func41, Tryd.ntmps41
  go_upto_region 1 with fail
  generalize Value.agg _ = ag
  have H0 : Hid (Fr w _ ∧ Blk _ w.heap.size 45 _) := Lib.hid h0
  clear h0
  generalize World.alloc w _ = W at H0 ⊢
  have H0 : Hid (Fr w W ∧ Blk W w.heap.size 45 C) := Lib.hid (by have := H0.out; rw [← HC.out] at this; exact this)
  have c0 : W.cell? ⟨w.heap.size, 0, none⟩ = some (.int .i64 k) := by rw [H0.out.2.cell, HC.out]; rfl
  have c2 : W.cell? ⟨w.heap.size, 2, none⟩ = some (.int .i64 a2) := by rw [H0.out.2.cell, HC.out]; rfl
  have c8 : W.cell? ⟨w.heap.size, 8, none⟩ = some (.string nm) := by rw [H0.out.2.cell, HC.out]; rfl
  go_cut [24] (fun v24 wx => v24 = .bool B1 ∧ wx = W)
  case first =>
    as_aux_lemma =>
      cases hnk : Tm.named k with
      | true =>
        go_wp2_with (first | (go_at_call 66; refine (rNamed_c _ _).mono ?_; rintro e w' ⟨rfl, rfl⟩))
        go_meet
        case rel => exact ⟨by rw [HB1.out, hnk]; rfl, rfl⟩
      | false =>
        cases he : nm.toList.isEmpty with
        | false =>
          go_wp2_with (first | (go_at_call 66; refine (rNamed_c _ _).mono ?_; rintro e w' ⟨rfl, rfl⟩))
          go_meet
          case rel => exact ⟨by rw [HB1.out, hnk, ← ByteArray.toList_eq, he]; rfl, rfl⟩
        | true =>
          have q0 : (a2 != 0) = !(a2 == 0) := rfl
          cases h2 : a2 == 0 with
          | true =>
            rw [h2] at q0
            go_wp2_with (first | (go_at_call 66; refine (rNamed_c _ _).mono ?_; rintro e w' ⟨rfl, rfl⟩))
            go_meet
            case rel => exact ⟨by rw [HB1.out, hnk, ← ByteArray.toList_eq, he, q0]; rfl, rfl⟩
          | false =>
            rw [h2] at q0
            go_wp2_with (first | (go_at_call 66; refine (rNamed_c _ _).mono ?_; rintro e w' ⟨rfl, rfl⟩))
            go_meet
            case rel => exact ⟨by rw [HB1.out, hnk, ← ByteArray.toList_eq, he, q0]; rfl, rfl⟩
  case rest =>
  obtain ⟨rfl, rfl⟩ := hcut
  cases B1 with
  | true =>
    have hf : RR = false := by rw [HF.out, G1.out (by first | rfl | trivial)]; rfl
    have HFf := Lib.hid hf
    clear hf
    go_wp2_with fail
    go_ret
    exact ⟨by rw [HFf.out]; rfl, H0.out.1⟩
  | false =>
  go_upto_if 27 with (first | (go_at_call 66; refine (rNamed_c _ _).mono ?_; rintro e w' ⟨rfl, rfl⟩))
  go_cut [] (fun wx => bN = true ∧ Fr w wx ∧ Blk wx w.heap.size 45 C)
  case first =>
    as_aux_lemma =>
      cases hnk : Tm.named k with
      | true =>
        go_wp2_with fail
        refine (refIsName_c nm hs _).mono ?_
        rintro e w2 ⟨rfl, hf2⟩
        have H2 := Lib.hid (NX.out _ _ H0.out hf2)
        clear hf2
        cases hi : isNm nm.data.toList with
        | true =>
          go_wp2_with fail
          go_meet
          case rel => exact ⟨by rw [G3.out hnk, hi], H2.out⟩
        | false =>
          have hf : RR = false := by rw [HF.out, G3.out hnk, hi]; simp
          have HFf := Lib.hid hf
          clear hf
          go_wp2_with fail
          go_ret
          exact ⟨by rw [HFf.out]; rfl, H2.out.1⟩
      | false =>
        go_wp2_with fail
        go_meet
        case rel => exact ⟨(G2.out (by first | rfl | trivial)).2 hnk, H0.out⟩
  case rest =>
  obtain ⟨hbN, hcut⟩ := hcut
  have H2 := Lib.hid hcut
  clear hcut c0 c2 c8
  have c0 : wc.cell? ⟨w.heap.size, 0, none⟩ = some (.int .i64 k) := by rw [H2.out.2.cell, HC.out]; rfl
  have c2 : wc.cell? ⟨w.heap.size, 2, none⟩ = some (.int .i64 a2) := by rw [H2.out.2.cell, HC.out]; rfl
  have c3 : wc.cell? ⟨w.heap.size, 3, none⟩ = some (.int .i64 a3) := by rw [H2.out.2.cell, HC.out]; rfl
  have c4 : wc.cell? ⟨w.heap.size, 4, none⟩ = some (.int .i64 a4) := by rw [H2.out.2.cell, HC.out]; rfl
  have c5 : wc.cell? ⟨w.heap.size, 5, none⟩ = some (.int .i64 a5) := by rw [H2.out.2.cell, HC.out]; rfl
  have c6 : wc.cell? ⟨w.heap.size, 6, none⟩ = some (.int .i64 a6) := by rw [H2.out.2.cell, HC.out]; rfl
  have c7 : wc.cell? ⟨w.heap.size, 7, none⟩ = some (.int .i64 a7) := by rw [H2.out.2.cell, HC.out]; rfl
  go_upto_region 7 with fail
  go_cut [55] (fun v55 wx => v55 = .bool B2 ∧ wx = wc)
  case first =>
    as_aux_lemma =>
      cases q3 : (a3 != 0) with
      | false =>
        cases q7 : (a7 != 0) with
        | false =>
          cases q9 : decide (a7 < 0) with
          | true =>
            go_wp2_with fail
            go_meet
            case rel => exact ⟨by rw [HB2.out, q3, q7, q9]; rfl, rfl⟩
          | false =>
            go_wp2_with fail
            go_meet
            case rel => exact ⟨by rw [HB2.out, q3, q7, q9]; rfl, rfl⟩
        | true =>
          cases q20 : (k != 20) with
          | true =>
            go_wp2_with fail
            go_meet
            case rel => exact ⟨by rw [HB2.out, q3, q7, q20]; rfl, rfl⟩
          | false =>
            cases q9 : decide (a7 < 0) with
            | true =>
              go_wp2_with fail
              go_meet
              case rel => exact ⟨by rw [HB2.out, q3, q7, q20, q9]; rfl, rfl⟩
            | false =>
              go_wp2_with fail
              go_meet
              case rel => exact ⟨by rw [HB2.out, q3, q7, q20, q9]; rfl, rfl⟩
      | true =>
        cases q1 : (k != 1) with
        | true =>
          go_wp2_with fail
          go_meet
          case rel => exact ⟨by rw [HB2.out, q3, q1]; rfl, rfl⟩
        | false =>
          cases q7 : (a7 != 0) with
          | false =>
            cases q9 : decide (a7 < 0) with
            | true =>
              go_wp2_with fail
              go_meet
              case rel => exact ⟨by rw [HB2.out, q3, q1, q7, q9]; rfl, rfl⟩
            | false =>
              go_wp2_with fail
              go_meet
              case rel => exact ⟨by rw [HB2.out, q3, q1, q7, q9]; rfl, rfl⟩
          | true =>
            cases q20 : (k != 20) with
            | true =>
              go_wp2_with fail
              go_meet
              case rel => exact ⟨by rw [HB2.out, q3, q1, q7, q20]; rfl, rfl⟩
            | false =>
              cases q9 : decide (a7 < 0) with
              | true =>
                go_wp2_with fail
                go_meet
                case rel => exact ⟨by rw [HB2.out, q3, q1, q7, q20, q9]; rfl, rfl⟩
              | false =>
                go_wp2_with fail
                go_meet
                case rel => exact ⟨by rw [HB2.out, q3, q1, q7, q20, q9]; rfl, rfl⟩
  case rest =>
  obtain ⟨rfl, rfl⟩ := hcut
  cases B2 with
  | true =>
    have hf : RR = false := by
      rw [HF.out]
      have := G4.out (by first | rfl | trivial)
      revert this
      cases bV <;> cases bC <;> simp
    have HFf := Lib.hid hf
    clear hf
    go_wp2_with fail
    go_ret
    exact ⟨by rw [HFf.out]; rfl, H2.out.1⟩
  | false =>
  obtain ⟨b68, h68⟩ : ∃ b : Bool, b = (k == 1 || k == 2 || k == 4) := ⟨_, rfl⟩
  obtain ⟨b76, h76⟩ : ∃ b : Bool, b = (k == 2 || k == 4) := ⟨_, rfl⟩
  obtain ⟨M, hM⟩ : ∃ M : Int, M = if b68 then 3 else 0 := ⟨_, rfl⟩
  obtain ⟨L, hL⟩ : ∃ L : Int, L = if b76 then 1 else 0 := ⟨_, rfl⟩
  obtain ⟨B3, hB3⟩ : ∃ B : Bool, B = (decide (a4 < L) || decide (M < a4) || decide (a5 < 0) || decide (3 < a5) || (a5 != 0 && !Tm.isE k)) := ⟨_, rfl⟩
  obtain ⟨B4, hB4⟩ : ∃ B : Bool, B = if k = 30 then (a6 == 20 || a6 == 21 || a6 == 22) else if k = 31 then (decide (1 ≤ a6) && decide (a6 ≤ 19)) else a6 == 0 := ⟨_, rfl⟩
  have hfin : RR = (!B3 && B4) := by
    rw [HF.out, hbN, (G2.out (by first | rfl | trivial)).1, (G5.out (by first | rfl | trivial)).1, (G5.out (by first | rfl | trivial)).2, HD.out, HO.out, HT.out, hB3, hB4, hM, hL, h68, h76]
    exact rfields_law k a4 a5 a6
  have HFin := Lib.hid hfin
  have H68 := Lib.hid h68
  have H76 := Lib.hid h76
  have HM := Lib.hid hM
  have HL := Lib.hid hL
  have HB3 := Lib.hid hB3
  have HB4 := Lib.hid hB4
  have hLM : 0 ≤ L ∧ L ≤ 1 ∧ 0 ≤ M ∧ M ≤ 3 := by
    rw [hL, hM]; cases b68 <;> cases b76 <;> decide
  have HLM := Lib.hid hLM
  clear hfin h68 h76 hM hL hB3 hB4 hLM
  clear G1 G2 G3 G4 G5 HF HB1 HB2 HD HO HT
  clear c2 c3 c7
  go_upto_region 11 with fail
  go_cut [68] (fun v68 wx => v68 = .bool b68 ∧ wx = wc)
  case first =>
    as_aux_lemma =>
      cases q1 : (k == 1) with
      | true =>
        go_wp2_with fail
        go_meet
        case rel => exact ⟨by rw [H68.out, q1]; rfl, rfl⟩
      | false =>
        cases q2 : (k == 2) with
        | true =>
          go_wp2_with fail
          go_meet
          case rel => exact ⟨by rw [H68.out, q1, q2]; rfl, rfl⟩
        | false =>
          cases q4 : (k == 4) with
          | true =>
            go_wp2_with fail
            go_meet
            case rel => exact ⟨by rw [H68.out, q1, q2, q4]; rfl, rfl⟩
          | false =>
            go_wp2_with fail
            go_meet
            case rel => exact ⟨by rw [H68.out, q1, q2, q4]; rfl, rfl⟩
  case rest =>
  obtain ⟨rfl, rfl⟩ := hcut
  go_upto_if 68 with fail
  go_cut [5] (fun v5 wx => v5 = .int .i64 M ∧ wx = wc)
  case first =>
    as_aux_lemma =>
      cases b68 with
      | true =>
        go_wp2_with fail
        go_meet
        case rel => exact ⟨by rw [HM.out]; rfl, rfl⟩
      | false =>
        go_wp2_with fail
        go_meet
        case rel => exact ⟨by rw [HM.out]; rfl, rfl⟩
  case rest =>
  obtain ⟨rfl, rfl⟩ := hcut
  go_upto_region 13 with fail
  go_cut [76] (fun v76 wx => v76 = .bool b76 ∧ wx = wc)
  case first =>
    as_aux_lemma =>
      cases q2 : (k == 2) with
      | true =>
        go_wp2_with fail
        go_meet
        case rel => exact ⟨by rw [H76.out, q2]; rfl, rfl⟩
      | false =>
        cases q4 : (k == 4) with
        | true =>
          go_wp2_with fail
          go_meet
          case rel => exact ⟨by rw [H76.out, q2, q4]; rfl, rfl⟩
        | false =>
          go_wp2_with fail
          go_meet
          case rel => exact ⟨by rw [H76.out, q2, q4]; rfl, rfl⟩
  case rest =>
  obtain ⟨rfl, rfl⟩ := hcut
  go_upto_if 76 with fail
  go_cut [4] (fun v4 wx => v4 = .int .i64 L ∧ wx = wc)
  case first =>
    as_aux_lemma =>
      cases b76 with
      | true =>
        go_wp2_with fail
        go_meet
        case rel => exact ⟨by rw [HL.out]; rfl, rfl⟩
      | false =>
        go_wp2_with fail
        go_meet
        case rel => exact ⟨by rw [HL.out]; rfl, rfl⟩
  case rest =>
  obtain ⟨rfl, rfl⟩ := hcut
  go_upto_region 15 with fail
  go_cut [107] (fun v107 wx => v107 = .bool B3 ∧ wx = wc)
  case first =>
    as_aux_lemma =>
      cases q1 : decide (a4 < L) with
      | true =>
        go_wp2_with fail
        go_meet
        case rel => exact ⟨by rw [HB3.out, q1]; rfl, rfl⟩
      | false =>
        cases q2 : decide (M < a4) with
        | true =>
          go_wp2_with fail
          go_meet
          case rel => exact ⟨by rw [HB3.out, q1, q2]; rfl, rfl⟩
        | false =>
          cases q3 : decide (a5 < 0) with
          | true =>
            go_wp2_with fail
            go_meet
            case rel => exact ⟨by rw [HB3.out, q1, q2, q3]; rfl, rfl⟩
          | false =>
            cases q4 : decide (3 < a5) with
            | true =>
              go_wp2_with fail
              go_meet
              case rel => exact ⟨by rw [HB3.out, q1, q2, q3, q4]; rfl, rfl⟩
            | false =>
              cases q5 : (a5 != 0) with
              | false =>
                go_wp2_with fail
                go_meet
                case rel => exact ⟨by rw [HB3.out, q1, q2, q3, q4, q5]; rfl, rfl⟩
              | true =>
                cases hE : Tm.isE k with
                | true =>
                  go_wp2_with (first | (go_at_call 68; refine (rExpr_c _ _).mono ?_; rintro e w' ⟨rfl, rfl⟩))
                  go_meet
                  case rel => exact ⟨by rw [HB3.out, q1, q2, q3, q4, q5, hE]; rfl, rfl⟩
                | false =>
                  go_wp2_with (first | (go_at_call 68; refine (rExpr_c _ _).mono ?_; rintro e w' ⟨rfl, rfl⟩))
                  go_meet
                  case rel => exact ⟨by rw [HB3.out, q1, q2, q3, q4, q5, hE]; rfl, rfl⟩
  case rest =>
  obtain ⟨rfl, rfl⟩ := hcut
  clear c4 c5
  cases B3 with
  | true =>
    have HR : Hid (RR = false) := Lib.hid (by rw [HFin.out]; rfl)
    go_wp2_with fail
    go_ret
    exact ⟨by rw [HR.out]; rfl, H2.out.1⟩
  | false =>
  have HR : Hid (RR = B4) := Lib.hid (by rw [HFin.out]; cases B4 <;> rfl)
  clear HFin
  cases e30 : (k == 30) with
  | true =>
    have HV : Hid (B4 = (a6 == 20 || a6 == 21 || a6 == 22)) := Lib.hid (by rw [HB4.out, if_pos (beq_iff_eq.1 e30)])
    cases q1 : (a6 == 20) with
    | true =>
      go_wp2_with fail
      go_ret
      exact ⟨by rw [HR.out, HV.out, q1]; rfl, H2.out.1⟩
    | false =>
      cases q2 : (a6 == 21) with
      | true =>
        go_wp2_with fail
        go_ret
        exact ⟨by rw [HR.out, HV.out, q1, q2]; rfl, H2.out.1⟩
      | false =>
        cases q3 : (a6 == 22) with
        | true =>
          go_wp2_with fail
          go_ret
          exact ⟨by rw [HR.out, HV.out, q1, q2, q3]; rfl, H2.out.1⟩
        | false =>
          go_wp2_with fail
          go_ret
          exact ⟨by rw [HR.out, HV.out, q1, q2, q3]; rfl, H2.out.1⟩
  | false =>
  cases e31 : (k == 31) with
  | true =>
    have HV : Hid (B4 = (decide (1 ≤ a6) && decide (a6 ≤ 19))) := Lib.hid (by rw [HB4.out, if_neg (by have := beq_eq_false_iff_ne.1 e30; exact this), if_pos (beq_iff_eq.1 e31)])
    cases q1 : decide (1 ≤ a6) with
    | true =>
      cases q2 : decide (a6 ≤ 19) with
      | true =>
        go_wp2_with fail
        go_ret
        exact ⟨by rw [HR.out, HV.out, q1, q2]; rfl, H2.out.1⟩
      | false =>
        go_wp2_with fail
        go_ret
        exact ⟨by rw [HR.out, HV.out, q1, q2]; rfl, H2.out.1⟩
    | false =>
      go_wp2_with fail
      go_ret
      exact ⟨by rw [HR.out, HV.out, q1]; rfl, H2.out.1⟩
  | false =>
  have HV : Hid (B4 = (a6 == 0)) := Lib.hid (by rw [HB4.out, if_neg (by have := beq_eq_false_iff_ne.1 e30; exact this), if_neg (by have := beq_eq_false_iff_ne.1 e31; exact this)])
  cases q1 : (a6 == 0) with
  | true =>
    go_wp2_with fail
    go_ret
    exact ⟨by rw [HR.out, HV.out, q1]; rfl, H2.out.1⟩
  | false =>
    go_wp2_with fail
    go_ret
    exact ⟨by rw [HR.out, HV.out, q1]; rfl, H2.out.1⟩
end Go.Proofs.YtllahgnpjodgmaaDoor
