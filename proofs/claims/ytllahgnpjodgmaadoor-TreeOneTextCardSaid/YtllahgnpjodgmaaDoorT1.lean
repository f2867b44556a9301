/- tree's small predicates.
tree.isName. -/
import Derived.Test.YtllahgnpjodgmaaDoorBa
import Derived.Test.YtllahgnpjodgmaaDoorTm
import Derived.Deep.QuietTactic
import Derived.BigQuiet
import Derived.Lib.ConvBytes
import Derived.Deep.DeepCutAuto
set_option linter.unusedVariables false
namespace Go.Proofs.YtllahgnpjodgmaaDoor
open Go Go.RowKit Mem Pm

set_option maxRecDepth 100000 in
set_option maxHeartbeats 2000000 in
theorem isE_c (k : Int) (w : World) : Calls Tryd.prog 57 #[.int .i64 k] w fun e w' => e = .returned (.bool (Tm.isE k)) ∧ w = w' := by
  by_cases h : 20 ≤ k
  · have h2 : decide ((20 : Int) ≤ k) = true := decide_eq_true h
    go_enter Tryd.func57, Tryd.ntmps57
    go_wp2_with fail
    go_ret
    exact ⟨by simp [Tm.isE, h], rfl⟩
  · have h2 : decide ((20 : Int) ≤ k) = false := decide_eq_false h
    go_enter Tryd.func57, Tryd.ntmps57
    go_wp2_with fail
    go_ret
    exact ⟨by simp [Tm.isE]; omega, rfl⟩
set_option maxRecDepth 100000 in
set_option maxHeartbeats 2000000 in
theorem isS_c (k : Int) (w : World) : Calls Tryd.prog 47 #[.int .i64 k] w fun e w' => e = .returned (.bool (Tm.isS k)) ∧ w = w' := by
  by_cases h : 3 ≤ k
  · have h2 : decide ((3 : Int) ≤ k) = true := decide_eq_true h
    go_enter Tryd.func47, Tryd.ntmps47
    go_wp2_with fail
    go_ret
    exact ⟨by simp [Tm.isS, h], rfl⟩
  · have h2 : decide ((3 : Int) ≤ k) = false := decide_eq_false h
    go_enter Tryd.func47, Tryd.ntmps47
    go_wp2_with fail
    go_ret
    exact ⟨by simp [Tm.isS]; omega, rfl⟩
set_option maxRecDepth 100000 in
set_option maxHeartbeats 2000000 in
theorem named_c (k : Int) (w : World) : Calls Tryd.prog 55 #[.int .i64 k] w fun e w' => e = .returned (.bool (Tm.named k)) ∧ w = w' := by
  go_enter Tryd.func55, Tryd.ntmps55
  go_wp2_with fail
  all_goals (go_ret; refine ⟨?_, rfl⟩; simp_all [Tm.named])
end Go.Proofs.YtllahgnpjodgmaaDoor

set_option linter.unusedVariables false
namespace Go.Proofs.YtllahgnpjodgmaaDoor
open Go Go.RowKit Mem Pm

theorem fr_bytesWorld (w : World) (e : TypeId) (s : ByteArray) : Fr w (Lib.bytesWorld w e s) :=
  ⟨rfl, rfl, rfl, by rw [Lib.bytesWorld_size]; omega, fun k hk _ => Lib.bytesWorld_at_old w e s k hk⟩
set_option maxRecDepth 100000 in
set_option maxHeartbeats 8000000 in
theorem isName_t (s : ByteArray) (hs : s.size ≤ 9223372036854775807) (w : World) : Calls Tryd.prog 56 #[.string s] w fun e w' => e = .returned (.bool (Pm.isNm s.data.toList)) ∧ Fr w w' := by
  by_cases hem : s.data.toList = []
  · have hz : s.size = 0 := by rw [Lib.size_eq, hem]; rfl
    have hb : ((s.size : Int) == 0) = true := beq_iff_eq.2 (by omega)
    have Hem := Lib.hid hem
    clear hem
    go_enter Tryd.func56, Tryd.ntmps56
    go_wp2_with fail
    go_ret
    exact ⟨by rw [Hem.out]; rfl, Ch.refl _ _⟩
  have h0 : 0 < s.size := by
    rw [Lib.size_eq]
    exact List.length_pos_iff.2 hem
  have h0i : (0 : Int) < (s.size : Int) := by omega
  have hb : ((s.size : Int) == 0) = false := beq_eq_false_iff_ne.2 (by omega)
  have Hne := Lib.hid hem
  clear hem
  by_cases hsz : (64 : Int) < (s.size : Int)
  · have h64 : 64 < s.data.toList.length := by rw [← Lib.size_eq]; omega
    have hf : Pm.isNm s.data.toList = false := by
      cases hl : s.data.toList with
      | nil => rfl
      | cons c r => unfold Pm.isNm; rw [hl] at h64; simp only [decide_eq_false (show ¬ (c :: r).length ≤ 64 by omega), Bool.false_and]
    have Hf := Lib.hid hf
    clear hf h64
    go_enter Tryd.func56, Tryd.ntmps56
    go_wp2_with fail
    go_ret
    exact ⟨by rw [Hf.out]; rfl, Ch.refl _ _⟩
  have h64 : s.data.toList.length ≤ 64 := by rw [← Lib.size_eq]; omega
  have H64 := Lib.hid h64
  clear h64
  have hx0 : s.data.toList[0]? = some s[0] := by simp [h0]; rfl
  have hoc := okc_iff 0 s[0]
  have hno : okc 0 s[0] = false → Pm.isNm s.data.toList = false := isNm_false _ 0 _ hx0
  have Hno := Lib.hid hno
  have Hoc := Lib.hid hoc
  clear hno hoc hx0
  by_cases pd : (48 : Int) ≤ (s[0].toNat : Int) ∧ (s[0].toNat : Int) ≤ 57
  · obtain ⟨p1, p2⟩ := pd
    go_enter Tryd.func56, Tryd.ntmps56
    go_wp2_with fail
    go_ret
    exact ⟨by rw [Hno.out (Bool.eq_false_iff.2 fun h => by have := Hoc.out.1 h; omega)]; rfl, Ch.refl _ _⟩
  have hnd : ¬ ((48 : Int) ≤ (s[0].toNat : Int) ∧ (s[0].toNat : Int) ≤ 57) := pd
  have Hnd := Lib.hid hnd
  clear hnd
  have pd2 : ((48 : Int) ≤ (s[0].toNat : Int) ∧ decide ((s[0].toNat : Int) ≤ 57) = false) ∨ decide ((48 : Int) ≤ (s[0].toNat : Int)) = false := by
    by_cases p1 : (48 : Int) ≤ (s[0].toNat : Int)
    · exact .inl ⟨p1, decide_eq_false fun p2 => pd ⟨p1, p2⟩⟩
    · exact .inr (decide_eq_false p1)
  clear pd
  have kc := Lib.run_convert_string_bytes (P := Tryd.prog) w 9 30 5 s Tryd.underlying9 Tryd.underlying30 Tryd.underlying5
  have hfw := fr_bytesWorld w 5 s
  have hcw : ∀ j (hj : j < s.size), (Lib.bytesWorld w 5 s).cell? ⟨w.heap.size, j, none⟩ = some (.int .u8 (s[j].toNat : Int)) := by
    intro j hj
    rw [Lib.bytesWorld_cell w _ s j hj, List.getD_eq_getElem?_getD, List.getElem?_eq_getElem (by rw [← Lib.size_eq]; exact hj)]
    rfl
  generalize Lib.bytesWorld w 5 s = W1 at kc hfw hcw
  have Hcw := Lib.hid hcw
  have Hfw := Lib.hid hfw
  clear hfw hcw
  go_enter Tryd.func56, Tryd.ntmps56
  go_upto_region 1 with fail
  go_cut [22] (fun v22 wx => v22 = .bool false ∧ wx = w)
  case first =>
    rcases pd2 with ⟨p1, p2⟩ | p1
    · go_wp2_with fail
      go_meet
      case rel => exact ⟨rfl, rfl⟩
    · go_wp2_with fail
      go_meet
      case rel => exact ⟨rfl, rfl⟩
  case rest =>
  obtain ⟨rfl, rfl⟩ := hcut
  go_wp2_with fail
  clear kc pd2
  go_loopg [26] s.size (fun m i wr => W1 = wr ∧ ∃ k : Nat, k + m = s.size ∧ i = .int .i64 (k : Int) ∧ ∀ j c, j < k → s.data.toList[j]? = some c → okc j c = true)
  case atStart => exact ⟨rfl, 0, by omega, rfl, fun j c hj => by omega⟩
  case round =>
  obtain ⟨rfl, k, hk, rfl, hall⟩ := hrel
  have Hall := Lib.hid hall
  clear hall
  by_cases hlt : k < s.size
  case pos =>
    have hki : (k : Int) < (s.size : Int) := by omega
    have hk0 : (0 : Int) ≤ (k : Int) := by omega
    have hkx : s.data.toList[k]? = some s[k] := by simp [hlt]; rfl
    have hgo : okc k s[k] = true → ∀ j c, j < k + 1 → s.data.toList[j]? = some c → okc j c = true := by
      intro h j c hj hc
      by_cases hjk : j = k
      · subst hjk
        rw [hkx] at hc; injection hc with hc; subst hc; exact h
      · exact Hall.out j c (by omega) hc
    have hno : okc k s[k] = false → Pm.isNm s.data.toList = false := isNm_false _ k _ hkx
    have hoc := okc_iff k s[k]
    have h0c : k = 0 → ¬ ((48 : Int) ≤ (s[k].toNat : Int) ∧ (s[k].toNat : Int) ≤ 57) := by intro h; subst h; exact Hnd.out
    have c1 := Hcw.out k hlt
    have Hgo := Lib.hid hgo
    have Hno2 := Lib.hid hno
    have Hoc2 := Lib.hid hoc
    have H0c := Lib.hid h0c
    clear hgo hno hoc h0c hkx
    generalize s[k] = c at c1 Hgo Hno2 Hoc2 H0c
    obtain ⟨z, hz⟩ : ∃ z : Int, z = (c.toNat : Int) := ⟨_, rfl⟩
    rw [← hz] at c1
    have HZ := Lib.hid hz
    clear hz
    rcases (show z < 48 ∨ (48 ≤ z ∧ z ≤ 57) ∨ (58 ≤ z ∧ z ≤ 64) ∨ (65 ≤ z ∧ z ≤ 90) ∨ (91 ≤ z ∧ z ≤ 94) ∨ (95 ≤ z ∧ z ≤ 95) ∨ (96 ≤ z ∧ z ≤ 96) ∨ (97 ≤ z ∧ z ≤ 122) ∨ 123 ≤ z by omega) with p | ⟨p, p'⟩ | ⟨p, p'⟩ | ⟨p, p'⟩ | ⟨p, p'⟩ | ⟨p, p'⟩ | ⟨p, p'⟩ | ⟨p, p'⟩ | p
    all_goals
      first | have d48 : decide (z < 48) = true := decide_eq_true (by omega) | have d48 : decide (z < 48) = false := decide_eq_false (by omega)
      first | have d57 : decide (57 < z) = true := decide_eq_true (by omega) | have d57 : decide (57 < z) = false := decide_eq_false (by omega)
      first | have d65 : decide (z < 65) = true := decide_eq_true (by omega) | have d65 : decide (z < 65) = false := decide_eq_false (by omega)
      first | have d90 : decide (90 < z) = true := decide_eq_true (by omega) | have d90 : decide (90 < z) = false := decide_eq_false (by omega)
      first | have d97 : decide (z < 97) = true := decide_eq_true (by omega) | have d97 : decide (z < 97) = false := decide_eq_false (by omega)
      first | have d122 : decide (122 < z) = true := decide_eq_true (by omega) | have d122 : decide (122 < z) = false := decide_eq_false (by omega)
      first | have d95 : (z != 95) = true := bne_iff_ne.2 (by omega) | have d95 : (z != 95) = false := bne_eq_false_iff_eq.2 (by omega)
      go_wp2_with fail
      first
        | (go_ret; exact ⟨by rw [Hno2.out (Bool.eq_false_iff.2 fun h => by have := Hoc2.out.1 h; have := HZ.out; omega)]; rfl, Hfw.out⟩)
        | (go_roundg (gk - 1)
           case measure => omega
           case rel => exact ⟨rfl, k + 1, by omega, by go_num, fun j hj => Hgo.out (Hoc2.out.2 (by have := H0c.out; have := HZ.out; omega)) j hj⟩)
  case neg =>
    have hki : ¬ (k : Int) < (s.size : Int) := by omega
    have hall : ∀ i c, s.data.toList[i]? = some c → okc i c = true := fun i c h => Hall.out i c (by
      have := (List.getElem?_eq_some_iff.1 h).1; simp at this; have : s.size = s.data.size := rfl; omega) h
    have hnm := isNm_of s.data.toList Hne.out H64.out hall
    rw [← ByteArray.toList_eq] at hnm
    have Hnm := Lib.hid hnm
    clear hall Hall hnm Hno Hoc Hcw Hne H64 Hnd
    go_wp2_with fail
    all_goals
      go_ret
      refine ⟨?_, Hfw.out⟩
      rw [← ByteArray.toList_eq, Hnm.out]
      first
        | (rename_i hA hB; rw [hA] at hB; cases hB; done)
        | (have h := beq_iff_eq.1 ‹(s.toList == _) = true›; rw [h]; rfl)
        | (have h : Pm.words.contains s.toList = false := by
             simp only [Pm.words, List.contains_cons, List.contains_nil, Bool.or_false, Bool.or_eq_false_iff]
             exact ⟨by assumption, by assumption, by assumption, by assumption, by assumption, by assumption, by assumption, by assumption, by assumption, by assumption, by assumption, by assumption, by assumption, by assumption, by assumption, by assumption, by assumption, by assumption⟩
           rw [h]; rfl)
end Go.Proofs.YtllahgnpjodgmaaDoor
