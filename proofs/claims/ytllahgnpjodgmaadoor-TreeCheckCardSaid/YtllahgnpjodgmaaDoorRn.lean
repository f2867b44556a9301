/- quernref2's Letter, Digit, words, IsWord, IsName: what their calls do. -/
import Derived.Test.YtllahgnpjodgmaaDoorBa
import Derived.Test.YtllahgnpjodgmaaDoorReg
set_option linter.unusedVariables false
namespace Go.Proofs.YtllahgnpjodgmaaDoor
open Go Go.RowKit Mem

set_option maxRecDepth 100000 in
set_option maxHeartbeats 4000000 in
theorem letter_c (c : UInt8) (w : World) : Calls Tryd.prog 79 #[.int .u8 (c.toNat : Int)] w fun e w' => e = .returned (.bool (Pm.letter c)) ∧ w = w' := by
  have hl := letter_iff c
  have hlt := c.toNat_lt
  have hb : Pm.letter c = decide (((c.toNat : Int) = 95) ∨ (97 ≤ (c.toNat : Int) ∧ (c.toNat : Int) ≤ 122) ∨ (65 ≤ (c.toNat : Int) ∧ (c.toNat : Int) ≤ 90)) := by
    rw [Bool.eq_iff_iff, hl, decide_eq_true_eq]; omega
  rw [hb]
  have h0 : (0 : Int) ≤ (c.toNat : Int) := by omega
  have h1 : (c.toNat : Int) < 256 := by omega
  clear hl hb hlt
  generalize (c.toNat : Int) = n at h0 h1 ⊢
  by_cases p1 : n = 95
  · subst p1
    go_enter Tryd.func79, Tryd.ntmps79
    go_wp2
    go_ret
    exact ⟨rfl, rfl⟩
  have q1 : (n == 95) = false := by simpa using p1
  by_cases p2 : 97 ≤ n <;> by_cases p3 : n ≤ 122 <;> (try omega) <;> by_cases p4 : 65 ≤ n <;> (try omega) <;> by_cases p5 : n ≤ 90 <;> (try omega)
  all_goals
    rw [show decide (n = 95 ∨ (97 ≤ n ∧ n ≤ 122) ∨ (65 ≤ n ∧ n ≤ 90)) = _ by (first | exact decide_eq_true (by omega) | exact decide_eq_false (by omega))]
    clear p1
    go_enter Tryd.func79, Tryd.ntmps79
    go_wp2
    go_ret
    exact ⟨rfl, rfl⟩

set_option maxRecDepth 100000 in
set_option maxHeartbeats 4000000 in
theorem digit_c (c : UInt8) (w : World) : Calls Tryd.prog 77 #[.int .u8 (c.toNat : Int)] w fun e w' => e = .returned (.bool (Pm.digit c)) ∧ w = w' := by
  have hl := digit_iff c
  have hlt := c.toNat_lt
  have hb : Pm.digit c = decide (48 ≤ (c.toNat : Int) ∧ (c.toNat : Int) ≤ 57) := by
    rw [Bool.eq_iff_iff, hl, decide_eq_true_eq]; omega
  rw [hb]
  have h0 : (0 : Int) ≤ (c.toNat : Int) := by omega
  have h1 : (c.toNat : Int) < 256 := by omega
  clear hl hb hlt
  generalize (c.toNat : Int) = n at h0 h1 ⊢
  by_cases p2 : 48 ≤ n <;> by_cases p3 : n ≤ 57 <;> (try omega)
  all_goals
    rw [show decide (48 ≤ n ∧ n ≤ 57) = _ by (first | exact decide_eq_true (by omega) | exact decide_eq_false (by omega))]
    go_enter Tryd.func77, Tryd.ntmps77
    go_wp2
    go_ret
    exact ⟨rfl, rfl⟩

/-- The words, as a value. -/
def wordsV : Value := .agg #[.string (wordB 0), .string (wordB 1), .string (wordB 2), .string (wordB 3), .string (wordB 4), .string (wordB 5), .string (wordB 6), .string (wordB 7), .string (wordB 8), .string (wordB 9), .string (wordB 10), .string (wordB 11), .string (wordB 12), .string (wordB 13), .string (wordB 14), .string (wordB 15), .string (wordB 16), .string (wordB 17)]

set_option maxRecDepth 100000 in
set_option maxHeartbeats 4000000 in
theorem words_c (w : World) : Calls Tryd.prog 84 #[] w fun e w' => e = .returned wordsV ∧ Fr w w' := by
  go_enter Tryd.func84, Tryd.ntmps84
  go_wp2
  have hb : (match Tryd.prog.underlying 97 with | some (.array _ _) => true | _ => false) = true := by kernel_rfl
  have hu : ∃ x y, Tryd.prog.underlying 97 = some (.array x y) := by
    generalize Tryd.prog.underlying 97 = o at hb
    cases o with
    | none => cases hb
    | some t => cases t <;> first | exact ⟨_, _, rfl⟩ | cases hb
  obtain ⟨x, y, hu⟩ := hu
  refine bodyPost_ret (v := wordsV) (results_cell_row (p := 0) (ty := 97) rfl _ _ w.heap.size _ _ (0, 0) _ rfl (heap_alloc_new _ _) hu rfl (by kernel_rfl)) rfl ⟨rfl, (Ch.refl _ _).alloc _⟩

set_option maxRecDepth 100000 in
set_option maxHeartbeats 4000000 in
theorem isWord_c (s : ByteArray) (w : World) : Calls Tryd.prog 78 #[.string s] w fun e w' => e = .returned (.bool (Pm.words.contains s.data.toList)) ∧ Fr w w' := by
  generalize hcv : Pm.words.contains s.data.toList = cv
  have Hcv := Lib.hid hcv
  clear hcv
  go_enter Tryd.func78, Tryd.ntmps78
  go_wp2_with fail
  refine (words_c _).mono ?_
  rintro e w1 ⟨rfl, hf1⟩
  have Hf1 := Lib.hid hf1
  clear hf1
  unfold wordsV
  go_wp2_with fail
  generalize hW : w1.alloc _ = W1
  have hcell : ∀ j, j < 18 → W1.cell? ⟨w1.heap.size, j, none⟩ = some (.string (wordB j)) := by
    intro j hj
    rw [← hW]
    have : j = 0 ∨ j = 1 ∨ j = 2 ∨ j = 3 ∨ j = 4 ∨ j = 5 ∨ j = 6 ∨ j = 7 ∨ j = 8 ∨ j = 9 ∨ j = 10 ∨ j = 11 ∨ j = 12 ∨ j = 13 ∨ j = 14 ∨ j = 15 ∨ j = 16 ∨ j = 17 := by omega
    rcases this with h | h | h | h | h | h | h | h | h | h | h | h | h | h | h | h | h | h <;> subst h <;> simp
  have hfr : Fr w W1 := by rw [← hW]; exact Hf1.out.trans ((Ch.refl _ _).alloc _)
  clear hW
  have Hcell := Lib.hid hcell
  clear hcell
  go_loopg [4] 18 (fun m i wr => W1 = wr ∧ ∃ k : Nat, k + m = 18 ∧ i = .int .i64 k ∧ ∀ j, j < k → s.data.toList ≠ Pm.words.getD j [])
  case atStart => exact ⟨rfl, 0, by omega, rfl, fun j hj => by omega⟩
  case round =>
    obtain ⟨rfl, k, hk, rfl, hall⟩ := hrel
    have Hall := Lib.hid hall
    clear hall
    by_cases hlt : k < 18
    · have hc := Hcell.out k hlt
      have hlti : (k : Int) < 18 := by omega
      have hbb : s.data.toList = Pm.words.getD k [] ∨ s.data.toList ≠ Pm.words.getD k [] := Classical.em _
      rcases hbb with hb | hb
      · have hbl : ((wordB k).toList == s.toList) = true := by rw [ByteArray.toList_eq, ByteArray.toList_eq, hb]; simp [wordB]
        have Hb := Lib.hid hb
        clear hb
        go_wp2
        go_ret
        refine ⟨?_, hfr⟩
        have : Pm.words.contains s.data.toList = true := by
          rw [Hb.out, List.contains_iff_mem]
          have hl : k < Pm.words.length := hlt
          rw [List.getD_eq_getElem?_getD, List.getElem?_eq_getElem hl, Option.getD_some]
          exact List.getElem_mem hl
        rw [Hcv.out] at this
        rw [this]
        rfl
      · have hbl : ((wordB k).toList == s.toList) = false := by
          rw [ByteArray.toList_eq, ByteArray.toList_eq]; simpa [wordB] using fun h => hb h.symm
        have Hb := Lib.hid hb
        clear hb
        go_wp2
        go_roundg (gk - 1)
        case measure => omega
        case rel => exact ⟨rfl, k + 1, by omega, by go_num, fun j hj => by
          by_cases hjk : j = k
          · subst hjk; exact Hb.out
          · exact Hall.out j (by omega)⟩
    · have hlti : ¬ (k : Int) < 18 := by omega
      go_wp2
      go_ret
      refine ⟨?_, hfr⟩
      have : Pm.words.contains s.data.toList = false := by
        rw [Bool.eq_false_iff]
        intro hm
        rw [List.contains_iff_mem] at hm
        obtain ⟨j, hj, he⟩ := List.getElem_of_mem hm
        have hj18 : j < 18 := hj
        exact Hall.out j (by omega) (by rw [List.getD_eq_getElem?_getD, List.getElem?_eq_getElem hj, Option.getD_some]; exact he.symm)
      rw [Hcv.out] at this
      rw [this]
      rfl

theorem isNm_word (l : List UInt8) (h : Pm.words.contains l = true) : Pm.isNm l = false := by
  cases l with
  | nil => rfl
  | cons c r => unfold Pm.isNm; simp only [h, Bool.not_true, Bool.and_false]
theorem isNm_digit (c : UInt8) (r : List UInt8) (h : Pm.digit c = true) : Pm.isNm (c :: r) = false := by
  have h1 := (digit_iff c).1 h
  have h2 : Pm.letter c = false := by
    rw [Bool.eq_false_iff]; intro h3; have := (letter_iff c).1 h3; omega
  unfold Pm.isNm
  simp only [h2, Bool.and_false, Bool.false_and]

set_option maxRecDepth 100000 in
set_option maxHeartbeats 8000000 in
theorem refIsName_c (s : ByteArray) (hmx : s.size ≤ 9223372036854775807) (w : World) : Calls Tryd.prog 67 #[.string s] w fun e w' => e = .returned (.bool (Pm.isNm s.data.toList)) ∧ Fr w w' := by
  have hsd : s.size = s.data.toList.length := Lib.size_eq s
  by_cases h0 : s.size = 0
  · have q0 : ((s.size : Int) == 0) = true := beq_iff_eq.2 (by omega)
    have hf : Pm.isNm s.data.toList = false := by rw [List.eq_nil_of_length_eq_zero (show s.data.toList.length = 0 by rw [← hsd]; exact h0)]; rfl
    rw [hf]
    clear h0 hsd hf
    go_enter Tryd.func67, Tryd.ntmps67
    go_wp2_with fail
    go_ret
    exact ⟨rfl, Ch.refl _ _⟩
  have q0 : ((s.size : Int) == 0) = false := beq_eq_false_iff_ne.2 (by omega)
  by_cases hsz : (64 : Int) < (s.size : Int)
  · have hf : Pm.isNm s.data.toList = false := by
      cases hl : s.data.toList with
      | nil => rfl
      | cons c r =>
        have h1 : ¬ (c :: r).length ≤ 64 := by rw [← hl, ← hsd]; omega
        unfold Pm.isNm; simp only [decide_eq_false h1, Bool.false_and]
    rw [hf]
    clear h0 hsd hf
    go_enter Tryd.func67, Tryd.ntmps67
    go_wp2_with fail
    go_ret
    exact ⟨rfl, Ch.refl _ _⟩
  have hpos : 0 < s.size := by omega
  have hl0 : s.data.toList[0]? = some s[0] := by simp [hpos]; rfl
  have hposi : (0 : Int) < (s.size : Int) := by omega
  by_cases hd : Pm.digit s[0] = true
  · have hf : Pm.isNm s.data.toList = false := by
      cases hl : s.data.toList with
      | nil => rfl
      | cons c r =>
        rw [hl] at hl0
        simp at hl0
        exact isNm_digit c r (hl0 ▸ hd)
    rw [hf]
    have Hd := Lib.hid hd
    clear h0 hsd hf hl0 hd
    go_enter Tryd.func67, Tryd.ntmps67
    go_wp2_with fail
    refine (digit_c _ _).mono ?_
    rintro e w1 ⟨rfl, rfl⟩
    rw [Hd.out]
    go_wp2_with fail
    go_ret
    exact ⟨rfl, Ch.refl _ _⟩
  have Hd := Lib.hid (show Pm.digit s[0] = false by simpa using hd)
  clear hd
  by_cases hwd : Pm.words.contains s.data.toList = true
  · rw [isNm_word _ hwd]
    have Hw := Lib.hid hwd
    clear h0 hsd hl0 hwd
    go_enter Tryd.func67, Tryd.ntmps67
    go_wp2_with fail
    refine (digit_c _ _).mono ?_
    rintro e w1 ⟨rfl, rfl⟩
    rw [Hd.out]
    go_wp2_with fail
    refine (isWord_c _ _).mono ?_
    rintro e w1 ⟨rfl, hf1⟩
    rw [Hw.out]
    go_wp2_with fail
    go_ret
    exact ⟨rfl, hf1⟩
  have Hw := Lib.hid (show Pm.words.contains s.data.toList = false by simpa using hwd)
  have hne : s.data.toList ≠ [] := fun h => by
    have h2 : s.size = 0 := by rw [hsd, h]; rfl
    omega
  have Hne := Lib.hid hne
  have H64 := Lib.hid (show s.data.toList.length ≤ 64 by rw [← hsd]; omega)
  clear h0 hl0 hwd hne
  have Hl0 := Lib.hid hsd
  clear hsd
  go_enter Tryd.func67, Tryd.ntmps67
  go_wp2_with fail
  refine (digit_c _ _).mono ?_
  rintro e w1 ⟨rfl, rfl⟩
  rw [Hd.out]
  go_wp2_with fail
  refine (isWord_c _ _).mono ?_
  rintro e w1 ⟨rfl, hf1⟩
  rw [Hw.out]
  have Hf1 := Lib.hid hf1
  clear hf1
  go_wp2_with fail
  go_loopg [3] s.size (fun m i wr => w1 = wr ∧ ∃ k : Nat, k + m = s.size ∧ i = .int .i64 k ∧ ∀ j c, j < k → s.data.toList[j]? = some c → okc j c = true)
  case atStart => exact ⟨rfl, 0, by omega, rfl, fun j c hj => by omega⟩
  case round =>
    obtain ⟨rfl, k, hk, rfl, hall⟩ := hrel
    have Hall := Lib.hid hall
    clear hall
    by_cases hlt : k < s.size
    · have hgo : okc k s[k] = true → ∀ j c, j < k + 1 → s.data.toList[j]? = some c → okc j c = true := by
        intro h j c hj hc
        by_cases hjk : j = k
        · subst hjk
          have : s.data.toList[j]? = some s[j] := by simp [hlt]; rfl
          rw [this] at hc; injection hc with hc; subst hc; exact h
        · exact Hall.out j c (by omega) hc
      have hno : okc k s[k] = false → Pm.isNm s.data.toList = false := isNm_false _ k _ (by simp [hlt]; rfl)
      have hk0 : k = 0 → Pm.digit s[k] = false := by rintro rfl; exact Hd.out
      have Hgo := Lib.hid hgo
      have Hno := Lib.hid hno
      have Hk0 := Lib.hid hk0
      have hki : (k : Int) < (s.size : Int) := by omega
      have hk0' : (0 : Int) ≤ (k : Int) := by omega
      clear hgo hno hk0
      by_cases hL : Pm.letter s[k] = true
      · have HL := Lib.hid hL
        clear hL
        go_wp2_with fail
        refine (letter_c _ _).mono ?_
        rintro e w2 ⟨rfl, rfl⟩
        rw [HL.out]
        go_wp2_with fail
        go_roundg (gk - 1)
        case measure => omega
        case rel => exact ⟨rfl, k + 1, by omega, by go_num, Hgo.out (by unfold okc; rw [HL.out]; rfl)⟩
      · have HL := Lib.hid (show Pm.letter s[k] = false by simpa using hL)
        clear hL
        go_wp2_with fail
        refine (letter_c _ _).mono ?_
        rintro e w2 ⟨rfl, rfl⟩
        rw [HL.out]
        go_wp2_with fail
        refine (digit_c _ _).mono ?_
        rintro e w2 ⟨rfl, rfl⟩
        by_cases hD : Pm.digit s[k] = true
        · have HD := Lib.hid hD
          clear hD
          rw [HD.out]
          go_wp2_with fail
          go_roundg (gk - 1)
          case measure => omega
          case rel => exact ⟨rfl, k + 1, by omega, by go_num, Hgo.out (by
            unfold okc
            have hkk : k ≠ 0 := fun h => by have := Hk0.out h; rw [HD.out] at this; cases this
            rw [HL.out, HD.out]; simp [hkk])⟩
        · have HD := Lib.hid (show Pm.digit s[k] = false by simpa using hD)
          clear hD
          rw [HD.out]
          go_wp2_with fail
          go_ret
          exact ⟨by rw [Hno.out (by unfold okc; rw [HL.out, HD.out]; simp)]; rfl, Hf1.out⟩
    · have hki : ¬ (k : Int) < (s.size : Int) := by omega
      have hall : ∀ i c, s.data.toList[i]? = some c → okc i c = true := fun i c h => Hall.out i c (by
        have := (List.getElem?_eq_some_iff.1 h).1; have := Hl0.out; omega) h
      have Hnm := Lib.hid (isNm_of s.data.toList Hne.out H64.out hall)
      clear hall Hall
      go_wp2_with fail
      go_ret
      exact ⟨by rw [Hnm.out, Hw.out]; rfl, Hf1.out⟩
end Go.Proofs.YtllahgnpjodgmaaDoor
