/- parse.isName answers whether its bytes are a name of MiniGo and no word; nothing that was there changes. -/
import Derived.Test.YthodjlhjfaccpaaMem
import Derived.Test.YthodjlhjfaccpaaPm
import Derived.Tactics2
import Derived.WalkKit
import Derived.WalkSpells
import Derived.WalkLawsBesides
import Derived.OwnWalk
import Derived.Laws.Pointers
import Derived.KernelRfl
import Derived.Outline
import Derived.Lib.Hide
import Derived.LoopTactic
import Derived.Deep.LoopGhost
import Derived.Lib.Strings
namespace Go.Proofs.Ythodjlhjfaccpaa
open Go Go.RowKit Mem

/-- Nothing that was there has changed. -/
abbrev Fr (w w' : World) : Prop := Ch (fun _ => False) w w'


/-- The i-th byte of a name. -/
def okc (i : Nat) (c : UInt8) : Bool := Pm.letter c || (i != 0 && Pm.digit c)
theorem letter_iff (c : UInt8) : Pm.letter c = true ↔ (c.toNat = 95 ∨ (97 ≤ c.toNat ∧ c.toNat ≤ 122) ∨ (65 ≤ c.toNat ∧ c.toNat ≤ 90)) := by
  have h : c = 95 ↔ c.toNat = 95 := ⟨fun h => by rw [h]; rfl, fun h => by rw [← UInt8.toNat_inj]; exact h⟩
  simp only [Pm.letter, Bool.or_eq_true, Bool.and_eq_true, decide_eq_true_eq, beq_iff_eq, UInt8.le_iff_toNat_le, h]
  simp [or_assoc]
theorem digit_iff (c : UInt8) : Pm.digit c = true ↔ (48 ≤ c.toNat ∧ c.toNat ≤ 57) := by
  simp only [Pm.digit, Bool.and_eq_true, decide_eq_true_eq, UInt8.le_iff_toNat_le]
  simp
theorem okc_iff (i : Nat) (c : UInt8) : okc i c = true ↔ ((c.toNat = 95 ∨ (97 ≤ c.toNat ∧ c.toNat ≤ 122) ∨ (65 ≤ c.toNat ∧ c.toNat ≤ 90)) ∨ (i ≠ 0 ∧ 48 ≤ c.toNat ∧ c.toNat ≤ 57)) := by
  unfold okc
  rw [Bool.or_eq_true, Bool.and_eq_true, letter_iff, digit_iff]
  simp
theorem isNm_false (l : List UInt8) (i : Nat) (c : UInt8) (h : l[i]? = some c) (hc : okc i c = false) : Pm.isNm l = false := by
  cases l with
  | nil => rfl
  | cons x r =>
    unfold Pm.isNm
    cases i with
    | zero =>
      simp at h; subst h
      have : Pm.letter x = false := by simpa [okc] using hc
      simp [this]
    | succ i =>
      have : r.all (fun c => Pm.letter c || Pm.digit c) = false := by
        rw [Bool.eq_false_iff]; intro hall
        rw [List.all_eq_true] at hall
        have := hall c (List.mem_of_getElem? (by simpa using h))
        simp [okc] at hc this
        simp [hc] at this
      simp only [this, Bool.and_false, Bool.false_and]
theorem isNm_of (l : List UInt8) (h0 : l ≠ []) (hl : l.length ≤ 64) (h : ∀ i c, l[i]? = some c → okc i c = true) : Pm.isNm l = !Pm.words.contains l := by
  cases l with
  | nil => exact absurd rfl h0
  | cons x r =>
    unfold Pm.isNm
    have h1 : Pm.letter x = true := by simpa [okc] using h 0 x rfl
    have h2 : r.all (fun c => Pm.letter c || Pm.digit c) = true := by
      rw [List.all_eq_true]
      intro c hc
      obtain ⟨i, hi⟩ := List.getElem?_of_mem hc
      simpa [okc] using h (i + 1) c (by simpa using hi)
    simp only [h1, h2, decide_eq_true hl, Bool.true_and]

theorem i64_eq {a b : Int} (h : a = b) : Value.int .i64 a = Value.int .i64 b := by rw [h]
def wordB (j : Nat) : ByteArray := ⟨(Pm.words.getD j []).toArray⟩
set_option maxRecDepth 100000 in
set_option maxHeartbeats 8000000 in
theorem isName_c (s : ByteArray) (w : World) :
    Calls Try.prog 61 #[.string s] w fun e w' => e = .returned (.bool (Pm.isNm s.data.toList)) ∧ Fr w w' := by
  by_cases hem : s.toList.isEmpty = true
  · have h : s.data.toList = [] := by rw [← ByteArray.toList_eq]; simpa using hem
    go_enter Try.func61, Try.ntmps61
    go_wp2
    go_ret
    exact ⟨by rw [h]; rfl, Ch.refl _ _⟩
  replace hem : s.toList.isEmpty = false := by simpa using hem
  have hne : s.data.toList ≠ [] := by rw [← ByteArray.toList_eq]; intro h; rw [h] at hem; cases hem
  have Hne := Lib.hid hne
  clear hne
  by_cases hsz : (64 : Int) < (s.size : Int)
  · have h64 : 64 < s.data.toList.length := by rw [← Lib.size_eq]; omega
    have hf : Pm.isNm s.data.toList = false := by
      cases hl : s.data.toList with
      | nil => rfl
      | cons c r => unfold Pm.isNm; rw [hl] at h64; simp only [decide_eq_false (show ¬ (c :: r).length ≤ 64 by omega), Bool.false_and]
    have Hf := Lib.hid hf
    clear hf h64
    go_enter Try.func61, Try.ntmps61
    go_wp2
    go_ret
    exact ⟨by rw [Hf.out]; rfl, Ch.refl _ _⟩
  · go_enter Try.func61, Try.ntmps61
    go_wp2
    go_loopg [17] s.size (fun m i wr => w = wr ∧ ∃ k : Nat, k + m = s.size ∧ i = .int .i64 k ∧ ∀ j c, j < k → s.data.toList[j]? = some c → okc j c = true)
    case atStart => exact ⟨rfl, 0, by omega, rfl, fun j c hj => by omega⟩
    case round =>
      obtain ⟨rfl, k, hk, rfl, hall⟩ := hrel
      have Hall := Lib.hid hall
      clear hall
      by_cases hlt : k < s.size
      · have hgo : okc k s[k] = true → ∀ j c, j < k + 1 → s.data.toList[j]? = some c → okc j c = true := by
          intro h j c hj hc
          by_cases hjk : j = k
          · subst hjk
            have : s.data.toList[j]? = some s[j] := by simp [hlt]; rfl
            rw [this] at hc; injection hc with hc; subst hc; exact h
          · exact Hall.out j c (by omega) hc
        have hno : okc k s[k] = false → Pm.isNm s.data.toList = false := isNm_false _ k _ (by simp [hlt]; rfl)
        have hoc := okc_iff k s[k]
        have Hgo := Lib.hid hgo
        have Hno := Lib.hid hno
        have Hoc := Lib.hid hoc
        clear hgo hno hoc
        by_cases p1 : (s[k].toNat : Int) = 95 <;> by_cases p2 : (97 : Int) ≤ (s[k].toNat : Int) <;> (try omega) <;> by_cases p3 : (s[k].toNat : Int) ≤ 122 <;> (try omega) <;>
          by_cases p4 : (65 : Int) ≤ (s[k].toNat : Int) <;> (try omega) <;> by_cases p5 : (s[k].toNat : Int) ≤ 90 <;> (try omega) <;> by_cases p7 : (s[k].toNat : Int) < 48 <;> (try omega) <;>
          by_cases p8 : (57 : Int) < (s[k].toNat : Int) <;> (try omega) <;> by_cases p6 : k = 0
        all_goals
          have q1 : ((s[k].toNat : Int) == 95) = decide ((s[k].toNat : Int) = 95) := by rw [Bool.eq_iff_iff]; simp
          have q2 : ((k : Int) == 0) = decide (k = 0) := by rw [Bool.eq_iff_iff]; simp
        all_goals
          simp only [p1, decide_true, decide_false] at q1
          try (simp only [p6, decide_false] at q2)
          try subst p6
          try clear q2
          go_wp2
          first
            | (go_ret; exact ⟨by rw [Hno.out (Bool.eq_false_iff.2 fun h => by have := Hoc.out.1 h; omega)]; rfl, Ch.refl _ _⟩)
            | (go_roundg (gk - 1)
               case measure => omega
               case rel => exact ⟨rfl, s.size - (gk - 1), by omega, i64_eq (by omega), fun j c hj => Hgo.out (Hoc.out.2 (by omega)) j c (by omega)⟩)
      · have hall : ∀ i c, s.data.toList[i]? = some c → okc i c = true := fun i c h => Hall.out i c (by
          have := (List.getElem?_eq_some_iff.1 h).1; simp at this; have : s.size = s.data.size := rfl; omega) h
        have Hnm := Lib.hid (isNm_of s.data.toList Hne.out (by rw [← Lib.size_eq]; omega) hall)
        clear hall Hall
        go_wp2
        generalize hW : w.alloc _ = W1
        have hfr : Fr w W1 := by rw [← hW]; exact (Ch.refl _ _).alloc _
        have hcell : ∀ j, j < 18 → W1.cell? ⟨w.heap.size, j, none⟩ = some (.string (wordB j)) := by
          intro j hj
          rw [← hW]
          have : j = 0 ∨ j = 1 ∨ j = 2 ∨ j = 3 ∨ j = 4 ∨ j = 5 ∨ j = 6 ∨ j = 7 ∨ j = 8 ∨ j = 9 ∨ j = 10 ∨ j = 11 ∨ j = 12 ∨ j = 13 ∨ j = 14 ∨ j = 15 ∨ j = 16 ∨ j = 17 := by omega
          rcases this with h | h | h | h | h | h | h | h | h | h | h | h | h | h | h | h | h | h <;> subst h <;> simp [wordB, Pm.words]
        clear hW
        have Hcell := Lib.hid hcell
        clear hcell
        go_loopg [58] 18 (fun m i wr => W1 = wr ∧ ∃ k : Nat, k + m = 18 ∧ i = .int .i64 k ∧ ∀ j, j < k → s.data.toList ≠ Pm.words.getD j [])
        case atStart => exact ⟨rfl, 0, by omega, rfl, fun j hj => by omega⟩
        case round =>
          obtain ⟨rfl, k, hk, rfl, hall⟩ := hrel
          have Hall := Lib.hid hall
          clear hall
          by_cases hlt : k < 18
          · have hc := Hcell.out k hlt
            have hbb : s.data.toList = Pm.words.getD k [] ∨ s.data.toList ≠ Pm.words.getD k [] := Classical.em _
            rcases hbb with hb | hb
            · have hbl : (s.toList == (wordB k).toList) = true := by rw [ByteArray.toList_eq, ByteArray.toList_eq, hb]; simp [wordB]
              have Hb := Lib.hid hb
              clear hb
              go_wp2
              go_ret
              refine ⟨?_, hfr⟩
              rw [Hnm.out]
              have : Pm.words.contains s.data.toList = true := by
                rw [Hb.out, List.contains_iff_mem]
                have hl : k < Pm.words.length := hlt
                rw [List.getD_eq_getElem?_getD, List.getElem?_eq_getElem hl, Option.getD_some]
                exact List.getElem_mem hl
              rw [this]; rfl
            · have hbl : (s.toList == (wordB k).toList) = false := by
                rw [ByteArray.toList_eq, ByteArray.toList_eq]; simpa [wordB] using hb
              have Hb := Lib.hid hb
              clear hb
              go_wp2
              go_roundg (gk - 1)
              case measure => omega
              case rel => exact ⟨rfl, k + 1, by omega, by go_num, fun j hj => by
                by_cases hjk : j = k
                · subst hjk; exact Hb.out
                · exact Hall.out j (by omega)⟩
          · go_wp2
            go_ret
            refine ⟨?_, hfr⟩
            rw [Hnm.out]
            have : Pm.words.contains s.data.toList = false := by
              rw [Bool.eq_false_iff]
              intro hm
              rw [List.contains_iff_mem] at hm
              obtain ⟨j, hj, he⟩ := List.getElem_of_mem hm
              have hj18 : j < 18 := hj
              exact Hall.out j (by omega) (by rw [List.getD_eq_getElem?_getD, List.getElem?_eq_getElem hj, Option.getD_some]; exact he.symm)
            rw [this]; rfl
end Go.Proofs.Ythodjlhjfaccpaa
