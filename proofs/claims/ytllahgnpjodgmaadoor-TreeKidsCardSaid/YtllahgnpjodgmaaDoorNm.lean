/- Names of MiniGo: what their bytes are. -/
import Derived.Test.YtllahgnpjodgmaaDoorMem
import Derived.Test.YtllahgnpjodgmaaDoorPm
import Derived.Tactics2
import Derived.WalkKit
import Derived.WalkSpells
import Derived.WalkLawsBesides
import Derived.OwnWalk
import Derived.Laws.Pointers
import Derived.KernelRfl
import Derived.Outline
import Derived.Lib.Hide
import Derived.LoopTactic
import Derived.Deep.LoopGhost
import Derived.Lib.Strings
namespace Go.Proofs.YtllahgnpjodgmaaDoor
open Go Go.RowKit Mem

/-- Nothing that was there has changed. -/
abbrev Fr (w w' : World) : Prop := Ch (fun _ => False) w w'


/-- The i-th byte of a name. -/
def okc (i : Nat) (c : UInt8) : Bool := Pm.letter c || (i != 0 && Pm.digit c)
theorem letter_iff (c : UInt8) : Pm.letter c = true ↔ (c.toNat = 95 ∨ (97 ≤ c.toNat ∧ c.toNat ≤ 122) ∨ (65 ≤ c.toNat ∧ c.toNat ≤ 90)) := by
  have h : c = 95 ↔ c.toNat = 95 := ⟨fun h => by rw [h]; rfl, fun h => by rw [← UInt8.toNat_inj]; exact h⟩
  simp only [Pm.letter, Bool.or_eq_true, Bool.and_eq_true, decide_eq_true_eq, beq_iff_eq, UInt8.le_iff_toNat_le, h]
  simp [or_assoc]
theorem digit_iff (c : UInt8) : Pm.digit c = true ↔ (48 ≤ c.toNat ∧ c.toNat ≤ 57) := by
  simp only [Pm.digit, Bool.and_eq_true, decide_eq_true_eq, UInt8.le_iff_toNat_le]
  simp
theorem okc_iff (i : Nat) (c : UInt8) : okc i c = true ↔ ((c.toNat = 95 ∨ (97 ≤ c.toNat ∧ c.toNat ≤ 122) ∨ (65 ≤ c.toNat ∧ c.toNat ≤ 90)) ∨ (i ≠ 0 ∧ 48 ≤ c.toNat ∧ c.toNat ≤ 57)) := by
  unfold okc
  rw [Bool.or_eq_true, Bool.and_eq_true, letter_iff, digit_iff]
  simp
theorem isNm_false (l : List UInt8) (i : Nat) (c : UInt8) (h : l[i]? = some c) (hc : okc i c = false) : Pm.isNm l = false := by
  cases l with
  | nil => rfl
  | cons x r =>
    unfold Pm.isNm
    cases i with
    | zero =>
      simp at h; subst h
      have : Pm.letter x = false := by simpa [okc] using hc
      simp [this]
    | succ i =>
      have : r.all (fun c => Pm.letter c || Pm.digit c) = false := by
        rw [Bool.eq_false_iff]; intro hall
        rw [List.all_eq_true] at hall
        have := hall c (List.mem_of_getElem? (by simpa using h))
        simp [okc] at hc this
        simp [hc] at this
      simp only [this, Bool.and_false, Bool.false_and]
theorem isNm_of (l : List UInt8) (h0 : l ≠ []) (hl : l.length ≤ 64) (h : ∀ i c, l[i]? = some c → okc i c = true) : Pm.isNm l = !Pm.words.contains l := by
  cases l with
  | nil => exact absurd rfl h0
  | cons x r =>
    unfold Pm.isNm
    have h1 : Pm.letter x = true := by simpa [okc] using h 0 x rfl
    have h2 : r.all (fun c => Pm.letter c || Pm.digit c) = true := by
      rw [List.all_eq_true]
      intro c hc
      obtain ⟨i, hi⟩ := List.getElem?_of_mem hc
      simpa [okc] using h (i + 1) c (by simpa using hi)
    simp only [h1, h2, decide_eq_true hl, Bool.true_and]

theorem i64_eq {a b : Int} (h : a = b) : Value.int .i64 a = Value.int .i64 b := by rw [h]
def wordB (j : Nat) : ByteArray := ⟨(Pm.words.getD j []).toArray⟩
end Go.Proofs.YtllahgnpjodgmaaDoor
