/- The parser's small methods do what the machine's words say: the next kind, is, take, fail, begin, done and the like. -/
import Derived.Test.YthodjlhjfaccpaaPv
import Derived.Deep.RegionHeld3
import Derived.Deep.DeepFit
namespace Go.Proofs.Ythodjlhjfaccpaa
open Go Go.RowKit Mem Pm

theorem ret_eq {a b : Value} (h : a = b) : Ending.returned a = Ending.returned b := by rw [h]
theorem bool_eq {a b : Bool} (h : a = b) : Ending.returned (.bool a) = Ending.returned (.bool b) := by rw [h]

set_option maxRecDepth 100000 in
set_option maxHeartbeats 2000000 in
theorem right_c (t : Tok) (w : World) : Calls Try.prog 58 #[tokV t] w fun e w' => e = .returned (.bool (right t)) ∧ Fr w w' := by
  obtain ⟨k, a, v, nm⟩ := t
  unfold tokV
  by_cases h1 : k = 1
  · subst h1
    go_enter Try.func58, Try.ntmps58
    go_wp2_with fail
    refine (isName_c _ _).mono ?_
    rintro e w' ⟨rfl, hf⟩
    go_wp2_with fail
    go_ret
    exact ⟨bool_eq (by simp [right]), ((Ch.refl _ _).alloc _).trans hf⟩
  · by_cases h2 : k = 2
    · subst h2
      go_enter Try.func58, Try.ntmps58
      go_wp2_with fail
      go_ret
      exact ⟨bool_eq (by simp [right]), (Ch.refl _ _).alloc _⟩
    · have e1 : (k == 1) = false := by simpa using h1
      have e2 : (k == 2) = false := by simpa using h2
      have hr : right ⟨k, a, v, nm⟩ = decide (10 ≤ k ∧ k ≤ 27 ∨ 40 ≤ k ∧ k ≤ 68) := by simp [right, h1, h2]
      have Hr := Lib.hid hr
      clear hr h1 h2
      go_enter Try.func58, Try.ntmps58
      go_wp2_with fail
      all_goals
        go_ret
        refine ⟨bool_eq ?_, (Ch.refl _ _).alloc _⟩
        rw [Hr.out]
        rw [Bool.eq_iff_iff]
        simp
        try omega

set_option maxRecDepth 100000 in
set_option maxHeartbeats 2000000 in
theorem operator_c (k : Int) (w : World) : Calls Try.prog 85 #[.int .i64 k] w fun e w' => e = .returned (.tuple #[.int .i64 (PS.operator k).1, .int .i64 (PS.operator k).2]) ∧ w = w' := by
  have hc : (k = 49 ∨ k = 50 ∨ k = 51 ∨ k = 52 ∨ k = 53 ∨ k = 54 ∨ k = 55 ∨ k = 56 ∨ k = 57 ∨ k = 58) ∨ (k = 59 ∨ k = 60 ∨ k = 61 ∨ k = 62 ∨ k = 63 ∨ k = 64 ∨ k = 65 ∨ k = 66 ∨ k = 67) ∨ (k < 49 ∨ 67 < k) := by omega
  rcases hc with hc | hc | hc
  · rcases hc with rfl | rfl | rfl | rfl | rfl | rfl | rfl | rfl | rfl | rfl
    all_goals
      go_enter Try.func85, Try.ntmps85
      go_wp2_with fail
      go_ret2
      exact ⟨rfl, rfl⟩
  · rcases hc with rfl | rfl | rfl | rfl | rfl | rfl | rfl | rfl | rfl
    all_goals
      go_enter Try.func85, Try.ntmps85
      go_wp2_with fail
      go_ret2
      exact ⟨rfl, rfl⟩
  · have ho : PS.operator k = (0, 0) := by
      unfold PS.operator
      rw [if_neg (by omega), if_neg (by omega), if_neg (by omega), if_neg (by omega), if_neg (by omega), if_neg (by omega), if_neg (by omega), if_neg (by omega), if_neg (by omega), if_neg (by omega), if_neg (by omega), if_neg (by omega), if_neg (by omega), if_neg (by omega)]
    rw [ho]
    have n49 : (k == 49) = false := by simp; omega
    have n50 : (k == 50) = false := by simp; omega
    have n51 : (k == 51) = false := by simp; omega
    have n52 : (k == 52) = false := by simp; omega
    have n53 : (k == 53) = false := by simp; omega
    have n54 : (k == 54) = false := by simp; omega
    have n55 : (k == 55) = false := by simp; omega
    have n56 : (k == 56) = false := by simp; omega
    have n57 : (k == 57) = false := by simp; omega
    have n58 : (k == 58) = false := by simp; omega
    have n59 : (k == 59) = false := by simp; omega
    have n60 : (k == 60) = false := by simp; omega
    have n61 : (k == 61) = false := by simp; omega
    have n62 : (k == 62) = false := by simp; omega
    have n63 : (k == 63) = false := by simp; omega
    have n64 : (k == 64) = false := by simp; omega
    have n65 : (k == 65) = false := by simp; omega
    have n66 : (k == 66) = false := by simp; omega
    have n67 : (k == 67) = false := by simp; omega
    clear hc ho
    go_enter Try.func85, Try.ntmps85
    go_wp2_with fail
    go_ret2
    exact ⟨rfl, rfl⟩

theorem Fr.cell {w w' : World} (h : Fr w w') {p : Addr} {v : Value} (hc : w.cell? p = some v) : w'.cell? p = some v :=
  (World.cell?_of_block (h.block _ (World.block_lt_of_cell? w p hc) id)).trans hc
/-- The cells of the parser's struct. -/
theorem pcells {w : World} {gp : Nat} {v0 v1 v2 v3 v4 v5 v6 v7 v8 v9 : Value} (h : Blk w gp 60 [v0, v1, v2, v3, v4, v5, v6, v7, v8, v9]) :
    w.cell? ⟨gp, 0, none⟩ = some v0 ∧ w.cell? ⟨gp, 1, none⟩ = some v1 ∧ w.cell? ⟨gp, 2, none⟩ = some v2 ∧ w.cell? ⟨gp, 3, none⟩ = some v3 ∧ w.cell? ⟨gp, 4, none⟩ = some v4 ∧ w.cell? ⟨gp, 5, none⟩ = some v5 ∧
    w.cell? ⟨gp, 6, none⟩ = some v6 ∧ w.cell? ⟨gp, 7, none⟩ = some v7 ∧ w.cell? ⟨gp, 8, none⟩ = some v8 ∧ w.cell? ⟨gp, 9, none⟩ = some v9 := by
  refine ⟨?_, ?_, ?_, ?_, ?_, ?_, ?_, ?_, ?_, ?_⟩ <;> rw [h.cell] <;> rfl
theorem tokC_len (t : Tok) : (tokC t).length = 4 := rfl
theorem toksC_get {l : List Tok} {i : Nat} {t : Tok} (h : l[i]? = some t) (j : Nat) (hj : j < 4) : (toksC l)[i * 4 + j]? = (tokC t)[j]? := by
  induction l generalizing i with
  | nil => simp at h
  | cons x r ih =>
    unfold toksC at ih ⊢
    rw [List.flatMap_cons]
    cases i with
    | zero => simp at h; subst h; rw [List.getElem?_append_left (by rw [tokC_len]; omega)]; simp
    | succ i => rw [List.getElem?_append_right (by rw [tokC_len]; omega), tokC_len, show (i + 1) * 4 + j - 4 = i * 4 + j by omega]; exact ih (by simpa using h)
/-- The token at a place. -/
theorem Pm.PI.tok {bd : Nat} {L : List Nat} {gp : Nat} {s : PS} {w : World} {ta : Option Addr} {tc : Nat} {td nd fu lo be ne : Value} {kvs : List Value} (h : PI bd L gp s w ta tc td nd fu lo be ne kvs) {i : Nat} {t : Tok} (ht : s.toks[i]? = some t) :
    ∃ b off, ta = some ⟨b, off, none⟩ ∧ b < bd ∧ w.cell? ⟨b, off + i * 4, none⟩ = some (.int .i64 t.kind) ∧ w.cell? ⟨b, off + i * 4 + 1, none⟩ = some (.int .i64 t.at_) ∧ w.cell? ⟨b, off + i * 4 + 2, none⟩ = some (.int .i64 t.value) ∧ w.cell? ⟨b, off + i * 4 + 3, none⟩ = some (.string t.name) := by
  have h0 := toksC_get ht 0 (by omega)
  obtain ⟨b, off, h1, h2, h3⟩ := h.toks (by intro he; rw [he] at h0; simp [tokC] at h0)
  refine ⟨b, off, h1, h2, ?_, ?_, ?_, ?_⟩
  · exact h3 (i * 4) _ (toksC_get ht 0 (by omega))
  · rw [Nat.add_assoc]; exact h3 (i * 4 + 1) _ (toksC_get ht 1 (by omega))
  · rw [Nat.add_assoc]; exact h3 (i * 4 + 2) _ (toksC_get ht 2 (by omega))
  · rw [Nat.add_assoc]; exact h3 (i * 4 + 3) _ (toksC_get ht 3 (by omega))

set_option maxRecDepth 100000 in
set_option maxHeartbeats 2000000 in
theorem kind_c {bd : Nat} {L : List Nat} {gp : Nat} {s : PS} {w : World} (h : PInv bd L gp s w) :
    Calls Try.prog 53 #[.pointer (some ⟨gp, 0, none⟩)] w fun e w' => e = .returned (.int .i64 s.kind) ∧ Fr w w' := by
  obtain ⟨ta, tc, td, nd, fu, lo, be, ne, kvs, h⟩ := h
  have hc := pcells h.blk
  have hle := h.at_
  have hnt := h.ntok
  cases ht : s.toks[s.at_]? with
  | none =>
    have hat : s.at_ = s.toks.length := by have := List.getElem?_eq_none_iff.1 ht; omega
    have hk : s.kind = 0 := by simp [PS.kind, ht]
    have hq : ((s.at_ : Int) == (s.toks.length : Int)) = true := by simp; omega
    rw [hk]
    clear hk ht hat h
    go_enter Try.func53, Try.ntmps53
    go_wp2_with fail
    refine Reg.wp_region_text (by kernel_rfl) (by kernel_rfl) ?_
    go_wp2_with fail
    refine ⟨by kernel_rfl, ?_⟩
    go_wp2_with fail
    go_ret
    exact ⟨rfl, (Ch.refl _ _).drew⟩
  | some t =>
    have hlt : s.at_ < s.toks.length := (List.getElem?_eq_some_iff.1 ht).1
    obtain ⟨b, off, rfl, hb, t0, t1, t2, t3⟩ := h.tok ht
    have hq : ((s.at_ : Int) == (s.toks.length : Int)) = false := by simp; omega
    have hlti : (s.at_ : Int) < (s.toks.length : Int) := by omega
    have h0 : (0 : Int) ≤ (s.at_ : Int) := by omega
    have Hk := Lib.hid (show s.kind = if right t then t.kind else 0 by simp [PS.kind, ht])
    have H := Lib.hid h
    clear ht h hle
    cases hr : right t with
    | false =>
      have Hr := Lib.hid hr
      clear hr
      go_enter Try.func53, Try.ntmps53
      go_wp2_with fail
      refine Reg.wp_region_text (by kernel_rfl) (by kernel_rfl) ?_
      go_wp2_with fail
      refine (right_c t _).mono ?_
      rintro e w' ⟨rfl, hf⟩
      rw [Hr.out]
      go_wp2_with fail
      refine ⟨by kernel_rfl, ?_⟩
      go_wp2_with fail
      go_ret
      exact ⟨ret_eq (by rw [Hk.out, Hr.out]; rfl), (Ch.refl _ _).drew.trans hf⟩
    | true =>
      have Hr := Lib.hid hr
      clear hr
      go_enter Try.func53, Try.ntmps53
      go_wp2_with fail
      refine Reg.wp_region_text (by kernel_rfl) (by kernel_rfl) ?_
      go_wp2_with fail
      refine (right_c t _).mono ?_
      rintro e w' ⟨rfl, hf⟩
      rw [Hr.out]
      have hf' : Fr w w' := (Ch.refl _ _).drew.trans hf
      have hc' := pcells (H.out.blk.ch hf' id)
      have t0' := Fr.cell hf' t0
      have Hf := Lib.hid hf'
      clear hf hf' hc t0 t1 t2 t3
      go_wp2_with fail
      refine ⟨by kernel_rfl, ?_⟩
      go_wp2_with fail
      refine Reg.wp_region_text (by kernel_rfl) (by kernel_rfl) ?_
      go_wp2_with fail
      refine ⟨by kernel_rfl, ?_⟩
      go_wp2_with fail
      go_ret
      exact ⟨ret_eq (by rw [Hk.out, Hr.out]; rfl), Hf.out.drew⟩
end Go.Proofs.Ythodjlhjfaccpaa
