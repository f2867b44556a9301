/- tree.kids: are kinds those of the kids of a node of a kind? -/
import Derived.Test.YtllahgnpjodgmaaDoorT4
import Derived.Laws.EntriesVeiled
set_option linter.unusedVariables false
namespace Go.Proofs.YtllahgnpjodgmaaDoor
open Go Go.RowKit Mem Pm


set_option maxRecDepth 100000 in
set_option maxHeartbeats 8000000 in
theorem kids_2 (k : Int) (l : List Int) (v : Value) (w : World) (hr : RdS w v l.length (ints l)) (hl : l.length ≤ 9223372036854775807) (hk : k = 2 ∨ k = 13 ∨ k = 14 ∨ k = 20 ∨ k = 21 ∨ k = 22 ∨ k = 23 ∨ k = 24 ∨ k = 26) :
    Calls Tryd.prog 38 #[.int .i64 k, v] w fun e w' => e = .returned (.bool (Tm.kidsOk k l)) ∧ Fr w w' := by
  obtain ⟨a, c, rfl, hc, hf, hr0, hcb⟩ := kids_pre hr
  have HFr := Lib.hid hf
  have HR := Lib.hid hr0
  have HCb := Lib.hid hcb
  clear hr hf hr0 hcb
  have hfin : Tm.kidsOk k l = ((l.length : Int) == 0) := by
    rcases hk with rfl | rfl | rfl | rfl | rfl | rfl | rfl | rfl | rfl <;> (show (l.length == 0) = _; rw [Bool.eq_iff_iff]; simp)
  have HFin := Lib.hid hfin
  clear hfin
  rcases hk with rfl | rfl | rfl | rfl | rfl | rfl | rfl | rfl | rfl
  all_goals
    go_enter Tryd.func38, Tryd.ntmps38
    go_wp2_with fail
    go_ret
    exact ⟨by rw [HFin.out]; rfl, HFr.out⟩

set_option maxRecDepth 100000 in
set_option maxHeartbeats 8000000 in
theorem kids_7 (k : Int) (l : List Int) (v : Value) (w : World) (hr : RdS w v l.length (ints l)) (hl : l.length ≤ 9223372036854775807) (hk : k = 7) :
    Calls Tryd.prog 38 #[.int .i64 k, v] w fun e w' => e = .returned (.bool (Tm.kidsOk k l)) ∧ Fr w w' := by
  obtain ⟨a, c, rfl, hc, hf, hr0, hcb⟩ := kids_pre hr
  have HFr := Lib.hid hf
  have HR := Lib.hid hr0
  have HCb := Lib.hid hcb
  clear hr hf hr0 hcb
  subst hk
  by_cases hlen : l.length = 1
  · have hi : ((l.length : Int) == 1) = true := beq_iff_eq.2 (by omega)
    obtain ⟨x, hx⟩ : ∃ x, l = [x] := List.length_eq_one_iff.1 hlen
    have hfin : Tm.kidsOk 7 l = (x == 25) := by rw [hx]; rfl
    have HFin := Lib.hid hfin
    obtain ⟨g, off, rfl, c1⟩ := rdS_int HR.out (i := 0) (x := x) (by rw [hx]; rfl)
    rw [Nat.add_zero] at c1
    have hi2 : (0 : Int) < (l.length : Int) := by omega
    clear hfin hx hlen
    go_enter Tryd.func38, Tryd.ntmps38
    go_wp2_with fail
    go_ret
    exact ⟨by rw [HFin.out]; rfl, HFr.out⟩
  · have hi : ((l.length : Int) == 1) = false := beq_eq_false_iff_ne.2 (by omega)
    have hfin : Tm.kidsOk 7 l = false := by show (l.length == 1 && l.headD 0 == 25) = false; simp [hlen]
    have HFin := Lib.hid hfin
    clear hfin
    go_enter Tryd.func38, Tryd.ntmps38
    go_wp2_with fail
    go_ret
    exact ⟨by rw [HFin.out]; rfl, HFr.out⟩

set_option maxRecDepth 100000 in
set_option maxHeartbeats 8000000 in
theorem kids_no (k : Int) (l : List Int) (v : Value) (w : World) (hr : RdS w v l.length (ints l)) (hl : l.length ≤ 9223372036854775807) (hk : k ≠ 1 ∧ k ≠ 3 ∧ k ≠ 4 ∧ k ≠ 12 ∧ k ≠ 5 ∧ k ≠ 8 ∧ k ≠ 9 ∧ k ≠ 27 ∧ k ≠ 28 ∧ k ≠ 30 ∧ k ≠ 6 ∧ k ≠ 29 ∧ k ≠ 31 ∧ k ≠ 7 ∧ k ≠ 10 ∧ k ≠ 11 ∧ k ≠ 25 ∧ k ≠ 2 ∧ k ≠ 13 ∧ k ≠ 14 ∧ k ≠ 20 ∧ k ≠ 21 ∧ k ≠ 22 ∧ k ≠ 23 ∧ k ≠ 24 ∧ k ≠ 26) :
    Calls Tryd.prog 38 #[.int .i64 k, v] w fun e w' => e = .returned (.bool (Tm.kidsOk k l)) ∧ Fr w w' := by
  obtain ⟨a, c, rfl, hc, hf, hr0, hcb⟩ := kids_pre hr
  have HFr := Lib.hid hf
  have HR := Lib.hid hr0
  have HCb := Lib.hid hcb
  clear hr hf hr0 hcb
  obtain ⟨e1, e3, e4, e12, e5, e8, e9, e27, e28, e30, e6, e29, e31, e7, e10, e11, e25, e2, e13, e14, e20, e21, e22, e23, e24, e26⟩ := hk
  have hfin : Tm.kidsOk k l = false := by unfold Tm.kidsOk; simp [e1, e3, e4, e12, e5, e8, e9, e27, e28, e30, e6, e29, e31, e7, e10, e11, e25, e2, e13, e14, e20, e21, e22, e23, e24, e26]
  have HFin := Lib.hid hfin
  have n1 : (k == 1) = false := beq_eq_false_iff_ne.2 e1
  have n3 : (k == 3) = false := beq_eq_false_iff_ne.2 e3
  have n4 : (k == 4) = false := beq_eq_false_iff_ne.2 e4
  have n12 : (k == 12) = false := beq_eq_false_iff_ne.2 e12
  have n5 : (k == 5) = false := beq_eq_false_iff_ne.2 e5
  have n8 : (k == 8) = false := beq_eq_false_iff_ne.2 e8
  have n9 : (k == 9) = false := beq_eq_false_iff_ne.2 e9
  have n27 : (k == 27) = false := beq_eq_false_iff_ne.2 e27
  have n28 : (k == 28) = false := beq_eq_false_iff_ne.2 e28
  have n30 : (k == 30) = false := beq_eq_false_iff_ne.2 e30
  have n6 : (k == 6) = false := beq_eq_false_iff_ne.2 e6
  have n29 : (k == 29) = false := beq_eq_false_iff_ne.2 e29
  have n31 : (k == 31) = false := beq_eq_false_iff_ne.2 e31
  have n7 : (k == 7) = false := beq_eq_false_iff_ne.2 e7
  have n10 : (k == 10) = false := beq_eq_false_iff_ne.2 e10
  have n11 : (k == 11) = false := beq_eq_false_iff_ne.2 e11
  have n25 : (k == 25) = false := beq_eq_false_iff_ne.2 e25
  have n2 : (k == 2) = false := beq_eq_false_iff_ne.2 e2
  have n13 : (k == 13) = false := beq_eq_false_iff_ne.2 e13
  have n14 : (k == 14) = false := beq_eq_false_iff_ne.2 e14
  have n20 : (k == 20) = false := beq_eq_false_iff_ne.2 e20
  have n21 : (k == 21) = false := beq_eq_false_iff_ne.2 e21
  have n22 : (k == 22) = false := beq_eq_false_iff_ne.2 e22
  have n23 : (k == 23) = false := beq_eq_false_iff_ne.2 e23
  have n24 : (k == 24) = false := beq_eq_false_iff_ne.2 e24
  have n26 : (k == 26) = false := beq_eq_false_iff_ne.2 e26
  clear hfin e1 e3 e4 e12 e5 e8 e9 e27 e28 e30 e6 e29 e31 e7 e10 e11 e25 e2 e13 e14 e20 e21 e22 e23 e24 e26
  go_enter Tryd.func38, Tryd.ntmps38
  go_wp2_with fail
  go_ret
  exact ⟨by rw [HFin.out]; rfl, HFr.out⟩

end Go.Proofs.YtllahgnpjodgmaaDoor
