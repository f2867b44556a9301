/- The rows of quernref4's grammar: what the calls of heads, statement, statements and prim do. (Printed by rr.py.) -/
import Derived.Test.YthodjlhjfaccpaaRv
set_option linter.unusedVariables false
namespace Go.Proofs.Ythodjlhjfaccpaa
open Go Go.RowKit Mem Pm

/-- How a row is answered. -/
def RuleRes (r : List Int × Bool) (w : World) (e : Ending) (w' : World) : Prop :=
  ∃ (a : Option Addr) (n cap : Nat), e = .returned (.tuple #[.slice a n cap, .bool r.2]) ∧ n = r.1.length ∧ ∀ (A : Nat → Prop) (w0 : World) (rs : List Res), Hs A w0 w rs → Hs A w0 w' (.row 3 1 (.slice a r.1.length cap) r.1.length (ints r.1) :: rs)
theorem rr_nil (w : World) (b : Bool) : RuleRes ([], b) w (.returned (.tuple #[.slice none 0 0, .bool b])) w := ⟨none, 0, 0, rfl, rfl, fun A w0 rs h => h.nil 3 1⟩
theorem rr_row (w : World) (l : List Int) (b : Bool) (hl : l.length ≤ 100 := by simp) : RuleRes (l, b) w (.returned (.tuple #[.slice (some ⟨w.heap.size, 0, none⟩) l.length l.length, .bool b])) (w.alloc (.cells (ints l).toArray 3)) :=
  ⟨_, _, _, rfl, rfl, fun A w0 rs h => (h.alloc (ints l) 3).asRow 0 rfl 1 l.length (by rw [ints_len, Nat.mul_one]) (by unfold maxLen; omega)⟩
theorem rr_hs {w w' : World} {l : List Int} {b : Bool} {a : Option Addr} {cap : Nat} {rs : List Res} (h : Hs (fun k => k < w.heap.size) w w' (.row 3 1 (.slice a l.length cap) l.length (ints l) :: rs)) : RuleRes (l, b) w (.returned (.tuple #[.slice a l.length cap, .bool b])) w' := by
  refine ⟨_, _, _, rfl, rfl, fun A w0 rs' h' => ?_⟩
  have hk := h.kp
  have hc : Ch (fun _ => False) w w' := ⟨hk.os, hk.tape, hk.output, hk.size, fun k hk' _ => hk.block k hk'⟩
  have ho : Own (fun k => k < w.heap.size) w' 3 1 (.slice a l.length cap) l.length (ints l) := h.get (i := 0) rfl
  refine h'.new hc ⟨ho.1, fun g hg hA => ho.2 g hg (h'.alt' g hA)⟩ (fun g hg => Nat.le_of_not_lt (ho.2 g hg))

set_option maxRecDepth 100000 in
set_option maxHeartbeats 2000000 in
theorem heads_100t (k : Int)   (w : World) : Calls Try.prog 38 #[.int .i64 100, .int .i64 k, .bool true] w (RuleRes ([], true) w) := by
  go_enter Try.func38, Try.ntmps38
  go_wp2_with fail
  go_ret2
  exact rr_nil _ _

set_option maxRecDepth 100000 in
set_option maxHeartbeats 2000000 in
theorem heads_100f (k : Int)   (w : World) : Calls Try.prog 38 #[.int .i64 100, .int .i64 k, .bool false] w (RuleRes ([101, 100], k == 10) w) := by
  go_enter Try.func38, Try.ntmps38
  go_wp2_with fail
  go_ret2
  exact rr_row _ [101, 100] _

set_option maxRecDepth 100000 in
set_option maxHeartbeats 2000000 in
theorem heads_101 (k : Int) (over : Bool)   (w : World) : Calls Try.prog 38 #[.int .i64 101, .int .i64 k, .bool over] w (RuleRes ([2001, 10, 1, 4002, 40, 102, 41, 105, 4003, 4008, 107, 4007, 1001], true) w) := by
  go_enter Try.func38, Try.ntmps38
  go_wp2_with fail
  go_ret2
  exact rr_row _ [2001, 10, 1, 4002, 40, 102, 41, 105, 4003, 4008, 107, 4007, 1001] _

set_option maxRecDepth 100000 in
set_option maxHeartbeats 2000000 in
theorem heads_102a (over : Bool)   (w : World) : Calls Try.prog 38 #[.int .i64 102, .int .i64 41, .bool over] w (RuleRes ([], true) w) := by
  go_enter Try.func38, Try.ntmps38
  go_wp2_with fail
  go_ret2
  exact rr_nil _ _

set_option maxRecDepth 100000 in
set_option maxHeartbeats 2000000 in
theorem heads_102b (k : Int) (over : Bool) (h41 : k ≠ 41)  (w : World) : Calls Try.prog 38 #[.int .i64 102, .int .i64 k, .bool over] w (RuleRes ([103, 104], k == 1) w) := by
  have q41 : (k == 41) = false := beq_eq_false_iff_ne.2 h41
  clear h41
  go_enter Try.func38, Try.ntmps38
  go_wp2_with fail
  go_ret2
  exact rr_row _ [103, 104] _

set_option maxRecDepth 100000 in
set_option maxHeartbeats 2000000 in
theorem heads_103 (k : Int) (over : Bool)   (w : World) : Calls Try.prog 38 #[.int .i64 103, .int .i64 k, .bool over] w (RuleRes ([2002, 1, 4002, 106, 4003, 1002], true) w) := by
  go_enter Try.func38, Try.ntmps38
  go_wp2_with fail
  go_ret2
  exact rr_row _ [2002, 1, 4002, 106, 4003, 1002] _

set_option maxRecDepth 100000 in
set_option maxHeartbeats 2000000 in
theorem heads_104a (over : Bool)   (w : World) : Calls Try.prog 38 #[.int .i64 104, .int .i64 41, .bool over] w (RuleRes ([], true) w) := by
  go_enter Try.func38, Try.ntmps38
  go_wp2_with fail
  go_ret2
  exact rr_nil _ _

set_option maxRecDepth 100000 in
set_option maxHeartbeats 2000000 in
theorem heads_104b (k : Int) (over : Bool) (h41 : k ≠ 41)  (w : World) : Calls Try.prog 38 #[.int .i64 104, .int .i64 k, .bool over] w (RuleRes ([46, 103, 104], k == 46) w) := by
  have q41 : (k == 41) = false := beq_eq_false_iff_ne.2 h41
  clear h41
  go_enter Try.func38, Try.ntmps38
  go_wp2_with fail
  go_ret2
  exact rr_row _ [46, 103, 104] _

set_option maxRecDepth 100000 in
set_option maxHeartbeats 2000000 in
theorem heads_105a (over : Bool)   (w : World) : Calls Try.prog 38 #[.int .i64 105, .int .i64 42, .bool over] w (RuleRes ([], true) w) := by
  go_enter Try.func38, Try.ntmps38
  go_wp2_with fail
  go_ret2
  exact rr_nil _ _

set_option maxRecDepth 100000 in
set_option maxHeartbeats 2000000 in
theorem heads_105b (over : Bool)   (w : World) : Calls Try.prog 38 #[.int .i64 105, .int .i64 23, .bool over] w (RuleRes ([106], true) w) := by
  go_enter Try.func38, Try.ntmps38
  go_wp2_with fail
  go_ret2
  exact rr_row _ [106] _

set_option maxRecDepth 100000 in
set_option maxHeartbeats 2000000 in
theorem heads_105c (over : Bool)   (w : World) : Calls Try.prog 38 #[.int .i64 105, .int .i64 24, .bool over] w (RuleRes ([106], true) w) := by
  go_enter Try.func38, Try.ntmps38
  go_wp2_with fail
  go_ret2
  exact rr_row _ [106] _

set_option maxRecDepth 100000 in
set_option maxHeartbeats 2000000 in
theorem heads_105d (k : Int) (over : Bool) (h42 : k ≠ 42) (h23 : k ≠ 23) (h24 : k ≠ 24)  (w : World) : Calls Try.prog 38 #[.int .i64 105, .int .i64 k, .bool over] w (RuleRes ([106], k == 44) w) := by
  have q42 : (k == 42) = false := beq_eq_false_iff_ne.2 h42
  have q23 : (k == 23) = false := beq_eq_false_iff_ne.2 h23
  have q24 : (k == 24) = false := beq_eq_false_iff_ne.2 h24
  clear h42 h23 h24
  go_enter Try.func38, Try.ntmps38
  go_wp2_with fail
  go_ret2
  exact rr_row _ [106] _

set_option maxRecDepth 100000 in
set_option maxHeartbeats 2000000 in
theorem heads_106a (over : Bool)   (w : World) : Calls Try.prog 38 #[.int .i64 106, .int .i64 44, .bool over] w (RuleRes ([44, 45, 23], true) w) := by
  go_enter Try.func38, Try.ntmps38
  go_wp2_with fail
  go_ret2
  exact rr_row _ [44, 45, 23] _

set_option maxRecDepth 100000 in
set_option maxHeartbeats 2000000 in
theorem heads_106b (over : Bool)   (w : World) : Calls Try.prog 38 #[.int .i64 106, .int .i64 23, .bool over] w (RuleRes ([23], true) w) := by
  go_enter Try.func38, Try.ntmps38
  go_wp2_with fail
  go_ret2
  exact rr_row _ [23] _

set_option maxRecDepth 100000 in
set_option maxHeartbeats 2000000 in
theorem heads_106c (k : Int) (over : Bool) (h44 : k ≠ 44) (h23 : k ≠ 23)  (w : World) : Calls Try.prog 38 #[.int .i64 106, .int .i64 k, .bool over] w (RuleRes ([k], k == 24) w) := by
  have q44 : (k == 44) = false := beq_eq_false_iff_ne.2 h44
  have q23 : (k == 23) = false := beq_eq_false_iff_ne.2 h23
  clear h44 h23
  go_enter Try.func38, Try.ntmps38
  go_wp2_with fail
  go_ret2
  exact rr_row _ [k] _

set_option maxRecDepth 100000 in
set_option maxHeartbeats 2000000 in
theorem heads_107 (k : Int) (over : Bool)   (w : World) : Calls Try.prog 38 #[.int .i64 107, .int .i64 k, .bool over] w (RuleRes ([2003, 42, 4000, 108, 43, 4001, 1003], k == 42) w) := by
  go_enter Try.func38, Try.ntmps38
  go_wp2_with fail
  go_ret2
  exact rr_row _ [2003, 42, 4000, 108, 43, 4001, 1003] _

theorem heads_c (g k : Int) (over : Bool) (h1 : 100 ≤ g) (h2 : g ≤ 107) (w : World) : Calls Try.prog 38 #[.int .i64 g, .int .i64 k, .bool over] w (RuleRes (Rf.heads g k over) w) := by
  have hg : g = 100 ∨ g = 101 ∨ g = 102 ∨ g = 103 ∨ g = 104 ∨ g = 105 ∨ g = 106 ∨ g = 107 := by omega
  rcases hg with rfl | rfl | rfl | rfl | rfl | rfl | rfl | rfl
  · cases over
    · exact heads_100f k w
    · exact heads_100t k w
  · exact heads_101 k over w
  · by_cases h : k = 41
    · subst h; exact heads_102a over w
    · rw [show Rf.heads 102 k over = ([103, 104], k == 1) by simp [Rf.heads, h]]; exact heads_102b k over h w
  · exact heads_103 k over w
  · by_cases h : k = 41
    · subst h; exact heads_104a over w
    · rw [show Rf.heads 104 k over = ([46, 103, 104], k == 46) by simp [Rf.heads, h]]; exact heads_104b k over h w
  · by_cases h : k = 42
    · subst h; exact heads_105a over w
    by_cases h3 : k = 23
    · subst h3; exact heads_105b over w
    by_cases h4 : k = 24
    · subst h4; exact heads_105c over w
    rw [show Rf.heads 105 k over = ([106], k == 44) by simp [Rf.heads, h, h3, h4]]; exact heads_105d k over h h3 h4 w
  · by_cases h : k = 44
    · subst h; exact heads_106a over w
    by_cases h3 : k = 23
    · subst h3; exact heads_106b over w
    rw [show Rf.heads 106 k over = ([k], k == 24) by simp [Rf.heads, h, h3]]; exact heads_106c k over h h3 w
  · exact heads_107 k over w

set_option maxRecDepth 100000 in
set_option maxHeartbeats 2000000 in
theorem statement_11    (w : World) : Calls Try.prog 49 #[.int .i64 11] w (RuleRes ([2004, 11, 1, 4002, 106, 4003, 110, 47, 1004], true) w) := by
  go_enter Try.func49, Try.ntmps49
  go_wp2_with fail
  go_ret2
  exact rr_row _ [2004, 11, 1, 4002, 106, 4003, 110, 47, 1004] _

set_option maxRecDepth 100000 in
set_option maxHeartbeats 2000000 in
theorem statement_1    (w : World) : Calls Try.prog 49 #[.int .i64 1] w (RuleRes ([2007, 1, 111], true) w) := by
  go_enter Try.func49, Try.ntmps49
  go_wp2_with fail
  go_ret2
  exact rr_row _ [2007, 1, 111] _

set_option maxRecDepth 100000 in
set_option maxHeartbeats 2000000 in
theorem statement_18    (w : World) : Calls Try.prog 49 #[.int .i64 18] w (RuleRes ([2008, 18, 40, 4000, 119, 41, 4001, 47, 1008], true) w) := by
  go_enter Try.func49, Try.ntmps49
  go_wp2_with fail
  go_ret2
  exact rr_row _ [2008, 18, 40, 4000, 119, 41, 4001, 47, 1008] _

set_option maxRecDepth 100000 in
set_option maxHeartbeats 2000000 in
theorem statement_19    (w : World) : Calls Try.prog 49 #[.int .i64 19] w (RuleRes ([2009, 19, 40, 4000, 119, 41, 4001, 47, 1009], true) w) := by
  go_enter Try.func49, Try.ntmps49
  go_wp2_with fail
  go_ret2
  exact rr_row _ [2009, 19, 40, 4000, 119, 41, 4001, 47, 1009] _

set_option maxRecDepth 100000 in
set_option maxHeartbeats 2000000 in
theorem statement_12    (w : World) : Calls Try.prog 49 #[.int .i64 12] w (RuleRes ([112], true) w) := by
  go_enter Try.func49, Try.ntmps49
  go_wp2_with fail
  go_ret2
  exact rr_row _ [112] _

set_option maxRecDepth 100000 in
set_option maxHeartbeats 2000000 in
theorem statement_14    (w : World) : Calls Try.prog 49 #[.int .i64 14] w (RuleRes ([2011, 14, 115, 107, 1011], true) w) := by
  go_enter Try.func49, Try.ntmps49
  go_wp2_with fail
  go_ret2
  exact rr_row _ [2011, 14, 115, 107, 1011] _

set_option maxRecDepth 100000 in
set_option maxHeartbeats 2000000 in
theorem statement_15    (w : World) : Calls Try.prog 49 #[.int .i64 15] w (RuleRes ([2012, 15, 116, 47, 1012], true) w) := by
  go_enter Try.func49, Try.ntmps49
  go_wp2_with fail
  go_ret2
  exact rr_row _ [2012, 15, 116, 47, 1012] _

set_option maxRecDepth 100000 in
set_option maxHeartbeats 2000000 in
theorem statement_16    (w : World) : Calls Try.prog 49 #[.int .i64 16] w (RuleRes ([2013, 16, 47, 1013], true) w) := by
  go_enter Try.func49, Try.ntmps49
  go_wp2_with fail
  go_ret2
  exact rr_row _ [2013, 16, 47, 1013] _

set_option maxRecDepth 100000 in
set_option maxHeartbeats 2000000 in
theorem statement_17    (w : World) : Calls Try.prog 49 #[.int .i64 17] w (RuleRes ([2014, 17, 47, 1014], true) w) := by
  go_enter Try.func49, Try.ntmps49
  go_wp2_with fail
  go_ret2
  exact rr_row _ [2014, 17, 47, 1014] _

set_option maxRecDepth 100000 in
set_option maxHeartbeats 2000000 in
theorem statement_42    (w : World) : Calls Try.prog 49 #[.int .i64 42] w (RuleRes ([107], true) w) := by
  go_enter Try.func49, Try.ntmps49
  go_wp2_with fail
  go_ret2
  exact rr_row _ [107] _

set_option maxRecDepth 100000 in
set_option maxHeartbeats 2000000 in
theorem statement_no (k : Int) (h11 : k ≠ 11) (h1 : k ≠ 1) (h18 : k ≠ 18) (h19 : k ≠ 19) (h12 : k ≠ 12) (h14 : k ≠ 14) (h15 : k ≠ 15) (h16 : k ≠ 16) (h17 : k ≠ 17) (h42 : k ≠ 42)  (w : World) : Calls Try.prog 49 #[.int .i64 k] w (RuleRes ([], false) w) := by
  have q11 : (k == 11) = false := beq_eq_false_iff_ne.2 h11
  have q1 : (k == 1) = false := beq_eq_false_iff_ne.2 h1
  have q18 : (k == 18) = false := beq_eq_false_iff_ne.2 h18
  have q19 : (k == 19) = false := beq_eq_false_iff_ne.2 h19
  have q12 : (k == 12) = false := beq_eq_false_iff_ne.2 h12
  have q14 : (k == 14) = false := beq_eq_false_iff_ne.2 h14
  have q15 : (k == 15) = false := beq_eq_false_iff_ne.2 h15
  have q16 : (k == 16) = false := beq_eq_false_iff_ne.2 h16
  have q17 : (k == 17) = false := beq_eq_false_iff_ne.2 h17
  have q42 : (k == 42) = false := beq_eq_false_iff_ne.2 h42
  clear h11 h1 h18 h19 h12 h14 h15 h16 h17 h42
  go_enter Try.func49, Try.ntmps49
  go_wp2_with fail
  go_ret2
  exact rr_nil _ _

theorem statement_c (k : Int) (w : World) : Calls Try.prog 49 #[.int .i64 k] w (RuleRes (Rf.statement k) w) := by
  by_cases h11 : k = 11
  · subst h11; exact statement_11 w
  by_cases h1 : k = 1
  · subst h1; exact statement_1 w
  by_cases h18 : k = 18
  · subst h18; exact statement_18 w
  by_cases h19 : k = 19
  · subst h19; exact statement_19 w
  by_cases h12 : k = 12
  · subst h12; exact statement_12 w
  by_cases h14 : k = 14
  · subst h14; exact statement_14 w
  by_cases h15 : k = 15
  · subst h15; exact statement_15 w
  by_cases h16 : k = 16
  · subst h16; exact statement_16 w
  by_cases h17 : k = 17
  · subst h17; exact statement_17 w
  by_cases h42 : k = 42
  · subst h42; exact statement_42 w
  rw [show Rf.statement k = ([], false) by simp [Rf.statement, h11, h1, h18, h19, h12, h14, h15, h16, h17, h42]]
  exact statement_no k h11 h1 h18 h19 h12 h14 h15 h16 h17 h42 w

set_option maxRecDepth 100000 in
set_option maxHeartbeats 2000000 in
theorem prim_2    (w : World) : Calls Try.prog 51 #[.int .i64 2] w (RuleRes ([2020, 2, 4006, 1020], true) w) := by
  go_enter Try.func51, Try.ntmps51
  go_wp2_with fail
  go_ret2
  exact rr_row _ [2020, 2, 4006, 1020] _

set_option maxRecDepth 100000 in
set_option maxHeartbeats 2000000 in
theorem prim_25    (w : World) : Calls Try.prog 51 #[.int .i64 25] w (RuleRes ([2021, 25, 1021], true) w) := by
  go_enter Try.func51, Try.ntmps51
  go_wp2_with fail
  go_ret2
  exact rr_row _ [2021, 25, 1021] _

set_option maxRecDepth 100000 in
set_option maxHeartbeats 2000000 in
theorem prim_26    (w : World) : Calls Try.prog 51 #[.int .i64 26] w (RuleRes ([2022, 26, 1022], true) w) := by
  go_enter Try.func51, Try.ntmps51
  go_wp2_with fail
  go_ret2
  exact rr_row _ [2022, 26, 1022] _

set_option maxRecDepth 100000 in
set_option maxHeartbeats 2000000 in
theorem prim_27    (w : World) : Calls Try.prog 51 #[.int .i64 27] w (RuleRes ([2023, 27, 1023], true) w) := by
  go_enter Try.func51, Try.ntmps51
  go_wp2_with fail
  go_ret2
  exact rr_row _ [2023, 27, 1023] _

set_option maxRecDepth 100000 in
set_option maxHeartbeats 2000000 in
theorem prim_1    (w : World) : Calls Try.prog 51 #[.int .i64 1] w (RuleRes ([2024, 1, 4002, 132], true) w) := by
  go_enter Try.func51, Try.ntmps51
  go_wp2_with fail
  go_ret2
  exact rr_row _ [2024, 1, 4002, 132] _

set_option maxRecDepth 100000 in
set_option maxHeartbeats 2000000 in
theorem prim_20    (w : World) : Calls Try.prog 51 #[.int .i64 20] w (RuleRes ([2026, 20, 40, 4000, 41, 4001, 1026], true) w) := by
  go_enter Try.func51, Try.ntmps51
  go_wp2_with fail
  go_ret2
  exact rr_row _ [2026, 20, 40, 4000, 41, 4001, 1026] _

set_option maxRecDepth 100000 in
set_option maxHeartbeats 2000000 in
theorem prim_21    (w : World) : Calls Try.prog 51 #[.int .i64 21] w (RuleRes ([2027, 21, 40, 4000, 119, 41, 4001, 1027], true) w) := by
  go_enter Try.func51, Try.ntmps51
  go_wp2_with fail
  go_ret2
  exact rr_row _ [2027, 21, 40, 4000, 119, 41, 4001, 1027] _

set_option maxRecDepth 100000 in
set_option maxHeartbeats 2000000 in
theorem prim_22    (w : World) : Calls Try.prog 51 #[.int .i64 22] w (RuleRes ([2028, 22, 40, 4000, 44, 45, 23, 46, 119, 41, 4001, 1028], true) w) := by
  go_enter Try.func51, Try.ntmps51
  go_wp2_with fail
  go_ret2
  exact rr_row _ [2028, 22, 40, 4000, 44, 45, 23, 46, 119, 41, 4001, 1028] _

set_option maxRecDepth 100000 in
set_option maxHeartbeats 2000000 in
theorem prim_40    (w : World) : Calls Try.prog 51 #[.int .i64 40] w (RuleRes ([40, 4000, 119, 41, 4001], true) w) := by
  go_enter Try.func51, Try.ntmps51
  go_wp2_with fail
  go_ret2
  exact rr_row _ [40, 4000, 119, 41, 4001] _

set_option maxRecDepth 100000 in
set_option maxHeartbeats 2000000 in
theorem prim_no (k : Int) (h2 : k ≠ 2) (h25 : k ≠ 25) (h26 : k ≠ 26) (h27 : k ≠ 27) (h1 : k ≠ 1) (h20 : k ≠ 20) (h21 : k ≠ 21) (h22 : k ≠ 22) (h40 : k ≠ 40)  (w : World) : Calls Try.prog 51 #[.int .i64 k] w (RuleRes ([], false) w) := by
  have q2 : (k == 2) = false := beq_eq_false_iff_ne.2 h2
  have q25 : (k == 25) = false := beq_eq_false_iff_ne.2 h25
  have q26 : (k == 26) = false := beq_eq_false_iff_ne.2 h26
  have q27 : (k == 27) = false := beq_eq_false_iff_ne.2 h27
  have q1 : (k == 1) = false := beq_eq_false_iff_ne.2 h1
  have q20 : (k == 20) = false := beq_eq_false_iff_ne.2 h20
  have q21 : (k == 21) = false := beq_eq_false_iff_ne.2 h21
  have q22 : (k == 22) = false := beq_eq_false_iff_ne.2 h22
  have q40 : (k == 40) = false := beq_eq_false_iff_ne.2 h40
  clear h2 h25 h26 h27 h1 h20 h21 h22 h40
  go_enter Try.func51, Try.ntmps51
  go_wp2_with fail
  go_ret2
  exact rr_nil _ _

theorem prim_c (k : Int) (w : World) : Calls Try.prog 51 #[.int .i64 k] w (RuleRes (Rf.prim k) w) := by
  by_cases h2 : k = 2
  · subst h2; exact prim_2 w
  by_cases h25 : k = 25
  · subst h25; exact prim_25 w
  by_cases h26 : k = 26
  · subst h26; exact prim_26 w
  by_cases h27 : k = 27
  · subst h27; exact prim_27 w
  by_cases h1 : k = 1
  · subst h1; exact prim_1 w
  by_cases h20 : k = 20
  · subst h20; exact prim_20 w
  by_cases h21 : k = 21
  · subst h21; exact prim_21 w
  by_cases h22 : k = 22
  · subst h22; exact prim_22 w
  by_cases h40 : k = 40
  · subst h40; exact prim_40 w
  rw [show Rf.prim k = ([], false) by simp [Rf.prim, h2, h25, h26, h27, h1, h20, h21, h22, h40]]
  exact prim_no k h2 h25 h26 h27 h1 h20 h21 h22 h40 w

set_option maxRecDepth 100000 in
set_option maxHeartbeats 2000000 in
theorem statements_108a    (w : World) : Calls Try.prog 39 #[.int .i64 108, .int .i64 43] w (RuleRes ([], true) w) := by
  go_enter Try.func39, Try.ntmps39
  go_wp2_with fail
  go_ret2
  exact rr_nil _ _

set_option maxRecDepth 100000 in
set_option maxHeartbeats 2000000 in
theorem statements_108b (k : Int) (h43 : k ≠ 43)  (w : World) : Calls Try.prog 39 #[.int .i64 108, .int .i64 k] w (RuleRes ([109, 108], true) w) := by
  have q43 : (k == 43) = false := beq_eq_false_iff_ne.2 h43
  clear h43
  go_enter Try.func39, Try.ntmps39
  go_wp2_with fail
  go_ret2
  exact rr_row _ [109, 108] _

set_option maxRecDepth 100000 in
set_option maxHeartbeats 2000000 in
theorem statements_110a    (w : World) : Calls Try.prog 39 #[.int .i64 110, .int .i64 47] w (RuleRes ([], true) w) := by
  go_enter Try.func39, Try.ntmps39
  go_wp2_with fail
  go_ret2
  exact rr_nil _ _

set_option maxRecDepth 100000 in
set_option maxHeartbeats 2000000 in
theorem statements_110b (k : Int) (h47 : k ≠ 47)  (w : World) : Calls Try.prog 39 #[.int .i64 110, .int .i64 k] w (RuleRes ([48, 119], k == 48) w) := by
  have q47 : (k == 47) = false := beq_eq_false_iff_ne.2 h47
  clear h47
  go_enter Try.func39, Try.ntmps39
  go_wp2_with fail
  go_ret2
  exact rr_row _ [48, 119] _

set_option maxRecDepth 100000 in
set_option maxHeartbeats 2000000 in
theorem statements_111a    (w : World) : Calls Try.prog 39 #[.int .i64 111, .int .i64 48] w (RuleRes ([4002, 5005, 48, 119, 47, 1005], true) w) := by
  go_enter Try.func39, Try.ntmps39
  go_wp2_with fail
  go_ret2
  exact rr_row _ [4002, 5005, 48, 119, 47, 1005] _

set_option maxRecDepth 100000 in
set_option maxHeartbeats 2000000 in
theorem statements_111b    (w : World) : Calls Try.prog 39 #[.int .i64 111, .int .i64 44] w (RuleRes ([4002, 5006, 44, 4000, 119, 45, 4001, 48, 119, 47, 1006], true) w) := by
  go_enter Try.func39, Try.ntmps39
  go_wp2_with fail
  go_ret2
  exact rr_row _ [4002, 5006, 44, 4000, 119, 45, 4001, 48, 119, 47, 1006] _

set_option maxRecDepth 100000 in
set_option maxHeartbeats 2000000 in
theorem statements_111c    (w : World) : Calls Try.prog 39 #[.int .i64 111, .int .i64 40] w (RuleRes ([6025, 4002, 40, 4000, 117, 41, 4001, 1025, 47, 1007], true) w) := by
  go_enter Try.func39, Try.ntmps39
  go_wp2_with fail
  go_ret2
  exact rr_row _ [6025, 4002, 40, 4000, 117, 41, 4001, 1025, 47, 1007] _

set_option maxRecDepth 100000 in
set_option maxHeartbeats 2000000 in
theorem statements_111d (k : Int) (h48 : k ≠ 48) (h44 : k ≠ 44) (h40 : k ≠ 40)  (w : World) : Calls Try.prog 39 #[.int .i64 111, .int .i64 k] w (RuleRes ([], false) w) := by
  have q48 : (k == 48) = false := beq_eq_false_iff_ne.2 h48
  have q44 : (k == 44) = false := beq_eq_false_iff_ne.2 h44
  have q40 : (k == 40) = false := beq_eq_false_iff_ne.2 h40
  clear h48 h44 h40
  go_enter Try.func39, Try.ntmps39
  go_wp2_with fail
  go_ret2
  exact rr_nil _ _

set_option maxRecDepth 100000 in
set_option maxHeartbeats 2000000 in
theorem statements_112 (k : Int)   (w : World) : Calls Try.prog 39 #[.int .i64 112, .int .i64 k] w (RuleRes ([2010, 12, 119, 107, 113, 1010], k == 12) w) := by
  go_enter Try.func39, Try.ntmps39
  go_wp2_with fail
  go_ret2
  exact rr_row _ [2010, 12, 119, 107, 113, 1010] _

set_option maxRecDepth 100000 in
set_option maxHeartbeats 2000000 in
theorem statements_113a    (w : World) : Calls Try.prog 39 #[.int .i64 113, .int .i64 13] w (RuleRes ([13, 114], true) w) := by
  go_enter Try.func39, Try.ntmps39
  go_wp2_with fail
  go_ret2
  exact rr_row _ [13, 114] _

set_option maxRecDepth 100000 in
set_option maxHeartbeats 2000000 in
theorem statements_113b (k : Int) (h13 : k ≠ 13)  (w : World) : Calls Try.prog 39 #[.int .i64 113, .int .i64 k] w (RuleRes ([], true) w) := by
  have q13 : (k == 13) = false := beq_eq_false_iff_ne.2 h13
  clear h13
  go_enter Try.func39, Try.ntmps39
  go_wp2_with fail
  go_ret2
  exact rr_nil _ _

set_option maxRecDepth 100000 in
set_option maxHeartbeats 2000000 in
theorem statements_114a    (w : World) : Calls Try.prog 39 #[.int .i64 114, .int .i64 12] w (RuleRes ([4000, 112, 4001], true) w) := by
  go_enter Try.func39, Try.ntmps39
  go_wp2_with fail
  go_ret2
  exact rr_row _ [4000, 112, 4001] _

set_option maxRecDepth 100000 in
set_option maxHeartbeats 2000000 in
theorem statements_114b (k : Int) (h12 : k ≠ 12)  (w : World) : Calls Try.prog 39 #[.int .i64 114, .int .i64 k] w (RuleRes ([107], k == 42) w) := by
  have q12 : (k == 12) = false := beq_eq_false_iff_ne.2 h12
  clear h12
  go_enter Try.func39, Try.ntmps39
  go_wp2_with fail
  go_ret2
  exact rr_row _ [107] _

set_option maxRecDepth 100000 in
set_option maxHeartbeats 2000000 in
theorem statements_115a    (w : World) : Calls Try.prog 39 #[.int .i64 115, .int .i64 42] w (RuleRes ([], true) w) := by
  go_enter Try.func39, Try.ntmps39
  go_wp2_with fail
  go_ret2
  exact rr_nil _ _

set_option maxRecDepth 100000 in
set_option maxHeartbeats 2000000 in
theorem statements_115b (k : Int) (h42 : k ≠ 42)  (w : World) : Calls Try.prog 39 #[.int .i64 115, .int .i64 k] w (RuleRes ([119], true) w) := by
  have q42 : (k == 42) = false := beq_eq_false_iff_ne.2 h42
  clear h42
  go_enter Try.func39, Try.ntmps39
  go_wp2_with fail
  go_ret2
  exact rr_row _ [119] _

set_option maxRecDepth 100000 in
set_option maxHeartbeats 2000000 in
theorem statements_116a    (w : World) : Calls Try.prog 39 #[.int .i64 116, .int .i64 47] w (RuleRes ([], true) w) := by
  go_enter Try.func39, Try.ntmps39
  go_wp2_with fail
  go_ret2
  exact rr_nil _ _

set_option maxRecDepth 100000 in
set_option maxHeartbeats 2000000 in
theorem statements_116b (k : Int) (h47 : k ≠ 47)  (w : World) : Calls Try.prog 39 #[.int .i64 116, .int .i64 k] w (RuleRes ([119], true) w) := by
  have q47 : (k == 47) = false := beq_eq_false_iff_ne.2 h47
  clear h47
  go_enter Try.func39, Try.ntmps39
  go_wp2_with fail
  go_ret2
  exact rr_row _ [119] _

set_option maxRecDepth 100000 in
set_option maxHeartbeats 2000000 in
theorem statements_109 (k : Int)  (w : World) : Calls Try.prog 39 #[.int .i64 109, .int .i64 k] w (RuleRes (Rf.statement k) w) := by
  go_enter Try.func39, Try.ntmps39
  go_wp2_with fail
  refine (statement_c k _).mono ?_
  rintro e w1 ⟨a, n, cap, rfl, hn, hh⟩
  have Hh := Lib.hid hh
  have Hn := Lib.hid hn
  clear hh hn
  go_wp2_with fail
  go_ret2
  exact ⟨a, n, cap, rfl, Hn.out, Hh.out⟩

theorem statements_c (g k : Int) (h1 : 108 ≤ g) (h2 : g ≤ 116) (w : World) : Calls Try.prog 39 #[.int .i64 g, .int .i64 k] w (RuleRes (Rf.statements g k) w) := by
  have hg : g = 108 ∨ g = 109 ∨ g = 110 ∨ g = 111 ∨ g = 112 ∨ g = 113 ∨ g = 114 ∨ g = 115 ∨ g = 116 := by omega
  rcases hg with rfl | rfl | rfl | rfl | rfl | rfl | rfl | rfl | rfl
  · by_cases h : k = 43
    · subst h; exact statements_108a w
    · rw [show Rf.statements 108 k = ([109, 108], true) by simp [Rf.statements, h]]; exact statements_108b k h w
  · exact statements_109 k w
  · by_cases h : k = 47
    · subst h; exact statements_110a w
    · rw [show Rf.statements 110 k = ([48, 119], k == 48) by simp [Rf.statements, h]]; exact statements_110b k h w
  · by_cases h : k = 48
    · subst h; exact statements_111a w
    by_cases h3 : k = 44
    · subst h3; exact statements_111b w
    by_cases h4 : k = 40
    · subst h4; exact statements_111c w
    rw [show Rf.statements 111 k = ([], false) by simp [Rf.statements, h, h3, h4]]; exact statements_111d k h h3 h4 w
  · exact statements_112 k w
  · by_cases h : k = 13
    · subst h; exact statements_113a w
    · rw [show Rf.statements 113 k = ([], true) by simp [Rf.statements, h]]; exact statements_113b k h w
  · by_cases h : k = 12
    · subst h; exact statements_114a w
    · rw [show Rf.statements 114 k = ([107], k == 42) by simp [Rf.statements, h]]; exact statements_114b k h w
  · by_cases h : k = 42
    · subst h; exact statements_115a w
    · rw [show Rf.statements 115 k = ([119], true) by simp [Rf.statements, h]]; exact statements_115b k h w
  · by_cases h : k = 47
    · subst h; exact statements_116a w
    · rw [show Rf.statements 116 k = ([119], true) by simp [Rf.statements, h]]; exact statements_116b k h w

set_option maxRecDepth 100000 in
set_option maxHeartbeats 2000000 in
theorem chain_no (k v m : Int) (w : World) : Calls Try.prog 50 #[.int .i64 k, .bool false, .int .i64 v, .int .i64 m] w (RuleRes ([], true) w) := by
  go_enter Try.func50, Try.ntmps50
  go_wp2_with fail
  go_ret2
  exact rr_nil _ _
set_option maxRecDepth 100000 in
set_option maxHeartbeats 2000000 in
theorem chain_0 (k v : Int) (w : World) : Calls Try.prog 50 #[.int .i64 k, .bool true, .int .i64 v, .int .i64 0] w (RuleRes ([3031, k, 4004, v, 1031], true) w) := by
  go_enter Try.func50, Try.ntmps50
  go_wp2_with fail
  go_ret2
  exact rr_row _ [3031, k, 4004, v, 1031] _
set_option maxRecDepth 100000 in
set_option maxHeartbeats 2000000 in
theorem chain_more (k v m : Int) (hm : m ≠ 0) (w : World) : Calls Try.prog 50 #[.int .i64 k, .bool true, .int .i64 v, .int .i64 m] w (RuleRes ([3031, k, 4004, v, 1031, m], true) w) := by
  have qm : (m == 0) = false := beq_eq_false_iff_ne.2 hm
  have qn : (m != 0) = true := by rw [bne_iff_ne]; exact hm
  obtain ⟨i0, hi0, hz0, hz1, hz2⟩ := info_parts infoInt
  clear hm
  go_enter Try.func50, Try.ntmps50
  have H := Lib.hid ((((Hs.start w).alloc (ints [3031, k, 4004, v, 1031]) 3).asRow 0 rfl 1 5 rfl (by unfold maxLen; omega)).alloc [.int .i64 m] 3)
  go_wp2_with (at_builtin; go_must (refine Hs.push rfl _ _ 33 rfl 3 i0 _ 1 8 (by kernel_rfl) hi0 hz0 hz1 hz2 rfl (Nat.succ_pos _) (Nat.le_of_ble_eq_true rfl) 1 (.slice (some ⟨w.heap.size, 0, none⟩) 5 5) 5 (ints [3031, k, 4004, v, 1031]) rfl 0 (w.heap.size + 1) [.int .i64 m] (by simp) rfl rfl rfl rfl (Nat.le_of_ble_eq_true rfl) H.out ?_))
  intro v1 w1 hh
  obtain ⟨a2, cp2, rfl, _, _⟩ := hh.form 1 rfl
  have Hh := Lib.hid hh
  clear hh
  go_wp2_with fail
  go_ret2
  exact rr_hs (l := [3031, k, 4004, v, 1031, m]) Hh.out.tail
theorem chain_c (k v m : Int) (b : Bool) (w : World) : Calls Try.prog 50 #[.int .i64 k, .bool b, .int .i64 v, .int .i64 m] w (RuleRes (Rf.chain k b v m) w) := by
  cases b
  · exact chain_no k v m w
  · by_cases h : m = 0
    · subst h; exact chain_0 k v w
    · rw [show Rf.chain k true v m = ([3031, k, 4004, v, 1031, m], true) by simp [Rf.chain, h]]; exact chain_more k v m h w

set_option maxRecDepth 100000 in
set_option maxHeartbeats 2000000 in
theorem values_117a    (w : World) : Calls Try.prog 40 #[.int .i64 117, .int .i64 41] w (RuleRes ([], true) w) := by
  go_enter Try.func40, Try.ntmps40
  go_wp2_with fail
  go_ret2
  exact rr_nil _ _

set_option maxRecDepth 100000 in
set_option maxHeartbeats 2000000 in
theorem values_117b (k : Int) (h41 : k ≠ 41)  (w : World) : Calls Try.prog 40 #[.int .i64 117, .int .i64 k] w (RuleRes ([119, 118], true) w) := by
  have q41 : (k == 41) = false := beq_eq_false_iff_ne.2 h41
  clear h41
  go_enter Try.func40, Try.ntmps40
  go_wp2_with fail
  go_ret2
  exact rr_row _ [119, 118] _

set_option maxRecDepth 100000 in
set_option maxHeartbeats 2000000 in
theorem values_118a    (w : World) : Calls Try.prog 40 #[.int .i64 118, .int .i64 41] w (RuleRes ([], true) w) := by
  go_enter Try.func40, Try.ntmps40
  go_wp2_with fail
  go_ret2
  exact rr_nil _ _

set_option maxRecDepth 100000 in
set_option maxHeartbeats 2000000 in
theorem values_118b (k : Int) (h41 : k ≠ 41)  (w : World) : Calls Try.prog 40 #[.int .i64 118, .int .i64 k] w (RuleRes ([46, 119, 118], k == 46) w) := by
  have q41 : (k == 41) = false := beq_eq_false_iff_ne.2 h41
  clear h41
  go_enter Try.func40, Try.ntmps40
  go_wp2_with fail
  go_ret2
  exact rr_row _ [46, 119, 118] _

set_option maxRecDepth 100000 in
set_option maxHeartbeats 2000000 in
theorem values_119 (k : Int)   (w : World) : Calls Try.prog 40 #[.int .i64 119, .int .i64 k] w (RuleRes ([121, 120], true) w) := by
  go_enter Try.func40, Try.ntmps40
  go_wp2_with fail
  go_ret2
  exact rr_row _ [121, 120] _

set_option maxRecDepth 100000 in
set_option maxHeartbeats 2000000 in
theorem values_120 (k : Int)  (w : World) : Calls Try.prog 40 #[.int .i64 120, .int .i64 k] w (RuleRes (Rf.chain k (k == 67) 121 120) w) := by
  go_enter Try.func40, Try.ntmps40
  go_wp2_with fail
  refine (chain_c _ _ _ _ _).mono ?_
  rintro e w1 ⟨a, n, cap, rfl, hn, hh⟩
  have Hh := Lib.hid hh
  have Hn := Lib.hid hn
  clear hh hn
  go_wp2_with fail
  go_ret2
  exact ⟨a, n, cap, rfl, Hn.out, Hh.out⟩

set_option maxRecDepth 100000 in
set_option maxHeartbeats 2000000 in
theorem values_121 (k : Int)   (w : World) : Calls Try.prog 40 #[.int .i64 121, .int .i64 k] w (RuleRes ([123, 122], true) w) := by
  go_enter Try.func40, Try.ntmps40
  go_wp2_with fail
  go_ret2
  exact rr_row _ [123, 122] _

set_option maxRecDepth 100000 in
set_option maxHeartbeats 2000000 in
theorem values_122 (k : Int)  (w : World) : Calls Try.prog 40 #[.int .i64 122, .int .i64 k] w (RuleRes (Rf.chain k (k == 66) 123 122) w) := by
  go_enter Try.func40, Try.ntmps40
  go_wp2_with fail
  refine (chain_c _ _ _ _ _).mono ?_
  rintro e w1 ⟨a, n, cap, rfl, hn, hh⟩
  have Hh := Lib.hid hh
  have Hn := Lib.hid hn
  clear hh hn
  go_wp2_with fail
  go_ret2
  exact ⟨a, n, cap, rfl, Hn.out, Hh.out⟩

set_option maxRecDepth 100000 in
set_option maxHeartbeats 2000000 in
theorem values_123 (k : Int)   (w : World) : Calls Try.prog 40 #[.int .i64 123, .int .i64 k] w (RuleRes ([125, 124], true) w) := by
  go_enter Try.func40, Try.ntmps40
  go_wp2_with fail
  go_ret2
  exact rr_row _ [125, 124] _

set_option maxRecDepth 100000 in
set_option maxHeartbeats 2000000 in
theorem values_125 (k : Int)   (w : World) : Calls Try.prog 40 #[.int .i64 125, .int .i64 k] w (RuleRes ([127, 126], true) w) := by
  go_enter Try.func40, Try.ntmps40
  go_wp2_with fail
  go_ret2
  exact rr_row _ [127, 126] _

set_option maxRecDepth 100000 in
set_option maxHeartbeats 2000000 in
theorem values_127 (k : Int)   (w : World) : Calls Try.prog 40 #[.int .i64 127, .int .i64 k] w (RuleRes ([129, 128], true) w) := by
  go_enter Try.func40, Try.ntmps40
  go_wp2_with fail
  go_ret2
  exact rr_row _ [129, 128] _

set_option maxRecDepth 100000 in
set_option maxHeartbeats 2000000 in
theorem values_129a    (w : World) : Calls Try.prog 40 #[.int .i64 129, .int .i64 56] w (RuleRes ([2030, 56, 4005, 4000, 129, 4001, 1030], true) w) := by
  go_enter Try.func40, Try.ntmps40
  go_wp2_with fail
  go_ret2
  exact rr_row _ [2030, 56, 4005, 4000, 129, 4001, 1030] _

set_option maxRecDepth 100000 in
set_option maxHeartbeats 2000000 in
theorem values_129b    (w : World) : Calls Try.prog 40 #[.int .i64 129, .int .i64 68] w (RuleRes ([2030, 68, 4005, 4000, 129, 4001, 1030], true) w) := by
  go_enter Try.func40, Try.ntmps40
  go_wp2_with fail
  go_ret2
  exact rr_row _ [2030, 68, 4005, 4000, 129, 4001, 1030] _

set_option maxRecDepth 100000 in
set_option maxHeartbeats 2000000 in
theorem values_129c    (w : World) : Calls Try.prog 40 #[.int .i64 129, .int .i64 62] w (RuleRes ([2030, 62, 4005, 4000, 129, 4001, 1030], true) w) := by
  go_enter Try.func40, Try.ntmps40
  go_wp2_with fail
  go_ret2
  exact rr_row _ [2030, 62, 4005, 4000, 129, 4001, 1030] _

set_option maxRecDepth 100000 in
set_option maxHeartbeats 2000000 in
theorem values_129d (k : Int) (h56 : k ≠ 56) (h68 : k ≠ 68) (h62 : k ≠ 62)  (w : World) : Calls Try.prog 40 #[.int .i64 129, .int .i64 k] w (RuleRes ([131, 130], true) w) := by
  have q56 : (k == 56) = false := beq_eq_false_iff_ne.2 h56
  have q68 : (k == 68) = false := beq_eq_false_iff_ne.2 h68
  have q62 : (k == 62) = false := beq_eq_false_iff_ne.2 h62
  clear h56 h68 h62
  go_enter Try.func40, Try.ntmps40
  go_wp2_with fail
  go_ret2
  exact rr_row _ [131, 130] _

set_option maxRecDepth 100000 in
set_option maxHeartbeats 2000000 in
theorem values_130a    (w : World) : Calls Try.prog 40 #[.int .i64 130, .int .i64 44] w (RuleRes ([3029, 44, 4000, 119, 45, 4001, 1029, 130], true) w) := by
  go_enter Try.func40, Try.ntmps40
  go_wp2_with fail
  go_ret2
  exact rr_row _ [3029, 44, 4000, 119, 45, 4001, 1029, 130] _

set_option maxRecDepth 100000 in
set_option maxHeartbeats 2000000 in
theorem values_130b (k : Int) (h44 : k ≠ 44)  (w : World) : Calls Try.prog 40 #[.int .i64 130, .int .i64 k] w (RuleRes ([], true) w) := by
  have q44 : (k == 44) = false := beq_eq_false_iff_ne.2 h44
  clear h44
  go_enter Try.func40, Try.ntmps40
  go_wp2_with fail
  go_ret2
  exact rr_nil _ _

set_option maxRecDepth 100000 in
set_option maxHeartbeats 2000000 in
theorem values_132a    (w : World) : Calls Try.prog 40 #[.int .i64 132, .int .i64 40] w (RuleRes ([5025, 40, 4000, 117, 41, 4001, 1025], true) w) := by
  go_enter Try.func40, Try.ntmps40
  go_wp2_with fail
  go_ret2
  exact rr_row _ [5025, 40, 4000, 117, 41, 4001, 1025] _

set_option maxRecDepth 100000 in
set_option maxHeartbeats 2000000 in
theorem values_132b (k : Int) (h40 : k ≠ 40)  (w : World) : Calls Try.prog 40 #[.int .i64 132, .int .i64 k] w (RuleRes ([1024], true) w) := by
  have q40 : (k == 40) = false := beq_eq_false_iff_ne.2 h40
  clear h40
  go_enter Try.func40, Try.ntmps40
  go_wp2_with fail
  go_ret2
  exact rr_row _ [1024] _

set_option maxRecDepth 100000 in
set_option maxHeartbeats 2000000 in
theorem values_124_yes (k : Int) (h1 : 49 ≤ k) (h2 : k ≤ 54) (w : World) : Calls Try.prog 40 #[.int .i64 124, .int .i64 k] w (RuleRes (Rf.chain k true 125 0) w) := by
  go_enter Try.func40, Try.ntmps40
  go_wp2_with fail
  refine (chain_c _ _ _ _ _).mono ?_
  rintro e w1 ⟨a, n, cap, rfl, hn, hh⟩
  have Hh := Lib.hid hh
  have Hn := Lib.hid hn
  clear hh hn
  go_wp2_with fail
  go_ret2
  exact ⟨a, n, cap, rfl, Hn.out, Hh.out⟩

set_option maxRecDepth 100000 in
set_option maxHeartbeats 2000000 in
theorem values_124_lo (k : Int) (h1 : k < 49) (w : World) : Calls Try.prog 40 #[.int .i64 124, .int .i64 k] w (RuleRes (Rf.chain k false 125 0) w) := by
  go_enter Try.func40, Try.ntmps40
  go_wp2_with fail
  refine (chain_c _ _ _ _ _).mono ?_
  rintro e w1 ⟨a, n, cap, rfl, hn, hh⟩
  have Hh := Lib.hid hh
  have Hn := Lib.hid hn
  clear hh hn
  go_wp2_with fail
  go_ret2
  exact ⟨a, n, cap, rfl, Hn.out, Hh.out⟩

set_option maxRecDepth 100000 in
set_option maxHeartbeats 2000000 in
theorem values_124_hi (k : Int) (h1 : 49 ≤ k) (h2 : 54 < k) (w : World) : Calls Try.prog 40 #[.int .i64 124, .int .i64 k] w (RuleRes (Rf.chain k false 125 0) w) := by
  have e54 : decide (k ≤ 54) = false := decide_eq_false (by omega)
  go_enter Try.func40, Try.ntmps40
  go_wp2_with fail
  refine (chain_c _ _ _ _ _).mono ?_
  rintro e w1 ⟨a, n, cap, rfl, hn, hh⟩
  have Hh := Lib.hid hh
  have Hn := Lib.hid hn
  clear hh hn
  go_wp2_with fail
  go_ret2
  exact ⟨a, n, cap, rfl, Hn.out, Hh.out⟩

set_option maxRecDepth 100000 in
set_option maxHeartbeats 2000000 in
theorem values_126_55   (w : World) : Calls Try.prog 40 #[.int .i64 126, .int .i64 55] w (RuleRes (Rf.chain 55 true 127 126) w) := by
  go_enter Try.func40, Try.ntmps40
  go_wp2_with fail
  refine (chain_c _ _ _ _ _).mono ?_
  rintro e w1 ⟨a, n, cap, rfl, hn, hh⟩
  have Hh := Lib.hid hh
  have Hn := Lib.hid hn
  clear hh hn
  go_wp2_with fail
  go_ret2
  exact ⟨a, n, cap, rfl, Hn.out, Hh.out⟩

set_option maxRecDepth 100000 in
set_option maxHeartbeats 2000000 in
theorem values_126_56   (w : World) : Calls Try.prog 40 #[.int .i64 126, .int .i64 56] w (RuleRes (Rf.chain 56 true 127 126) w) := by
  go_enter Try.func40, Try.ntmps40
  go_wp2_with fail
  refine (chain_c _ _ _ _ _).mono ?_
  rintro e w1 ⟨a, n, cap, rfl, hn, hh⟩
  have Hh := Lib.hid hh
  have Hn := Lib.hid hn
  clear hh hn
  go_wp2_with fail
  go_ret2
  exact ⟨a, n, cap, rfl, Hn.out, Hh.out⟩

set_option maxRecDepth 100000 in
set_option maxHeartbeats 2000000 in
theorem values_126_61   (w : World) : Calls Try.prog 40 #[.int .i64 126, .int .i64 61] w (RuleRes (Rf.chain 61 true 127 126) w) := by
  go_enter Try.func40, Try.ntmps40
  go_wp2_with fail
  refine (chain_c _ _ _ _ _).mono ?_
  rintro e w1 ⟨a, n, cap, rfl, hn, hh⟩
  have Hh := Lib.hid hh
  have Hn := Lib.hid hn
  clear hh hn
  go_wp2_with fail
  go_ret2
  exact ⟨a, n, cap, rfl, Hn.out, Hh.out⟩

set_option maxRecDepth 100000 in
set_option maxHeartbeats 2000000 in
theorem values_126_62   (w : World) : Calls Try.prog 40 #[.int .i64 126, .int .i64 62] w (RuleRes (Rf.chain 62 true 127 126) w) := by
  go_enter Try.func40, Try.ntmps40
  go_wp2_with fail
  refine (chain_c _ _ _ _ _).mono ?_
  rintro e w1 ⟨a, n, cap, rfl, hn, hh⟩
  have Hh := Lib.hid hh
  have Hn := Lib.hid hn
  clear hh hn
  go_wp2_with fail
  go_ret2
  exact ⟨a, n, cap, rfl, Hn.out, Hh.out⟩

set_option maxRecDepth 100000 in
set_option maxHeartbeats 2000000 in
theorem values_126_no (k : Int) (h55 : k ≠ 55) (h56 : k ≠ 56) (h61 : k ≠ 61) (h62 : k ≠ 62) (w : World) : Calls Try.prog 40 #[.int .i64 126, .int .i64 k] w (RuleRes (Rf.chain k false 127 126) w) := by
  have q55 : (k == 55) = false := beq_eq_false_iff_ne.2 h55
  have q56 : (k == 56) = false := beq_eq_false_iff_ne.2 h56
  have q61 : (k == 61) = false := beq_eq_false_iff_ne.2 h61
  have q62 : (k == 62) = false := beq_eq_false_iff_ne.2 h62
  clear h55 h56 h61 h62
  go_enter Try.func40, Try.ntmps40
  go_wp2_with fail
  refine (chain_c _ _ _ _ _).mono ?_
  rintro e w1 ⟨a, n, cap, rfl, hn, hh⟩
  have Hh := Lib.hid hh
  have Hn := Lib.hid hn
  clear hh hn
  go_wp2_with fail
  go_ret2
  exact ⟨a, n, cap, rfl, Hn.out, Hh.out⟩

set_option maxRecDepth 100000 in
set_option maxHeartbeats 2000000 in
theorem values_128_57   (w : World) : Calls Try.prog 40 #[.int .i64 128, .int .i64 57] w (RuleRes (Rf.chain 57 true 129 128) w) := by
  go_enter Try.func40, Try.ntmps40
  go_wp2_with fail
  refine (chain_c _ _ _ _ _).mono ?_
  rintro e w1 ⟨a, n, cap, rfl, hn, hh⟩
  have Hh := Lib.hid hh
  have Hn := Lib.hid hn
  clear hh hn
  go_wp2_with fail
  go_ret2
  exact ⟨a, n, cap, rfl, Hn.out, Hh.out⟩

set_option maxRecDepth 100000 in
set_option maxHeartbeats 2000000 in
theorem values_128_58   (w : World) : Calls Try.prog 40 #[.int .i64 128, .int .i64 58] w (RuleRes (Rf.chain 58 true 129 128) w) := by
  go_enter Try.func40, Try.ntmps40
  go_wp2_with fail
  refine (chain_c _ _ _ _ _).mono ?_
  rintro e w1 ⟨a, n, cap, rfl, hn, hh⟩
  have Hh := Lib.hid hh
  have Hn := Lib.hid hn
  clear hh hn
  go_wp2_with fail
  go_ret2
  exact ⟨a, n, cap, rfl, Hn.out, Hh.out⟩

set_option maxRecDepth 100000 in
set_option maxHeartbeats 2000000 in
theorem values_128_59   (w : World) : Calls Try.prog 40 #[.int .i64 128, .int .i64 59] w (RuleRes (Rf.chain 59 true 129 128) w) := by
  go_enter Try.func40, Try.ntmps40
  go_wp2_with fail
  refine (chain_c _ _ _ _ _).mono ?_
  rintro e w1 ⟨a, n, cap, rfl, hn, hh⟩
  have Hh := Lib.hid hh
  have Hn := Lib.hid hn
  clear hh hn
  go_wp2_with fail
  go_ret2
  exact ⟨a, n, cap, rfl, Hn.out, Hh.out⟩

set_option maxRecDepth 100000 in
set_option maxHeartbeats 2000000 in
theorem values_128_60   (w : World) : Calls Try.prog 40 #[.int .i64 128, .int .i64 60] w (RuleRes (Rf.chain 60 true 129 128) w) := by
  go_enter Try.func40, Try.ntmps40
  go_wp2_with fail
  refine (chain_c _ _ _ _ _).mono ?_
  rintro e w1 ⟨a, n, cap, rfl, hn, hh⟩
  have Hh := Lib.hid hh
  have Hn := Lib.hid hn
  clear hh hn
  go_wp2_with fail
  go_ret2
  exact ⟨a, n, cap, rfl, Hn.out, Hh.out⟩

set_option maxRecDepth 100000 in
set_option maxHeartbeats 2000000 in
theorem values_128_mid (k : Int) (h57 : k ≠ 57) (h58 : k ≠ 58) (h59 : k ≠ 59) (h60 : k ≠ 60) (g1 : 63 ≤ k) (g2 : k ≤ 65) (w : World) : Calls Try.prog 40 #[.int .i64 128, .int .i64 k] w (RuleRes (Rf.chain k true 129 128) w) := by
  have q57 : (k == 57) = false := beq_eq_false_iff_ne.2 h57
  have q58 : (k == 58) = false := beq_eq_false_iff_ne.2 h58
  have q59 : (k == 59) = false := beq_eq_false_iff_ne.2 h59
  have q60 : (k == 60) = false := beq_eq_false_iff_ne.2 h60
  clear h57 h58 h59 h60
  go_enter Try.func40, Try.ntmps40
  go_wp2_with fail
  refine (chain_c _ _ _ _ _).mono ?_
  rintro e w1 ⟨a, n, cap, rfl, hn, hh⟩
  have Hh := Lib.hid hh
  have Hn := Lib.hid hn
  clear hh hn
  go_wp2_with fail
  go_ret2
  exact ⟨a, n, cap, rfl, Hn.out, Hh.out⟩

set_option maxRecDepth 100000 in
set_option maxHeartbeats 2000000 in
theorem values_128_lo (k : Int) (h57 : k ≠ 57) (h58 : k ≠ 58) (h59 : k ≠ 59) (h60 : k ≠ 60) (g1 : k < 63) (w : World) : Calls Try.prog 40 #[.int .i64 128, .int .i64 k] w (RuleRes (Rf.chain k false 129 128) w) := by
  have q57 : (k == 57) = false := beq_eq_false_iff_ne.2 h57
  have q58 : (k == 58) = false := beq_eq_false_iff_ne.2 h58
  have q59 : (k == 59) = false := beq_eq_false_iff_ne.2 h59
  have q60 : (k == 60) = false := beq_eq_false_iff_ne.2 h60
  clear h57 h58 h59 h60
  go_enter Try.func40, Try.ntmps40
  go_wp2_with fail
  refine (chain_c _ _ _ _ _).mono ?_
  rintro e w1 ⟨a, n, cap, rfl, hn, hh⟩
  have Hh := Lib.hid hh
  have Hn := Lib.hid hn
  clear hh hn
  go_wp2_with fail
  go_ret2
  exact ⟨a, n, cap, rfl, Hn.out, Hh.out⟩

set_option maxRecDepth 100000 in
set_option maxHeartbeats 2000000 in
theorem values_128_hi (k : Int) (h57 : k ≠ 57) (h58 : k ≠ 58) (h59 : k ≠ 59) (h60 : k ≠ 60) (g1 : 63 ≤ k) (g2 : 65 < k) (w : World) : Calls Try.prog 40 #[.int .i64 128, .int .i64 k] w (RuleRes (Rf.chain k false 129 128) w) := by
  have q57 : (k == 57) = false := beq_eq_false_iff_ne.2 h57
  have q58 : (k == 58) = false := beq_eq_false_iff_ne.2 h58
  have q59 : (k == 59) = false := beq_eq_false_iff_ne.2 h59
  have q60 : (k == 60) = false := beq_eq_false_iff_ne.2 h60
  clear h57 h58 h59 h60
  have e65 : decide (k ≤ 65) = false := decide_eq_false (by omega)
  go_enter Try.func40, Try.ntmps40
  go_wp2_with fail
  refine (chain_c _ _ _ _ _).mono ?_
  rintro e w1 ⟨a, n, cap, rfl, hn, hh⟩
  have Hh := Lib.hid hh
  have Hn := Lib.hid hn
  clear hh hn
  go_wp2_with fail
  go_ret2
  exact ⟨a, n, cap, rfl, Hn.out, Hh.out⟩

set_option maxRecDepth 100000 in
set_option maxHeartbeats 2000000 in
theorem values_prim (g : Int) (k : Int) (hg : g = 131 ∨ 132 < g) (w : World) : Calls Try.prog 40 #[.int .i64 g, .int .i64 k] w (RuleRes (Rf.prim k) w) := by
  have p117 : (g == 117) = false := beq_eq_false_iff_ne.2 (by omega)
  have p118 : (g == 118) = false := beq_eq_false_iff_ne.2 (by omega)
  have p119 : (g == 119) = false := beq_eq_false_iff_ne.2 (by omega)
  have p120 : (g == 120) = false := beq_eq_false_iff_ne.2 (by omega)
  have p121 : (g == 121) = false := beq_eq_false_iff_ne.2 (by omega)
  have p122 : (g == 122) = false := beq_eq_false_iff_ne.2 (by omega)
  have p123 : (g == 123) = false := beq_eq_false_iff_ne.2 (by omega)
  have p124 : (g == 124) = false := beq_eq_false_iff_ne.2 (by omega)
  have p125 : (g == 125) = false := beq_eq_false_iff_ne.2 (by omega)
  have p126 : (g == 126) = false := beq_eq_false_iff_ne.2 (by omega)
  have p127 : (g == 127) = false := beq_eq_false_iff_ne.2 (by omega)
  have p128 : (g == 128) = false := beq_eq_false_iff_ne.2 (by omega)
  have p129 : (g == 129) = false := beq_eq_false_iff_ne.2 (by omega)
  have p130 : (g == 130) = false := beq_eq_false_iff_ne.2 (by omega)
  have p132 : (g == 132) = false := beq_eq_false_iff_ne.2 (by omega)
  clear hg
  go_enter Try.func40, Try.ntmps40
  go_wp2_with fail
  refine (prim_c k _).mono ?_
  rintro e w1 ⟨a, n, cap, rfl, hn, hh⟩
  have Hh := Lib.hid hh
  have Hn := Lib.hid hn
  clear hh hn
  go_wp2_with fail
  go_ret2
  exact ⟨a, n, cap, rfl, Hn.out, Hh.out⟩

theorem values_c (g k : Int) (h1 : 117 ≤ g) (w : World) : Calls Try.prog 40 #[.int .i64 g, .int .i64 k] w (RuleRes (Rf.values g k) w) := by
  have hg : (g = 117 ∨ g = 118 ∨ g = 119 ∨ g = 120 ∨ g = 121 ∨ g = 122 ∨ g = 123 ∨ g = 124) ∨ (g = 125 ∨ g = 126 ∨ g = 127 ∨ g = 128 ∨ g = 129 ∨ g = 130 ∨ g = 132) ∨ (g = 131 ∨ 132 < g) := by omega
  rcases hg with (rfl | rfl | rfl | rfl | rfl | rfl | rfl | rfl) | (rfl | rfl | rfl | rfl | rfl | rfl | rfl) | hg
  · by_cases h : k = 41
    · subst h; exact values_117a w
    · rw [show Rf.values 117 k = ([119, 118], true) by simp [Rf.values, h]]; exact values_117b k h w
  · by_cases h : k = 41
    · subst h; exact values_118a w
    · rw [show Rf.values 118 k = ([46, 119, 118], k == 46) by simp [Rf.values, h]]; exact values_118b k h w
  · exact values_119 k w
  · exact values_120 k w
  · exact values_121 k w
  · exact values_122 k w
  · exact values_123 k w
  · by_cases h : k < 49
    · rw [show Rf.values 124 k = Rf.chain k false 125 0 by simp [Rf.values, show ¬ 49 ≤ k by omega]]; exact values_124_lo k h w
    by_cases h2 : k ≤ 54
    · rw [show Rf.values 124 k = Rf.chain k true 125 0 by simp [Rf.values, show 49 ≤ k by omega, h2]]; exact values_124_yes k (by omega) h2 w
    · rw [show Rf.values 124 k = Rf.chain k false 125 0 by simp [Rf.values, h2]]; exact values_124_hi k (by omega) (by omega) w
  · exact values_125 k w
  · by_cases h55 : k = 55
    · subst h55; exact values_126_55 w
    by_cases h56 : k = 56
    · subst h56; exact values_126_56 w
    by_cases h61 : k = 61
    · subst h61; exact values_126_61 w
    by_cases h62 : k = 62
    · subst h62; exact values_126_62 w
    rw [show Rf.values 126 k = Rf.chain k false 127 126 by simp [Rf.values, beq_eq_false_iff_ne.2 h55, beq_eq_false_iff_ne.2 h56, beq_eq_false_iff_ne.2 h61, beq_eq_false_iff_ne.2 h62]]; exact values_126_no k h55 h56 h61 h62 w
  · exact values_127 k w
  · by_cases h57 : k = 57
    · subst h57; exact values_128_57 w
    by_cases h58 : k = 58
    · subst h58; exact values_128_58 w
    by_cases h59 : k = 59
    · subst h59; exact values_128_59 w
    by_cases h60 : k = 60
    · subst h60; exact values_128_60 w
    by_cases h : k < 63
    · rw [show Rf.values 128 k = Rf.chain k false 129 128 by simp [Rf.values, beq_eq_false_iff_ne.2 h57, beq_eq_false_iff_ne.2 h58, beq_eq_false_iff_ne.2 h59, beq_eq_false_iff_ne.2 h60, show ¬ 63 ≤ k by omega]]; exact values_128_lo k h57 h58 h59 h60 h w
    by_cases h2 : k ≤ 65
    · rw [show Rf.values 128 k = Rf.chain k true 129 128 by simp [Rf.values, show 63 ≤ k by omega, h2]]; exact values_128_mid k h57 h58 h59 h60 (by omega) h2 w
    · rw [show Rf.values 128 k = Rf.chain k false 129 128 by simp [Rf.values, beq_eq_false_iff_ne.2 h57, beq_eq_false_iff_ne.2 h58, beq_eq_false_iff_ne.2 h59, beq_eq_false_iff_ne.2 h60, h2]]; exact values_128_hi k h57 h58 h59 h60 (by omega) (by omega) w
  · by_cases h : k = 56
    · subst h; exact values_129a w
    by_cases h3 : k = 68
    · subst h3; exact values_129b w
    by_cases h4 : k = 62
    · subst h4; exact values_129c w
    rw [show Rf.values 129 k = ([131, 130], true) by simp [Rf.values, h, h3, h4]]; exact values_129d k h h3 h4 w
  · by_cases h : k = 44
    · subst h; exact values_130a w
    · rw [show Rf.values 130 k = ([], true) by simp [Rf.values, h]]; exact values_130b k h w
  · by_cases h : k = 40
    · subst h; exact values_132a w
    · rw [show Rf.values 132 k = ([1024], true) by simp [Rf.values, h]]; exact values_132b k h w
  · rw [show Rf.values g k = Rf.prim k by unfold Rf.values; rw [if_neg (by omega), if_neg (by omega), if_neg (by omega), if_neg (by omega), if_neg (by omega), if_neg (by omega), if_neg (by omega), if_neg (by omega), if_neg (by omega), if_neg (by omega), if_neg (by omega), if_neg (by omega), if_neg (by omega), if_neg (by omega), if_neg (by omega)]]
    exact values_prim g k hg w

set_option maxRecDepth 100000 in
set_option maxHeartbeats 2000000 in
theorem rule_heads (g : Int) (k : Int) (over : Bool) (h1 : 100 ≤ g) (h2 : g ≤ 107) (w : World) : Calls Try.prog 26 #[.int .i64 g, .int .i64 k, .bool over] w (RuleRes (Rf.heads g k over) w) := by
  go_enter Try.func26, Try.ntmps26
  go_wp2_with fail
  refine (heads_c _ _ _ h1 h2 _).mono ?_
  rintro e w1 ⟨a, n, cap, rfl, hn, hh⟩
  have Hh := Lib.hid hh
  have Hn := Lib.hid hn
  clear hh hn
  go_wp2_with fail
  go_ret2
  exact ⟨a, n, cap, rfl, Hn.out, Hh.out⟩

set_option maxRecDepth 100000 in
set_option maxHeartbeats 2000000 in
theorem rule_statements (g : Int) (k : Int) (over : Bool) (h0 : 107 < g) (h2 : g ≤ 116) (w : World) : Calls Try.prog 26 #[.int .i64 g, .int .i64 k, .bool over] w (RuleRes (Rf.statements g k) w) := by
  go_enter Try.func26, Try.ntmps26
  go_wp2_with fail
  refine (statements_c _ _ (by omega) h2 _).mono ?_
  rintro e w1 ⟨a, n, cap, rfl, hn, hh⟩
  have Hh := Lib.hid hh
  have Hn := Lib.hid hn
  clear hh hn
  go_wp2_with fail
  go_ret2
  exact ⟨a, n, cap, rfl, Hn.out, Hh.out⟩

set_option maxRecDepth 100000 in
set_option maxHeartbeats 2000000 in
theorem rule_values (g : Int) (k : Int) (over : Bool) (h0 : 107 < g) (h2 : 116 < g) (w : World) : Calls Try.prog 26 #[.int .i64 g, .int .i64 k, .bool over] w (RuleRes (Rf.values g k) w) := by
  go_enter Try.func26, Try.ntmps26
  go_wp2_with fail
  refine (values_c _ _ (by omega) _).mono ?_
  rintro e w1 ⟨a, n, cap, rfl, hn, hh⟩
  have Hh := Lib.hid hh
  have Hn := Lib.hid hn
  clear hh hn
  go_wp2_with fail
  go_ret2
  exact ⟨a, n, cap, rfl, Hn.out, Hh.out⟩

theorem refRule_c (g k : Int) (over : Bool) (h1 : 100 ≤ g) (w : World) : Calls Try.prog 26 #[.int .i64 g, .int .i64 k, .bool over] w (RuleRes (Rf.rule g k over) w) := by
  by_cases h2 : g ≤ 107
  · rw [show Rf.rule g k over = Rf.heads g k over by unfold Rf.rule; rw [if_pos h2]]; exact rule_heads g k over h1 h2 w
  by_cases h3 : g ≤ 116
  · rw [show Rf.rule g k over = Rf.statements g k by unfold Rf.rule; rw [if_neg h2, if_pos h3]]; exact rule_statements g k over (by omega) h3 w
  · rw [show Rf.rule g k over = Rf.values g k by unfold Rf.rule; rw [if_neg h2, if_neg h3]]; exact rule_values g k over (by omega) (by omega) w
end Go.Proofs.Ythodjlhjfaccpaa
