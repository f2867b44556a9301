/- The walks of the parser's rules: printed by a program of mine (wip/tools/rules.py). -/
import Derived.Test.YthodjlhjfaccpaaPg
set_option linter.unusedVariables false
set_option linter.unusedSimpArgs false
namespace Go.Proofs.Ythodjlhjfaccpaa
open Go Go.RowKit Mem Pm

section
variable {bd : Nat} {L Li : List Nat} {gp b b' : Nat} {s s' : PS} {w0 w w' : World}

set_option maxRecDepth 100000 in
set_option maxHeartbeats 4000000 in
theorem opened_s (h : St bd L gp w0 Li b s w) (hb : b ≤ 999998000) (k : Int) (hk : k ≠ 0) (hn : s.nest ≠ []) : Calls Try.prog 71 #[.pointer (some ⟨gp, 0, none⟩), .int .i64 k] w (PostT bd L gp w0 Li (b + 1) s k w (s.skip.enter)) := by
  have S0 := Lib.hid (St.start h.p h.li h.sz)
  have H := Lib.hid h
  have Hhk := Lib.hid hk
  have Hhn := Lib.hid hn
  clear h hk hn
  go_enter Try.func71, Try.ntmps71
  go_wp2_with fail
  refine (take_s S0.out (k) Hhk.out).mono ?_
  rintro e w1 (⟨hm, rfl, hk⟩ | ⟨hm, rfl, hk, hS⟩)
  · exact ⟨rfl, .inl ⟨hm, rfl, (H.out.outk hk)⟩⟩
  have M1 := Lib.hid hm
  clear hm
  have S1 := Lib.hid hS
  clear hk hS
  have Hn := Hhn
  go_wp2_with fail
  refine (enter_s S1.out (by omega) Hn.out).mono ?_
  rintro e w2 ⟨rfl, hk, hS⟩
  have S2 := Lib.hid hS
  clear hk hS
  go_wp2_with fail
  go_end0
  exact .inr ⟨M1.out, H.out.out (S2.out.le (by omega))⟩

set_option maxRecDepth 100000 in
set_option maxHeartbeats 4000000 in
theorem closed_s (h : St bd L gp w0 Li b s w) (hb : b ≤ 999998000)  : Calls Try.prog 75 #[.pointer (some ⟨gp, 0, none⟩)] w (PostT bd L gp w0 Li (b + 1) s 41 w (s.skip.leave)) := by
  have S0 := Lib.hid (St.start h.p h.li h.sz)
  have H := Lib.hid h
  clear h 
  go_enter Try.func75, Try.ntmps75
  go_wp2_with fail
  refine (take_s S0.out (41) (by decide)).mono ?_
  rintro e w1 (⟨hm, rfl, hk⟩ | ⟨hm, rfl, hk, hS⟩)
  · exact ⟨rfl, .inl ⟨hm, rfl, (H.out.outk hk)⟩⟩
  have M1 := Lib.hid hm
  clear hm
  have S1 := Lib.hid hS
  clear hk hS
  go_wp2_with fail
  refine (leave_s S1.out (by omega)).mono ?_
  rintro e w2 ⟨rfl, hk, hS⟩
  have S2 := Lib.hid hS
  clear hk hS
  go_wp2_with fail
  go_end0
  exact .inr ⟨M1.out, H.out.out (S2.out.le (by omega))⟩

set_option maxRecDepth 100000 in
set_option maxHeartbeats 4000000 in
theorem shut_s (h : St bd L gp w0 Li b s w) (hb : b ≤ 999998000)  : Calls Try.prog 72 #[.pointer (some ⟨gp, 0, none⟩)] w (PostT bd L gp w0 Li (b + 1) s 45 w (s.skip.leave)) := by
  have S0 := Lib.hid (St.start h.p h.li h.sz)
  have H := Lib.hid h
  clear h 
  go_enter Try.func72, Try.ntmps72
  go_wp2_with fail
  refine (take_s S0.out (45) (by decide)).mono ?_
  rintro e w1 (⟨hm, rfl, hk⟩ | ⟨hm, rfl, hk, hS⟩)
  · exact ⟨rfl, .inl ⟨hm, rfl, (H.out.outk hk)⟩⟩
  have M1 := Lib.hid hm
  clear hm
  have S1 := Lib.hid hS
  clear hk hS
  go_wp2_with fail
  refine (leave_s S1.out (by omega)).mono ?_
  rintro e w2 ⟨rfl, hk, hS⟩
  have S2 := Lib.hid hS
  clear hk hS
  go_wp2_with fail
  go_end0
  exact .inr ⟨M1.out, H.out.out (S2.out.le (by omega))⟩

set_option maxRecDepth 100000 in
set_option maxHeartbeats 4000000 in
theorem semi_s (h : St bd L gp w0 Li b s w) (hb : b ≤ 999998000)  : Calls Try.prog 70 #[.pointer (some ⟨gp, 0, none⟩)] w (PostT bd L gp w0 Li (b + 0) s 47 w (s.skip)) := by
  have S0 := Lib.hid (St.start h.p h.li h.sz)
  have H := Lib.hid h
  clear h 
  go_enter Try.func70, Try.ntmps70
  go_wp2_with fail
  refine (take_s S0.out (47) (by decide)).mono ?_
  rintro e w1 (⟨hm, rfl, hk⟩ | ⟨hm, rfl, hk, hS⟩)
  · exact ⟨rfl, .inl ⟨hm, rfl, (H.out.outk hk)⟩⟩
  have M1 := Lib.hid hm
  clear hm
  have S1 := Lib.hid hS
  clear hk hS
  go_wp2_with fail
  go_end0
  exact .inr ⟨M1.out, H.out.out (S1.out.le (by omega))⟩

set_option maxRecDepth 100000 in
set_option maxHeartbeats 4000000 in
theorem set_s (h : St bd L gp w0 Li b s w) (hb : b ≤ 999998000)  : Calls Try.prog 73 #[.pointer (some ⟨gp, 0, none⟩)] w (PostT bd L gp w0 Li (b + 0) s 48 w (s.skip)) := by
  have S0 := Lib.hid (St.start h.p h.li h.sz)
  have H := Lib.hid h
  clear h 
  go_enter Try.func73, Try.ntmps73
  go_wp2_with fail
  refine (take_s S0.out (48) (by decide)).mono ?_
  rintro e w1 (⟨hm, rfl, hk⟩ | ⟨hm, rfl, hk, hS⟩)
  · exact ⟨rfl, .inl ⟨hm, rfl, (H.out.outk hk)⟩⟩
  have M1 := Lib.hid hm
  clear hm
  have S1 := Lib.hid hS
  clear hk hS
  go_wp2_with fail
  go_end0
  exact .inr ⟨M1.out, H.out.out (S1.out.le (by omega))⟩

set_option maxRecDepth 100000 in
set_option maxHeartbeats 4000000 in
theorem block_s (h : St bd L gp w0 Li b s w) (hb : b ≤ 999990000) (hn : s.nest ≠ []) : Calls Try.prog 46 #[.pointer (some ⟨gp, 0, none⟩)] w (PostM bd L gp w0 Li (b + 60) w (s.block)) := by
  have S0 := Lib.hid (St.start h.p h.li h.sz)
  have H := Lib.hid h
  have Hhn := Lib.hid hn
  clear h hn
  go_enter Try.func46, Try.ntmps46
  have Hn := Hhn
  go_wp2_with fail
  refine (take_s S0.out (42) (by decide)).mono ?_
  rintro e w1 (⟨hm, rfl, hk⟩ | ⟨hm, rfl, hk, hS⟩)
  · exact ⟨rfl, .err (by first | (simp only [PS.block, PS.expect, PS.take, bind, Except.bind, pure, Except.pure, if_neg hm]; done) | (simp only [PS.block, PS.expect, PS.take, bind, Except.bind, pure, Except.pure, if_neg hm]; rfl) | rfl) (H.out.outk hk)⟩
  have M1 := Lib.hid hm
  clear hm
  have S1 := Lib.hid hS
  clear hk hS
  go_wp2_with fail
  refine (begin_s (S1.out.local_ _) (by omega) { kind := 3, at_ := s.cur.at_ } 0 (Nat.zero_le _)).mono ?_
  rintro e w2 ⟨rfl, hk, hS⟩
  have B0 : Blk w2 w1.heap.size 48 [.int .i64 s.cur.kind, .int .i64 s.cur.at_, .int .i64 s.cur.value, .string s.cur.name] := (Blk.new w1 48 [.int .i64 s.cur.kind, .int .i64 s.cur.at_, .int .i64 s.cur.value, .string s.cur.name]).kp hk (.inr (by simp))
  have x0_0 : w2.cell? ⟨w1.heap.size, 0, none⟩ = some (.int .i64 s.cur.kind) := B0.cell 0
  have x0_1 : w2.cell? ⟨w1.heap.size, 1, none⟩ = some (.int .i64 s.cur.at_) := B0.cell 1
  have x0_2 : w2.cell? ⟨w1.heap.size, 2, none⟩ = some (.int .i64 s.cur.value) := B0.cell 2
  have x0_3 : w2.cell? ⟨w1.heap.size, 3, none⟩ = some (.string s.cur.name) := B0.cell 3
  replace B0 := Lib.hid B0
  have S2 := Lib.hid hS
  clear hk hS
  go_wp2_with fail
  refine (enter_s S2.out (by omega) Hn.out).mono ?_
  rintro e w3 ⟨rfl, hk, hS⟩
  have B0 := B0.out.kp hk (.inr (by simp))
  clear x0_0 x0_1 x0_2 x0_3
  have x0_0 : w3.cell? ⟨w1.heap.size, 0, none⟩ = some (.int .i64 s.cur.kind) := B0.cell 0
  have x0_1 : w3.cell? ⟨w1.heap.size, 1, none⟩ = some (.int .i64 s.cur.at_) := B0.cell 1
  have x0_2 : w3.cell? ⟨w1.heap.size, 2, none⟩ = some (.int .i64 s.cur.value) := B0.cell 2
  have x0_3 : w3.cell? ⟨w1.heap.size, 3, none⟩ = some (.string s.cur.name) := B0.cell 3
  replace B0 := Lib.hid B0
  have S3 := Lib.hid hS
  clear hk hS
  go_wp2_with fail
  refine (do_s S3.out (by omega) [.statements] 1 rfl (by decide) _ (by simp) _ rfl).mono ?_
  rintro e w4 ⟨rfl, hk, hS⟩
  clear x0_0 x0_1 x0_2 x0_3 B0
  have S4 := Lib.hid hS
  clear hk hS
  go_wp2_with fail
  go_end0
  exact .ok (H.out.out (S4.out.le (by omega))) (by first | (simp only [PS.block, PS.expect, PS.take, bind, Except.bind, pure, Except.pure, if_pos M1.out]; done) | (simp only [PS.block, PS.expect, PS.take, bind, Except.bind, pure, Except.pure, if_pos M1.out]; rfl) | rfl)

set_option maxRecDepth 100000 in
set_option maxHeartbeats 4000000 in
theorem condition_s (h : St bd L gp w0 Li b s w) (hb : b ≤ 999990000)  : Calls Try.prog 65 #[.pointer (some ⟨gp, 0, none⟩)] w (PostM bd L gp w0 Li (b + 60) w (s.condition)) := by
  have S0 := Lib.hid (St.start h.p h.li h.sz)
  have H := Lib.hid h
  clear h 
  go_enter Try.func65, Try.ntmps65
  go_wp2_with fail
  refine (take_s S0.out (12) (by decide)).mono ?_
  rintro e w1 (⟨hm, rfl, hk⟩ | ⟨hm, rfl, hk, hS⟩)
  · exact ⟨rfl, .err (by first | (simp only [PS.condition, PS.expect, PS.take, bind, Except.bind, pure, Except.pure, if_neg hm]; done) | (simp only [PS.condition, PS.expect, PS.take, bind, Except.bind, pure, Except.pure, if_neg hm]; rfl) | rfl) (H.out.outk hk)⟩
  have M1 := Lib.hid hm
  clear hm
  have S1 := Lib.hid hS
  clear hk hS
  go_wp2_with fail
  refine (begin_s (S1.out.local_ _) (by omega) { kind := 10, at_ := s.cur.at_ } 0 (Nat.zero_le _)).mono ?_
  rintro e w2 ⟨rfl, hk, hS⟩
  have B0 : Blk w2 w1.heap.size 48 [.int .i64 s.cur.kind, .int .i64 s.cur.at_, .int .i64 s.cur.value, .string s.cur.name] := (Blk.new w1 48 [.int .i64 s.cur.kind, .int .i64 s.cur.at_, .int .i64 s.cur.value, .string s.cur.name]).kp hk (.inr (by simp))
  have x0_0 : w2.cell? ⟨w1.heap.size, 0, none⟩ = some (.int .i64 s.cur.kind) := B0.cell 0
  have x0_1 : w2.cell? ⟨w1.heap.size, 1, none⟩ = some (.int .i64 s.cur.at_) := B0.cell 1
  have x0_2 : w2.cell? ⟨w1.heap.size, 2, none⟩ = some (.int .i64 s.cur.value) := B0.cell 2
  have x0_3 : w2.cell? ⟨w1.heap.size, 3, none⟩ = some (.string s.cur.name) := B0.cell 3
  replace B0 := Lib.hid B0
  have S2 := Lib.hid hS
  clear hk hS
  go_wp2_with fail
  refine (do_s S2.out (by omega) [.expression, .block, .otherwise] 3 rfl (by decide) _ (by simp) _ rfl).mono ?_
  rintro e w3 ⟨rfl, hk, hS⟩
  clear x0_0 x0_1 x0_2 x0_3 B0
  have S3 := Lib.hid hS
  clear hk hS
  go_wp2_with fail
  go_end0
  exact .ok (H.out.out (S3.out.le (by omega))) (by first | (simp only [PS.condition, PS.expect, PS.take, bind, Except.bind, pure, Except.pure, if_pos M1.out]; done) | (simp only [PS.condition, PS.expect, PS.take, bind, Except.bind, pure, Except.pure, if_pos M1.out]; rfl) | rfl)

set_option maxRecDepth 100000 in
set_option maxHeartbeats 4000000 in
theorem loop_s (h : St bd L gp w0 Li b s w) (hb : b ≤ 999990000)  : Calls Try.prog 66 #[.pointer (some ⟨gp, 0, none⟩)] w (PostM bd L gp w0 Li (b + 60) w (s.loop)) := by
  have S0 := Lib.hid (St.start h.p h.li h.sz)
  have H := Lib.hid h
  clear h 
  go_enter Try.func66, Try.ntmps66
  go_wp2_with fail
  refine (take_s S0.out (14) (by decide)).mono ?_
  rintro e w1 (⟨hm, rfl, hk⟩ | ⟨hm, rfl, hk, hS⟩)
  · exact ⟨rfl, .err (by first | (simp only [PS.loop, PS.expect, PS.take, bind, Except.bind, pure, Except.pure, if_neg hm]; done) | (simp only [PS.loop, PS.expect, PS.take, bind, Except.bind, pure, Except.pure, if_neg hm]; rfl) | rfl) (H.out.outk hk)⟩
  have M1 := Lib.hid hm
  clear hm
  have S1 := Lib.hid hS
  clear hk hS
  go_wp2_with fail
  refine (begin_s (S1.out.local_ _) (by omega) { kind := 11, at_ := s.cur.at_ } 0 (Nat.zero_le _)).mono ?_
  rintro e w2 ⟨rfl, hk, hS⟩
  have B0 : Blk w2 w1.heap.size 48 [.int .i64 s.cur.kind, .int .i64 s.cur.at_, .int .i64 s.cur.value, .string s.cur.name] := (Blk.new w1 48 [.int .i64 s.cur.kind, .int .i64 s.cur.at_, .int .i64 s.cur.value, .string s.cur.name]).kp hk (.inr (by simp))
  have x0_0 : w2.cell? ⟨w1.heap.size, 0, none⟩ = some (.int .i64 s.cur.kind) := B0.cell 0
  have x0_1 : w2.cell? ⟨w1.heap.size, 1, none⟩ = some (.int .i64 s.cur.at_) := B0.cell 1
  have x0_2 : w2.cell? ⟨w1.heap.size, 2, none⟩ = some (.int .i64 s.cur.value) := B0.cell 2
  have x0_3 : w2.cell? ⟨w1.heap.size, 3, none⟩ = some (.string s.cur.name) := B0.cell 3
  replace B0 := Lib.hid B0
  have S2 := Lib.hid hS
  clear hk hS
  go_wp2_with fail
  refine (is_s S2.out (42)).mono ?_
  rintro e w3 ⟨rfl, hk, hS⟩
  have B0 := B0.out.kp hk (.inr (by simp))
  clear x0_0 x0_1 x0_2 x0_3
  have x0_0 : w3.cell? ⟨w1.heap.size, 0, none⟩ = some (.int .i64 s.cur.kind) := B0.cell 0
  have x0_1 : w3.cell? ⟨w1.heap.size, 1, none⟩ = some (.int .i64 s.cur.at_) := B0.cell 1
  have x0_2 : w3.cell? ⟨w1.heap.size, 2, none⟩ = some (.int .i64 s.cur.value) := B0.cell 2
  have x0_3 : w3.cell? ⟨w1.heap.size, 3, none⟩ = some (.string s.cur.name) := B0.cell 3
  replace B0 := Lib.hid B0
  have S3 := Lib.hid hS
  clear hk hS
  by_cases hm : (s.skip.begin_ { kind := 11, at_ := s.cur.at_ } 0).kind = 42
  · have qM2 : ((s.skip.begin_ { kind := 11, at_ := s.cur.at_ } 0).kind == 42) = true := by simpa using hm
    have M2 := Lib.hid hm
    clear hm
    go_wp2_with fail
    refine (do_s S3.out (by omega) [.block, .done] 2 rfl (by decide) _ (by simp) _ rfl).mono ?_
    rintro e w4 ⟨rfl, hk, hS⟩
    clear x0_0 x0_1 x0_2 x0_3 B0
    have S4 := Lib.hid hS
    clear hk hS
    go_wp2_with fail
    go_end0
    exact .ok (H.out.out (S4.out.le (by omega))) (by first | (simp only [PS.loop, PS.expect, PS.take, bind, Except.bind, pure, Except.pure, if_pos M1.out, if_pos M2.out]; done) | (simp only [PS.loop, PS.expect, PS.take, bind, Except.bind, pure, Except.pure, if_pos M1.out, if_pos M2.out]; rfl) | rfl)
  · have qM2 : ((s.skip.begin_ { kind := 11, at_ := s.cur.at_ } 0).kind == 42) = false := by simpa using hm
    have M2 := Lib.hid hm
    clear hm
    go_wp2_with fail
    refine (do_s S3.out (by omega) [.expression, .block, .done] 3 rfl (by decide) _ (by simp) _ rfl).mono ?_
    rintro e w4 ⟨rfl, hk, hS⟩
    clear x0_0 x0_1 x0_2 x0_3 B0
    have S4 := Lib.hid hS
    clear hk hS
    go_wp2_with fail
    go_end0
    exact .ok (H.out.out (S4.out.le (by omega))) (by first | (simp only [PS.loop, PS.expect, PS.take, bind, Except.bind, pure, Except.pure, if_pos M1.out, if_neg M2.out]; done) | (simp only [PS.loop, PS.expect, PS.take, bind, Except.bind, pure, Except.pure, if_pos M1.out, if_neg M2.out]; rfl) | rfl)

set_option maxRecDepth 100000 in
set_option maxHeartbeats 4000000 in
theorem returned_s (h : St bd L gp w0 Li b s w) (hb : b ≤ 999990000)  : Calls Try.prog 67 #[.pointer (some ⟨gp, 0, none⟩)] w (PostM bd L gp w0 Li (b + 60) w (s.returned)) := by
  have S0 := Lib.hid (St.start h.p h.li h.sz)
  have H := Lib.hid h
  clear h 
  go_enter Try.func67, Try.ntmps67
  go_wp2_with fail
  refine (take_s S0.out (15) (by decide)).mono ?_
  rintro e w1 (⟨hm, rfl, hk⟩ | ⟨hm, rfl, hk, hS⟩)
  · exact ⟨rfl, .err (by first | (simp only [PS.returned, PS.expect, PS.take, bind, Except.bind, pure, Except.pure, if_neg hm]; done) | (simp only [PS.returned, PS.expect, PS.take, bind, Except.bind, pure, Except.pure, if_neg hm]; rfl) | rfl) (H.out.outk hk)⟩
  have M1 := Lib.hid hm
  clear hm
  have S1 := Lib.hid hS
  clear hk hS
  go_wp2_with fail
  refine (begin_s (S1.out.local_ _) (by omega) { kind := 12, at_ := s.cur.at_ } 0 (Nat.zero_le _)).mono ?_
  rintro e w2 ⟨rfl, hk, hS⟩
  have B0 : Blk w2 w1.heap.size 48 [.int .i64 s.cur.kind, .int .i64 s.cur.at_, .int .i64 s.cur.value, .string s.cur.name] := (Blk.new w1 48 [.int .i64 s.cur.kind, .int .i64 s.cur.at_, .int .i64 s.cur.value, .string s.cur.name]).kp hk (.inr (by simp))
  have x0_0 : w2.cell? ⟨w1.heap.size, 0, none⟩ = some (.int .i64 s.cur.kind) := B0.cell 0
  have x0_1 : w2.cell? ⟨w1.heap.size, 1, none⟩ = some (.int .i64 s.cur.at_) := B0.cell 1
  have x0_2 : w2.cell? ⟨w1.heap.size, 2, none⟩ = some (.int .i64 s.cur.value) := B0.cell 2
  have x0_3 : w2.cell? ⟨w1.heap.size, 3, none⟩ = some (.string s.cur.name) := B0.cell 3
  replace B0 := Lib.hid B0
  have S2 := Lib.hid hS
  clear hk hS
  go_wp2_with fail
  refine (is_s S2.out (47)).mono ?_
  rintro e w3 ⟨rfl, hk, hS⟩
  have B0 := B0.out.kp hk (.inr (by simp))
  clear x0_0 x0_1 x0_2 x0_3
  have x0_0 : w3.cell? ⟨w1.heap.size, 0, none⟩ = some (.int .i64 s.cur.kind) := B0.cell 0
  have x0_1 : w3.cell? ⟨w1.heap.size, 1, none⟩ = some (.int .i64 s.cur.at_) := B0.cell 1
  have x0_2 : w3.cell? ⟨w1.heap.size, 2, none⟩ = some (.int .i64 s.cur.value) := B0.cell 2
  have x0_3 : w3.cell? ⟨w1.heap.size, 3, none⟩ = some (.string s.cur.name) := B0.cell 3
  replace B0 := Lib.hid B0
  have S3 := Lib.hid hS
  clear hk hS
  by_cases hm : (s.skip.begin_ { kind := 12, at_ := s.cur.at_ } 0).kind = 47
  · have qM2 : ((s.skip.begin_ { kind := 12, at_ := s.cur.at_ } 0).kind == 47) = true := by simpa using hm
    have M2 := Lib.hid hm
    clear hm
    go_wp2_with fail
    refine (do_s S3.out (by omega) [.semi, .done] 2 rfl (by decide) _ (by simp) _ rfl).mono ?_
    rintro e w4 ⟨rfl, hk, hS⟩
    clear x0_0 x0_1 x0_2 x0_3 B0
    have S4 := Lib.hid hS
    clear hk hS
    go_wp2_with fail
    go_end0
    exact .ok (H.out.out (S4.out.le (by omega))) (by first | (simp only [PS.returned, PS.expect, PS.take, bind, Except.bind, pure, Except.pure, if_pos M1.out, if_pos M2.out]; done) | (simp only [PS.returned, PS.expect, PS.take, bind, Except.bind, pure, Except.pure, if_pos M1.out, if_pos M2.out]; rfl) | rfl)
  · have qM2 : ((s.skip.begin_ { kind := 12, at_ := s.cur.at_ } 0).kind == 47) = false := by simpa using hm
    have M2 := Lib.hid hm
    clear hm
    go_wp2_with fail
    refine (do_s S3.out (by omega) [.expression, .semi, .done] 3 rfl (by decide) _ (by simp) _ rfl).mono ?_
    rintro e w4 ⟨rfl, hk, hS⟩
    clear x0_0 x0_1 x0_2 x0_3 B0
    have S4 := Lib.hid hS
    clear hk hS
    go_wp2_with fail
    go_end0
    exact .ok (H.out.out (S4.out.le (by omega))) (by first | (simp only [PS.returned, PS.expect, PS.take, bind, Except.bind, pure, Except.pure, if_pos M1.out, if_neg M2.out]; done) | (simp only [PS.returned, PS.expect, PS.take, bind, Except.bind, pure, Except.pure, if_pos M1.out, if_neg M2.out]; rfl) | rfl)

set_option maxRecDepth 100000 in
set_option maxHeartbeats 4000000 in
theorem expression_s (h : St bd L gp w0 Li b s w) (hb : b ≤ 999990000)  : Calls Try.prog 69 #[.pointer (some ⟨gp, 0, none⟩)] w (PostM bd L gp w0 Li (b + 60) w (.ok (s.do_ [.both, .either]))) := by
  have S0 := Lib.hid (St.start h.p h.li h.sz)
  have H := Lib.hid h
  clear h 
  go_enter Try.func69, Try.ntmps69
  go_wp2_with fail
  refine (do_s S0.out (by omega) [.both, .either] 2 rfl (by decide) _ (by simp) _ rfl).mono ?_
  rintro e w1 ⟨rfl, hk, hS⟩
  have S1 := Lib.hid hS
  clear hk hS
  go_wp2_with fail
  go_end0
  exact .ok (H.out.out (S1.out.le (by omega))) (by first | (simp only [PS.expect, PS.take, bind, Except.bind, pure, Except.pure]; done) | (simp only [PS.expect, PS.take, bind, Except.bind, pure, Except.pure]; rfl) | rfl)

set_option maxRecDepth 100000 in
set_option maxHeartbeats 4000000 in
theorem both_s (h : St bd L gp w0 Li b s w) (hb : b ≤ 999990000)  : Calls Try.prog 77 #[.pointer (some ⟨gp, 0, none⟩)] w (PostM bd L gp w0 Li (b + 60) w (.ok (s.do_ [.compared, .andMore]))) := by
  have S0 := Lib.hid (St.start h.p h.li h.sz)
  have H := Lib.hid h
  clear h 
  go_enter Try.func77, Try.ntmps77
  go_wp2_with fail
  refine (do_s S0.out (by omega) [.compared, .andMore] 2 rfl (by decide) _ (by simp) _ rfl).mono ?_
  rintro e w1 ⟨rfl, hk, hS⟩
  have S1 := Lib.hid hS
  clear hk hS
  go_wp2_with fail
  go_end0
  exact .ok (H.out.out (S1.out.le (by omega))) (by first | (simp only [PS.expect, PS.take, bind, Except.bind, pure, Except.pure]; done) | (simp only [PS.expect, PS.take, bind, Except.bind, pure, Except.pure]; rfl) | rfl)

set_option maxRecDepth 100000 in
set_option maxHeartbeats 4000000 in
theorem compared_s (h : St bd L gp w0 Li b s w) (hb : b ≤ 999990000)  : Calls Try.prog 80 #[.pointer (some ⟨gp, 0, none⟩)] w (PostM bd L gp w0 Li (b + 60) w (.ok (s.do_ [.sum, .compare]))) := by
  have S0 := Lib.hid (St.start h.p h.li h.sz)
  have H := Lib.hid h
  clear h 
  go_enter Try.func80, Try.ntmps80
  go_wp2_with fail
  refine (do_s S0.out (by omega) [.sum, .compare] 2 rfl (by decide) _ (by simp) _ rfl).mono ?_
  rintro e w1 ⟨rfl, hk, hS⟩
  have S1 := Lib.hid hS
  clear hk hS
  go_wp2_with fail
  go_end0
  exact .ok (H.out.out (S1.out.le (by omega))) (by first | (simp only [PS.expect, PS.take, bind, Except.bind, pure, Except.pure]; done) | (simp only [PS.expect, PS.take, bind, Except.bind, pure, Except.pure]; rfl) | rfl)

set_option maxRecDepth 100000 in
set_option maxHeartbeats 4000000 in
theorem sum_s (h : St bd L gp w0 Li b s w) (hb : b ≤ 999990000)  : Calls Try.prog 83 #[.pointer (some ⟨gp, 0, none⟩)] w (PostM bd L gp w0 Li (b + 60) w (.ok (s.do_ [.product, .sumMore]))) := by
  have S0 := Lib.hid (St.start h.p h.li h.sz)
  have H := Lib.hid h
  clear h 
  go_enter Try.func83, Try.ntmps83
  go_wp2_with fail
  refine (do_s S0.out (by omega) [.product, .sumMore] 2 rfl (by decide) _ (by simp) _ rfl).mono ?_
  rintro e w1 ⟨rfl, hk, hS⟩
  have S1 := Lib.hid hS
  clear hk hS
  go_wp2_with fail
  go_end0
  exact .ok (H.out.out (S1.out.le (by omega))) (by first | (simp only [PS.expect, PS.take, bind, Except.bind, pure, Except.pure]; done) | (simp only [PS.expect, PS.take, bind, Except.bind, pure, Except.pure]; rfl) | rfl)

set_option maxRecDepth 100000 in
set_option maxHeartbeats 4000000 in
theorem product_s (h : St bd L gp w0 Li b s w) (hb : b ≤ 999990000)  : Calls Try.prog 87 #[.pointer (some ⟨gp, 0, none⟩)] w (PostM bd L gp w0 Li (b + 60) w (.ok (s.do_ [.signed, .productMore]))) := by
  have S0 := Lib.hid (St.start h.p h.li h.sz)
  have H := Lib.hid h
  clear h 
  go_enter Try.func87, Try.ntmps87
  go_wp2_with fail
  refine (do_s S0.out (by omega) [.signed, .productMore] 2 rfl (by decide) _ (by simp) _ rfl).mono ?_
  rintro e w1 ⟨rfl, hk, hS⟩
  have S1 := Lib.hid hS
  clear hk hS
  go_wp2_with fail
  go_end0
  exact .ok (H.out.out (S1.out.le (by omega))) (by first | (simp only [PS.expect, PS.take, bind, Except.bind, pure, Except.pure]; done) | (simp only [PS.expect, PS.take, bind, Except.bind, pure, Except.pure]; rfl) | rfl)

set_option maxRecDepth 100000 in
set_option maxHeartbeats 4000000 in
theorem nothing_s (h : St bd L gp w0 Li b s w) (hb : b ≤ 999990000)  : Calls Try.prog 89 #[.pointer (some ⟨gp, 0, none⟩)] w (PostM bd L gp w0 Li (b + 60) w (.ok s)) := by
  have S0 := Lib.hid (St.start h.p h.li h.sz)
  have H := Lib.hid h
  clear h 
  go_enter Try.func89, Try.ntmps89
  go_wp2_with fail
  go_end0
  exact .ok (H.out.out (S0.out.le (by omega))) (by first | (simp only [PS.expect, PS.take, bind, Except.bind, pure, Except.pure]; done) | (simp only [PS.expect, PS.take, bind, Except.bind, pure, Except.pure]; rfl) | rfl)

set_option maxRecDepth 100000 in
set_option maxHeartbeats 4000000 in
theorem arguments_s (h : St bd L gp w0 Li b s w) (hb : b ≤ 999990000)  : Calls Try.prog 74 #[.pointer (some ⟨gp, 0, none⟩)] w (PostM bd L gp w0 Li (b + 60) w (s.arguments)) := by
  have S0 := Lib.hid (St.start h.p h.li h.sz)
  have H := Lib.hid h
  clear h 
  go_enter Try.func74, Try.ntmps74
  go_wp2_with fail
  refine (is_s S0.out (41)).mono ?_
  rintro e w1 ⟨rfl, hk, hS⟩
  have S1 := Lib.hid hS
  clear hk hS
  by_cases hm : s.kind = 41
  · have qM1 : (s.kind == 41) = true := by simpa using hm
    have M1 := Lib.hid hm
    clear hm
    go_wp2_with fail
    refine (closed_s S1.out (by omega)).mono ?_
    rintro e w2 (⟨hm, rfl, hk⟩ | ⟨hm, rfl, hk, hS⟩)
    · exact ⟨rfl, .err (by first | (simp only [PS.arguments, PS.closed, PS.closed, PS.expect, PS.take, bind, Except.bind, pure, Except.pure, if_pos M1.out, if_neg hm]; done) | (simp only [PS.arguments, PS.closed, PS.closed, PS.expect, PS.take, bind, Except.bind, pure, Except.pure, if_pos M1.out, if_neg hm]; rfl) | rfl | exact absurd M1.out hm) (H.out.outk hk)⟩
    have M2 := Lib.hid hm
    clear hm
    have S2 := Lib.hid hS
    clear hk hS
    go_wp2_with fail
    go_end0
    exact .ok (H.out.out (S2.out.le (by omega))) (by first | (simp only [PS.arguments, PS.closed, PS.closed, PS.expect, PS.take, bind, Except.bind, pure, Except.pure, if_pos M1.out, if_pos M2.out]; done) | (simp only [PS.arguments, PS.closed, PS.closed, PS.expect, PS.take, bind, Except.bind, pure, Except.pure, if_pos M1.out, if_pos M2.out]; rfl) | rfl)
  · have qM1 : (s.kind == 41) = false := by simpa using hm
    have M1 := Lib.hid hm
    clear hm
    go_wp2_with fail
    refine (do_s S1.out (by omega) [.expression, .moreArguments] 2 rfl (by decide) _ (by simp) _ rfl).mono ?_
    rintro e w2 ⟨rfl, hk, hS⟩
    have S2 := Lib.hid hS
    clear hk hS
    go_wp2_with fail
    go_end0
    exact .ok (H.out.out (S2.out.le (by omega))) (by first | (simp only [PS.arguments, PS.closed, PS.expect, PS.take, bind, Except.bind, pure, Except.pure, if_neg M1.out]; done) | (simp only [PS.arguments, PS.closed, PS.expect, PS.take, bind, Except.bind, pure, Except.pure, if_neg M1.out]; rfl) | rfl)

set_option maxRecDepth 100000 in
set_option maxHeartbeats 4000000 in
theorem moreArguments_s (h : St bd L gp w0 Li b s w) (hb : b ≤ 999990000)  : Calls Try.prog 79 #[.pointer (some ⟨gp, 0, none⟩)] w (PostM bd L gp w0 Li (b + 60) w (s.moreArguments)) := by
  have S0 := Lib.hid (St.start h.p h.li h.sz)
  have H := Lib.hid h
  clear h 
  go_enter Try.func79, Try.ntmps79
  go_wp2_with fail
  refine (is_s S0.out (46)).mono ?_
  rintro e w1 ⟨rfl, hk, hS⟩
  have S1 := Lib.hid hS
  clear hk hS
  by_cases hm : s.kind = 46
  · have qM1 : (s.kind == 46) = true := by simpa using hm
    have M1 := Lib.hid hm
    clear hm
    have hlt := kind_lt (s := s) (by rw [M1.out]; decide)
    obtain ⟨bt, off, tc, td, nd, fu, lo, be, ne, c0, c1, c2, c3, c4, c5, c6, c7, c8, c9, a0, a1, t0, t1, t2, t3⟩ := S1.out.cellsT hlt
    obtain ⟨n0, n1, n2, n3, n4⟩ := S1.out.nums hlt
    have z2 := S1.out.fz 2
    go_wp2_with fail
    refine (do_s (S1.out.skip hlt) (by omega) [.expression, .moreArguments] 2 rfl (by decide) _ (by simp) _ rfl).mono ?_
    rintro e w2 ⟨rfl, hk, hS⟩
    clear c0 c1 c2 c3 c4 c5 c6 c7 c8 c9 a0 a1 t0 t1 t2 t3 n0 n1 n2 n3 n4 z2
    have S2 := Lib.hid hS
    clear hk hS
    go_wp2_with fail
    go_end0
    exact .ok (H.out.out (S2.out.le (by omega))) (by first | (simp only [PS.moreArguments, PS.closed, PS.expect, PS.take, bind, Except.bind, pure, Except.pure, if_pos M1.out]; done) | (simp only [PS.moreArguments, PS.closed, PS.expect, PS.take, bind, Except.bind, pure, Except.pure, if_pos M1.out]; rfl) | rfl)
  · have qM1 : (s.kind == 46) = false := by simpa using hm
    have M1 := Lib.hid hm
    clear hm
    go_wp2_with fail
    refine (closed_s S1.out (by omega)).mono ?_
    rintro e w2 (⟨hm, rfl, hk⟩ | ⟨hm, rfl, hk, hS⟩)
    · exact ⟨rfl, .err (by first | (simp only [PS.moreArguments, PS.closed, PS.closed, PS.expect, PS.take, bind, Except.bind, pure, Except.pure, if_neg M1.out, if_neg hm]; done) | (simp only [PS.moreArguments, PS.closed, PS.closed, PS.expect, PS.take, bind, Except.bind, pure, Except.pure, if_neg M1.out, if_neg hm]; rfl) | rfl | exact absurd M1.out hm) (H.out.outk hk)⟩
    have M2 := Lib.hid hm
    clear hm
    have S2 := Lib.hid hS
    clear hk hS
    go_wp2_with fail
    go_end0
    exact .ok (H.out.out (S2.out.le (by omega))) (by first | (simp only [PS.moreArguments, PS.closed, PS.closed, PS.expect, PS.take, bind, Except.bind, pure, Except.pure, if_neg M1.out, if_pos M2.out]; done) | (simp only [PS.moreArguments, PS.closed, PS.closed, PS.expect, PS.take, bind, Except.bind, pure, Except.pure, if_neg M1.out, if_pos M2.out]; rfl) | rfl)

set_option maxRecDepth 100000 in
set_option maxHeartbeats 4000000 in
theorem statements_s (h : St bd L gp w0 Li b s w) (hb : b ≤ 999990000) (hd : ∃ n f r, s.begun = (n, f) :: r ∧ f ≤ s.loose.length) : Calls Try.prog 56 #[.pointer (some ⟨gp, 0, none⟩)] w (PostM bd L gp w0 Li (b + 60) w (.ok s.statements)) := by
  have S0 := Lib.hid (St.start h.p h.li h.sz)
  have H := Lib.hid h
  have Hhd := Lib.hid hd
  clear h hd
  go_enter Try.func56, Try.ntmps56
  go_wp2_with fail
  refine (is_s S0.out (43)).mono ?_
  rintro e w1 ⟨rfl, hk, hS⟩
  have S1 := Lib.hid hS
  clear hk hS
  by_cases hm : s.kind = 43
  · have qM1 : (s.kind == 43) = true := by simpa using hm
    have M1 := Lib.hid hm
    clear hm
    have hlt := kind_lt (s := s) (by rw [M1.out]; decide)
    obtain ⟨bt, off, tc, td, nd, fu, lo, be, ne, c0, c1, c2, c3, c4, c5, c6, c7, c8, c9, a0, a1, t0, t1, t2, t3⟩ := S1.out.cellsT hlt
    obtain ⟨n0, n1, n2, n3, n4⟩ := S1.out.nums hlt
    have z2 := S1.out.fz 2
    go_wp2_with fail
    refine (leave_s (S1.out.skip hlt) (by omega)).mono ?_
    rintro e w2 ⟨rfl, hk, hS⟩
    clear c0 c1 c2 c3 c4 c5 c6 c7 c8 c9 a0 a1 t0 t1 t2 t3 n0 n1 n2 n3 n4 z2
    have S2 := Lib.hid hS
    clear hk hS
    go_wp2_with fail
    refine (done_s S2.out (by omega) Hhd.out).mono ?_
    rintro e w3 ⟨rfl, hk, hS⟩
    have S3 := Lib.hid hS
    clear hk hS
    go_wp2_with fail
    go_end0
    exact .ok (H.out.out (S3.out.le (by omega))) (by first | (simp only [PS.statements, PS.expect, PS.take, bind, Except.bind, pure, Except.pure, if_pos M1.out]; done) | (simp only [PS.statements, PS.expect, PS.take, bind, Except.bind, pure, Except.pure, if_pos M1.out]; rfl) | rfl)
  · have qM1 : (s.kind == 43) = false := by simpa using hm
    have M1 := Lib.hid hm
    clear hm
    go_wp2_with fail
    refine (do_s S1.out (by omega) [.statement, .statements] 2 rfl (by decide) _ (by simp) _ rfl).mono ?_
    rintro e w2 ⟨rfl, hk, hS⟩
    have S2 := Lib.hid hS
    clear hk hS
    go_wp2_with fail
    go_end0
    exact .ok (H.out.out (S2.out.le (by omega))) (by first | (simp only [PS.statements, PS.expect, PS.take, bind, Except.bind, pure, Except.pure, if_neg M1.out]; done) | (simp only [PS.statements, PS.expect, PS.take, bind, Except.bind, pure, Except.pure, if_neg M1.out]; rfl) | rfl)

set_option maxRecDepth 100000 in
set_option maxHeartbeats 4000000 in
theorem made_s (h : St bd L gp w0 Li b s w) (hb : b ≤ 999995000) (t : Tok) (hn : s.nest ≠ []) : Calls Try.prog 95 #[.pointer (some ⟨gp, 0, none⟩), tokV t] w (PostM bd L gp w0 Li (b + 60) w (s.made t)) := by
  have S0 := Lib.hid (St.start h.p h.li h.sz)
  have H := Lib.hid h
  have Hhn := Lib.hid hn
  clear h hn
  unfold tokV
  go_enter Try.func95, Try.ntmps95
  have Hn := Hhn
  go_wp2_with fail
  refine (begin_s (S0.out.local_ _) (by omega) { kind := 28, at_ := t.at_ } 0 (Nat.zero_le _)).mono ?_
  rintro e w1 ⟨rfl, hk, hS⟩
  have B0 : Blk w1 w.heap.size 48 [.int .i64 t.kind, .int .i64 t.at_, .int .i64 t.value, .string t.name] := (Blk.new w 48 [.int .i64 t.kind, .int .i64 t.at_, .int .i64 t.value, .string t.name]).kp hk (.inr (by simp))
  have x0_0 : w1.cell? ⟨w.heap.size, 0, none⟩ = some (.int .i64 t.kind) := B0.cell 0
  have x0_1 : w1.cell? ⟨w.heap.size, 1, none⟩ = some (.int .i64 t.at_) := B0.cell 1
  have x0_2 : w1.cell? ⟨w.heap.size, 2, none⟩ = some (.int .i64 t.value) := B0.cell 2
  have x0_3 : w1.cell? ⟨w.heap.size, 3, none⟩ = some (.string t.name) := B0.cell 3
  replace B0 := Lib.hid B0
  have S1 := Lib.hid hS
  clear hk hS
  go_wp2_with fail
  refine (opened_s S1.out (by omega) (40) (by decide) Hn.out).mono ?_
  rintro e w2 (⟨hm, rfl, hk⟩ | ⟨hm, rfl, hk, hS⟩)
  · exact ⟨rfl, .err (by first | (simp only [PS.made, PS.opened, PS.expect, PS.take, bind, Except.bind, pure, Except.pure, if_neg hm]; done) | (simp only [PS.made, PS.opened, PS.expect, PS.take, bind, Except.bind, pure, Except.pure, if_neg hm]; rfl) | rfl) (H.out.outk hk)⟩
  have M1 := Lib.hid hm
  clear hm
  have B0 := B0.out.kp hk (.inr (by simp))
  clear x0_0 x0_1 x0_2 x0_3
  have x0_0 : w2.cell? ⟨w.heap.size, 0, none⟩ = some (.int .i64 t.kind) := B0.cell 0
  have x0_1 : w2.cell? ⟨w.heap.size, 1, none⟩ = some (.int .i64 t.at_) := B0.cell 1
  have x0_2 : w2.cell? ⟨w.heap.size, 2, none⟩ = some (.int .i64 t.value) := B0.cell 2
  have x0_3 : w2.cell? ⟨w.heap.size, 3, none⟩ = some (.string t.name) := B0.cell 3
  replace B0 := Lib.hid B0
  have S2 := Lib.hid hS
  clear hk hS
  go_wp2_with fail
  refine (take_s S2.out (44) (by decide)).mono ?_
  rintro e w3 (⟨hm, rfl, hk⟩ | ⟨hm, rfl, hk, hS⟩)
  · exact ⟨rfl, .err (by first | (simp only [PS.made, PS.opened, PS.expect, PS.take, bind, Except.bind, pure, Except.pure, if_pos M1.out, if_neg hm]; done) | (simp only [PS.made, PS.opened, PS.expect, PS.take, bind, Except.bind, pure, Except.pure, if_pos M1.out, if_neg hm]; rfl) | rfl | exact absurd M1.out hm) (H.out.outk hk)⟩
  have M2 := Lib.hid hm
  clear hm
  have B0 := B0.out.kp hk (.inr (by simp))
  clear x0_0 x0_1 x0_2 x0_3
  have x0_0 : w3.cell? ⟨w.heap.size, 0, none⟩ = some (.int .i64 t.kind) := B0.cell 0
  have x0_1 : w3.cell? ⟨w.heap.size, 1, none⟩ = some (.int .i64 t.at_) := B0.cell 1
  have x0_2 : w3.cell? ⟨w.heap.size, 2, none⟩ = some (.int .i64 t.value) := B0.cell 2
  have x0_3 : w3.cell? ⟨w.heap.size, 3, none⟩ = some (.string t.name) := B0.cell 3
  replace B0 := Lib.hid B0
  have S3 := Lib.hid hS
  clear hk hS
  go_wp2_with fail
  refine (take_s S3.out (45) (by decide)).mono ?_
  rintro e w4 (⟨hm, rfl, hk⟩ | ⟨hm, rfl, hk, hS⟩)
  · exact ⟨rfl, .err (by first | (simp only [PS.made, PS.opened, PS.expect, PS.take, bind, Except.bind, pure, Except.pure, if_pos M1.out, if_pos M2.out, if_neg hm]; done) | (simp only [PS.made, PS.opened, PS.expect, PS.take, bind, Except.bind, pure, Except.pure, if_pos M1.out, if_pos M2.out, if_neg hm]; rfl) | rfl | exact absurd M1.out hm | exact absurd M2.out hm) (H.out.outk hk)⟩
  have M3 := Lib.hid hm
  clear hm
  have B0 := B0.out.kp hk (.inr (by simp))
  clear x0_0 x0_1 x0_2 x0_3
  have x0_0 : w4.cell? ⟨w.heap.size, 0, none⟩ = some (.int .i64 t.kind) := B0.cell 0
  have x0_1 : w4.cell? ⟨w.heap.size, 1, none⟩ = some (.int .i64 t.at_) := B0.cell 1
  have x0_2 : w4.cell? ⟨w.heap.size, 2, none⟩ = some (.int .i64 t.value) := B0.cell 2
  have x0_3 : w4.cell? ⟨w.heap.size, 3, none⟩ = some (.string t.name) := B0.cell 3
  replace B0 := Lib.hid B0
  have S4 := Lib.hid hS
  clear hk hS
  go_wp2_with fail
  refine (take_s S4.out (23) (by decide)).mono ?_
  rintro e w5 (⟨hm, rfl, hk⟩ | ⟨hm, rfl, hk, hS⟩)
  · exact ⟨rfl, .err (by first | (simp only [PS.made, PS.opened, PS.expect, PS.take, bind, Except.bind, pure, Except.pure, if_pos M1.out, if_pos M2.out, if_pos M3.out, if_neg hm]; done) | (simp only [PS.made, PS.opened, PS.expect, PS.take, bind, Except.bind, pure, Except.pure, if_pos M1.out, if_pos M2.out, if_pos M3.out, if_neg hm]; rfl) | rfl | exact absurd M1.out hm | exact absurd M2.out hm | exact absurd M3.out hm) (H.out.outk hk)⟩
  have M4 := Lib.hid hm
  clear hm
  have B0 := B0.out.kp hk (.inr (by simp))
  clear x0_0 x0_1 x0_2 x0_3
  have x0_0 : w5.cell? ⟨w.heap.size, 0, none⟩ = some (.int .i64 t.kind) := B0.cell 0
  have x0_1 : w5.cell? ⟨w.heap.size, 1, none⟩ = some (.int .i64 t.at_) := B0.cell 1
  have x0_2 : w5.cell? ⟨w.heap.size, 2, none⟩ = some (.int .i64 t.value) := B0.cell 2
  have x0_3 : w5.cell? ⟨w.heap.size, 3, none⟩ = some (.string t.name) := B0.cell 3
  replace B0 := Lib.hid B0
  have S5 := Lib.hid hS
  clear hk hS
  go_wp2_with fail
  refine (take_s S5.out (46) (by decide)).mono ?_
  rintro e w6 (⟨hm, rfl, hk⟩ | ⟨hm, rfl, hk, hS⟩)
  · exact ⟨rfl, .err (by first | (simp only [PS.made, PS.opened, PS.expect, PS.take, bind, Except.bind, pure, Except.pure, if_pos M1.out, if_pos M2.out, if_pos M3.out, if_pos M4.out, if_neg hm]; done) | (simp only [PS.made, PS.opened, PS.expect, PS.take, bind, Except.bind, pure, Except.pure, if_pos M1.out, if_pos M2.out, if_pos M3.out, if_pos M4.out, if_neg hm]; rfl) | rfl | exact absurd M1.out hm | exact absurd M2.out hm | exact absurd M3.out hm | exact absurd M4.out hm) (H.out.outk hk)⟩
  have M5 := Lib.hid hm
  clear hm
  have B0 := B0.out.kp hk (.inr (by simp))
  clear x0_0 x0_1 x0_2 x0_3
  have x0_0 : w6.cell? ⟨w.heap.size, 0, none⟩ = some (.int .i64 t.kind) := B0.cell 0
  have x0_1 : w6.cell? ⟨w.heap.size, 1, none⟩ = some (.int .i64 t.at_) := B0.cell 1
  have x0_2 : w6.cell? ⟨w.heap.size, 2, none⟩ = some (.int .i64 t.value) := B0.cell 2
  have x0_3 : w6.cell? ⟨w.heap.size, 3, none⟩ = some (.string t.name) := B0.cell 3
  replace B0 := Lib.hid B0
  have S6 := Lib.hid hS
  clear hk hS
  go_wp2_with fail
  refine (do_s S6.out (by omega) [.expression, .closed, .done] 3 rfl (by decide) _ (by simp) _ rfl).mono ?_
  rintro e w7 ⟨rfl, hk, hS⟩
  clear x0_0 x0_1 x0_2 x0_3 B0
  have S7 := Lib.hid hS
  clear hk hS
  go_wp2_with fail
  go_end0
  exact .ok (H.out.out (S7.out.le (by omega))) (by first | (simp only [PS.made, PS.opened, PS.expect, PS.take, bind, Except.bind, pure, Except.pure, if_pos M1.out, if_pos M2.out, if_pos M3.out, if_pos M4.out, if_pos M5.out]; done) | (simp only [PS.made, PS.opened, PS.expect, PS.take, bind, Except.bind, pure, Except.pure, if_pos M1.out, if_pos M2.out, if_pos M3.out, if_pos M4.out, if_pos M5.out]; rfl) | rfl)

set_option maxRecDepth 100000 in
set_option maxHeartbeats 4000000 in
theorem name_s (h : St bd L gp w0 Li b s w) (hb : b ≤ 999995000) (t : Tok) (hn : s.nest ≠ []) : Calls Try.prog 94 #[.pointer (some ⟨gp, 0, none⟩), tokV t] w (PostM bd L gp w0 Li (b + 60) w (s.name t)) := by
  have S0 := Lib.hid (St.start h.p h.li h.sz)
  have H := Lib.hid h
  have Hhn := Lib.hid hn
  clear h hn
  unfold tokV
  go_enter Try.func94, Try.ntmps94
  have Hn := Hhn
  go_wp2_with fail
  refine (is_s ((S0.out.local_ _).local_ _) 40).mono ?_
  rintro e w1 ⟨rfl, hk, hS⟩
  have hz : (w.alloc (.cells #[.int .i64 t.kind, .int .i64 t.at_, .int .i64 t.value, .string t.name] 48)).heap.size = w.heap.size + 1 := by simp
  have B1 : Blk w1 (w.heap.size + 1) 42 [.int .i64 24, .int .i64 t.at_, .int .i64 t.at_, .int .i64 0, .int .i64 0, .int .i64 0, .int .i64 0, .int .i64 0, .string t.name, .slice none 0 0] := by
    have h1 := (Blk.new (w.alloc (.cells #[.int .i64 t.kind, .int .i64 t.at_, .int .i64 t.value, .string t.name] 48)) 42 [.int .i64 24, .int .i64 t.at_, .int .i64 t.at_, .int .i64 0, .int .i64 0, .int .i64 0, .int .i64 0, .int .i64 0, .string t.name, .slice none 0 0]).kp hk (.inr (by simp))
    rw [hz] at h1; exact h1
  rw [hz] at hS
  have x1_0 : w1.cell? ⟨w.heap.size + 1, 0, none⟩ = some (.int .i64 24) := B1.cell 0
  have x1_1 : w1.cell? ⟨w.heap.size + 1, 1, none⟩ = some (.int .i64 t.at_) := B1.cell 1
  have x1_2 : w1.cell? ⟨w.heap.size + 1, 2, none⟩ = some (.int .i64 t.at_) := B1.cell 2
  have x1_3 : w1.cell? ⟨w.heap.size + 1, 3, none⟩ = some (.int .i64 0) := B1.cell 3
  have x1_4 : w1.cell? ⟨w.heap.size + 1, 4, none⟩ = some (.int .i64 0) := B1.cell 4
  have x1_5 : w1.cell? ⟨w.heap.size + 1, 5, none⟩ = some (.int .i64 0) := B1.cell 5
  have x1_6 : w1.cell? ⟨w.heap.size + 1, 6, none⟩ = some (.int .i64 0) := B1.cell 6
  have x1_7 : w1.cell? ⟨w.heap.size + 1, 7, none⟩ = some (.int .i64 0) := B1.cell 7
  have x1_8 : w1.cell? ⟨w.heap.size + 1, 8, none⟩ = some (.string t.name) := B1.cell 8
  have x1_9 : w1.cell? ⟨w.heap.size + 1, 9, none⟩ = some (.slice none 0 0) := B1.cell 9
  have y1 := B1.frozen 0
  have hgw : w.heap.size ≤ w.heap.size + 1 := Nat.le_add_right _ _
  replace B1 := Lib.hid B1
  have S1 := Lib.hid hS
  clear hk hS hz
  by_cases hm : s.kind = 40
  · have qM1 : (s.kind == 40) = true := by simpa using hm
    have M1 := Lib.hid hm
    clear hm
    go_wp2_with fail
    refine (begin_s (S1.out.store hgw (by simp) 0 (.int .i64 25)) (by omega) { kind := 25, at_ := t.at_, where_ := t.at_, name := t.name } 0 (Nat.zero_le _)).mono ?_
    rintro e w2 ⟨rfl, hk, hS⟩
    have S2 := Lib.hid hS
    clear hk hS
    go_wp2_with fail
    refine (opened_s S2.out (by omega) (40) (by decide) Hn.out).mono ?_
    rintro e w3 (⟨hm, rfl, hk⟩ | ⟨hm, rfl, hk, hS⟩)
    · exact ⟨rfl, .err (by first | (simp only [PS.name, PS.opened, PS.expect, PS.take, bind, Except.bind, pure, Except.pure, if_pos M1.out, if_neg hm]; done) | (simp only [PS.name, PS.opened, PS.expect, PS.take, bind, Except.bind, pure, Except.pure, if_pos M1.out, if_neg hm]; rfl) | rfl | exact absurd M1.out hm) (H.out.outk hk)⟩
    have M2 := Lib.hid hm
    clear hm
    have S3 := Lib.hid hS
    clear hk hS
    go_wp2_with fail
    refine (do_s S3.out (by omega) [.arguments, .done] 2 rfl (by decide) _ (by simp) _ rfl).mono ?_
    rintro e w4 ⟨rfl, hk, hS⟩
    have S4 := Lib.hid hS
    clear hk hS
    go_wp2_with fail
    go_end0
    exact .ok (H.out.out (S4.out.le (by omega))) (by first | (simp only [PS.name, PS.opened, PS.expect, PS.take, bind, Except.bind, pure, Except.pure, if_pos M1.out, if_pos M2.out]; done) | (simp only [PS.name, PS.opened, PS.expect, PS.take, bind, Except.bind, pure, Except.pure, if_pos M1.out, if_pos M2.out]; rfl) | rfl)
  · have qM1 : (s.kind == 40) = false := by simpa using hm
    have M1 := Lib.hid hm
    clear hm
    go_wp2_with fail
    refine (leaf_s S1.out (by omega) { kind := 24, at_ := t.at_, where_ := t.at_, name := t.name }).mono ?_
    rintro e w2 ⟨rfl, hk, hS⟩
    have S2 := Lib.hid hS
    clear hk hS
    go_wp2_with fail
    go_end0
    exact .ok (H.out.out (S2.out.le (by omega))) (by first | (simp only [PS.name, PS.expect, PS.take, bind, Except.bind, pure, Except.pure, if_neg M1.out]; done) | (simp only [PS.name, PS.expect, PS.take, bind, Except.bind, pure, Except.pure, if_neg M1.out]; rfl) | rfl)
end
end Go.Proofs.Ythodjlhjfaccpaa
