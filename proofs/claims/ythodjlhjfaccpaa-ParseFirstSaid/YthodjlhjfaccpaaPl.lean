/- The walks of the parser's rules: printed by a program of mine (wip/tools/rules.py). -/
import Derived.Test.YthodjlhjfaccpaaPk
set_option linter.unusedVariables false
set_option linter.unusedSimpArgs false
namespace Go.Proofs.Ythodjlhjfaccpaa
open Go Go.RowKit Mem Pm

section
variable {bd : Nat} {L Li : List Nat} {gp b b' : Nat} {s s' : PS} {w0 w w' : World}

set_option maxRecDepth 100000 in
set_option maxHeartbeats 4000000 in
theorem named_s (h : St bd L gp w0 Li b s w) (hb : b ≤ 999990000) (hn : s.nest ≠ []) : Calls Try.prog 63 #[.pointer (some ⟨gp, 0, none⟩)] w (PostM bd L gp w0 Li (b + 60) w (s.named)) := by
  have S0 := Lib.hid (St.start h.p h.li h.sz)
  have H := Lib.hid h
  have Hhn := Lib.hid hn
  clear h hn
  go_enter Try.func63, Try.ntmps63
  have Hn := Hhn
  go_wp2_with fail
  refine (take_s S0.out (1) (by decide)).mono ?_
  rintro e w1 (⟨hm, rfl, hk⟩ | ⟨hm, rfl, hk, hS⟩)
  · exact ⟨rfl, .err (by first | (simp only [PS.named, PS.expect, PS.take, bind, Except.bind, pure, Except.pure, if_neg hm]; done) | (simp only [PS.named, PS.expect, PS.take, bind, Except.bind, pure, Except.pure, if_neg hm]; rfl) | rfl) (H.out.outk hk)⟩
  have M1 := Lib.hid hm
  clear hm
  have S1 := Lib.hid hS
  clear hk hS
  go_wp2_with fail
  have hz : (w1.alloc (.cells #[.int .i64 s.cur.kind, .int .i64 s.cur.at_, .int .i64 s.cur.value, .string s.cur.name] 48)).heap.size = w1.heap.size + 1 := by simp
  have SL := (S1.out.local_ (.cells #[.int .i64 s.cur.kind, .int .i64 s.cur.at_, .int .i64 s.cur.value, .string s.cur.name] 48)).local_ (.cells #[.int .i64 0, .int .i64 s.cur.at_, .int .i64 s.cur.at_, .int .i64 0, .int .i64 0, .int .i64 0, .int .i64 0, .int .i64 0, .string s.cur.name, .slice none 0 0] 42)
  have C0 : Blk ((w1.alloc (.cells #[.int .i64 s.cur.kind, .int .i64 s.cur.at_, .int .i64 s.cur.value, .string s.cur.name] 48)).alloc (.cells #[.int .i64 0, .int .i64 s.cur.at_, .int .i64 s.cur.at_, .int .i64 0, .int .i64 0, .int .i64 0, .int .i64 0, .int .i64 0, .string s.cur.name, .slice none 0 0] 42)) w1.heap.size 48 [.int .i64 s.cur.kind, .int .i64 s.cur.at_, .int .i64 s.cur.value, .string s.cur.name] := (Blk.new w1 _ _).alloc _
  have C1 : Blk ((w1.alloc (.cells #[.int .i64 s.cur.kind, .int .i64 s.cur.at_, .int .i64 s.cur.value, .string s.cur.name] 48)).alloc (.cells #[.int .i64 0, .int .i64 s.cur.at_, .int .i64 s.cur.at_, .int .i64 0, .int .i64 0, .int .i64 0, .int .i64 0, .int .i64 0, .string s.cur.name, .slice none 0 0] 42)) (w1.alloc (.cells #[.int .i64 s.cur.kind, .int .i64 s.cur.at_, .int .i64 s.cur.value, .string s.cur.name] 48)).heap.size 42 [.int .i64 0, .int .i64 s.cur.at_, .int .i64 s.cur.at_, .int .i64 0, .int .i64 0, .int .i64 0, .int .i64 0, .int .i64 0, .string s.cur.name, .slice none 0 0] := Blk.new _ _ _
  obtain ⟨W, hW⟩ : ∃ W, W = ((w1.alloc (.cells #[.int .i64 s.cur.kind, .int .i64 s.cur.at_, .int .i64 s.cur.value, .string s.cur.name] 48)).alloc (.cells #[.int .i64 0, .int .i64 s.cur.at_, .int .i64 s.cur.at_, .int .i64 0, .int .i64 0, .int .i64 0, .int .i64 0, .int .i64 0, .string s.cur.name, .slice none 0 0] 42)) := ⟨_, rfl⟩
  rw [← hW] at SL C0 C1 ⊢
  rw [hz] at SL C1
  have hgw : w.heap.size ≤ w1.heap.size + 1 := Nat.le_trans S1.out.kp.size (Nat.le_add_right _ _)
  have hgg : w1.heap.size + 1 ≠ gp := by have := S1.out.p.lt; omega
  have hgg2 : gp ≠ w1.heap.size + 1 := by have := S1.out.p.lt; omega
  have B0 := Lib.hid C0
  have B1 := Lib.hid C1
  have HSL := Lib.hid SL
  clear hW hz C0 C1 SL
  refine (kind_s HSL.out).mono ?_
  rintro e w2 ⟨rfl, hk, hS⟩
  have B0 := B0.out.kp hk (.inr (by simp))
  have B1 := B1.out.kp hk (.inr (by simp))
  have x0_0 : w2.cell? ⟨w1.heap.size, 0, none⟩ = some (.int .i64 s.cur.kind) := B0.cell 0
  have x0_1 : w2.cell? ⟨w1.heap.size, 1, none⟩ = some (.int .i64 s.cur.at_) := B0.cell 1
  have x0_2 : w2.cell? ⟨w1.heap.size, 2, none⟩ = some (.int .i64 s.cur.value) := B0.cell 2
  have x0_3 : w2.cell? ⟨w1.heap.size, 3, none⟩ = some (.string s.cur.name) := B0.cell 3
  replace B0 := Lib.hid B0
  have x1_0 : w2.cell? ⟨w1.heap.size + 1, 0, none⟩ = some (.int .i64 0) := B1.cell 0
  have x1_1 : w2.cell? ⟨w1.heap.size + 1, 1, none⟩ = some (.int .i64 s.cur.at_) := B1.cell 1
  have x1_2 : w2.cell? ⟨w1.heap.size + 1, 2, none⟩ = some (.int .i64 s.cur.at_) := B1.cell 2
  have x1_3 : w2.cell? ⟨w1.heap.size + 1, 3, none⟩ = some (.int .i64 0) := B1.cell 3
  have x1_4 : w2.cell? ⟨w1.heap.size + 1, 4, none⟩ = some (.int .i64 0) := B1.cell 4
  have x1_5 : w2.cell? ⟨w1.heap.size + 1, 5, none⟩ = some (.int .i64 0) := B1.cell 5
  have x1_6 : w2.cell? ⟨w1.heap.size + 1, 6, none⟩ = some (.int .i64 0) := B1.cell 6
  have x1_7 : w2.cell? ⟨w1.heap.size + 1, 7, none⟩ = some (.int .i64 0) := B1.cell 7
  have x1_8 : w2.cell? ⟨w1.heap.size + 1, 8, none⟩ = some (.string s.cur.name) := B1.cell 8
  have x1_9 : w2.cell? ⟨w1.heap.size + 1, 9, none⟩ = some (.slice none 0 0) := B1.cell 9
  have y1 := B1.frozen 0
  replace B1 := Lib.hid B1
  have S2 := Lib.hid hS
  clear hk hS
  by_cases hm : s.skip.kind = 48
  · have qM2 : (s.skip.kind == 48) = true := by simpa using hm
    have M2 := Lib.hid hm
    clear hm
    have hlt := kind_lt (s := s.skip) (by rw [M2.out]; decide)
    obtain ⟨bt, off, tc, td, nd, fu, lo, be, ne, c0, c1, c2, c3, c4, c5, c6, c7, c8, c9, a0, a1, t0, t1, t2, t3⟩ := S2.out.cellsT hlt
    obtain ⟨n0, n1, n2, n3, n4⟩ := S2.out.nums hlt
    have z2 := S2.out.fz 2
    go_wp2_with fail
    refine (begin_s ((S2.out.skip hlt).store hgw (by simp) 0 (.int .i64 5)) (by omega) { kind := 5, at_ := s.cur.at_, where_ := s.cur.at_, name := s.cur.name } 0 (Nat.zero_le _)).mono ?_
    rintro e w3 ⟨rfl, hk, hS⟩
    clear c0 c1 c2 c3 c4 c5 c6 c7 c8 c9 a0 a1 t0 t1 t2 t3 n0 n1 n2 n3 n4 z2 x0_0 x0_1 x0_2 x0_3 B0 x1_0 x1_1 x1_2 x1_3 x1_4 x1_5 x1_6 x1_7 x1_8 x1_9 y1 B1
    have S3 := Lib.hid hS
    clear hk hS
    go_wp2_with fail
    refine (do_s S3.out (by omega) [.expression, .semi, .done] 3 rfl (by decide) _ (by simp) _ rfl).mono ?_
    rintro e w4 ⟨rfl, hk, hS⟩
    have S4 := Lib.hid hS
    clear hk hS
    go_wp2_with fail
    go_end0
    exact .ok (H.out.out (S4.out.le (by omega))) (by first | (simp only [PS.named, PS.expect, PS.take, bind, Except.bind, pure, Except.pure, if_pos M1.out, if_pos M2.out]; done) | (simp only [PS.named, PS.expect, PS.take, bind, Except.bind, pure, Except.pure, if_pos M1.out, if_pos M2.out]; rfl) | rfl)
  · have qM2 : (s.skip.kind == 48) = false := by simpa using hm
    have M2 := Lib.hid hm
    clear hm
    by_cases hm : s.skip.kind = 44
    · have qM3 : (s.skip.kind == 44) = true := by simpa using hm
      have M3 := Lib.hid hm
      clear hm
      go_wp2_with fail
      refine (opened_s S2.out (by omega) (44) (by decide) Hn.out).mono ?_
      rintro e w3 (⟨hm, rfl, hk⟩ | ⟨hm, rfl, hk, hS⟩)
      · exact ⟨rfl, .err (by first | (simp only [PS.named, PS.opened, PS.expect, PS.take, bind, Except.bind, pure, Except.pure, if_pos M1.out, if_neg M2.out, if_pos M3.out, if_neg hm]; done) | (simp only [PS.named, PS.opened, PS.expect, PS.take, bind, Except.bind, pure, Except.pure, if_pos M1.out, if_neg M2.out, if_pos M3.out, if_neg hm]; rfl) | rfl | exact absurd M1.out hm | exact absurd M2.out hm | exact absurd M3.out hm) (H.out.outk hk)⟩
      have M4 := Lib.hid hm
      clear hm
      have B0 := B0.out.kp hk (.inr (by simp))
      have B1 := B1.out.kp hk (.inr (by simp))
      clear x0_0 x0_1 x0_2 x0_3 x1_0 x1_1 x1_2 x1_3 x1_4 x1_5 x1_6 x1_7 x1_8 x1_9 y1
      have x0_0 : w3.cell? ⟨w1.heap.size, 0, none⟩ = some (.int .i64 s.cur.kind) := B0.cell 0
      have x0_1 : w3.cell? ⟨w1.heap.size, 1, none⟩ = some (.int .i64 s.cur.at_) := B0.cell 1
      have x0_2 : w3.cell? ⟨w1.heap.size, 2, none⟩ = some (.int .i64 s.cur.value) := B0.cell 2
      have x0_3 : w3.cell? ⟨w1.heap.size, 3, none⟩ = some (.string s.cur.name) := B0.cell 3
      replace B0 := Lib.hid B0
      have x1_0 : w3.cell? ⟨w1.heap.size + 1, 0, none⟩ = some (.int .i64 0) := B1.cell 0
      have x1_1 : w3.cell? ⟨w1.heap.size + 1, 1, none⟩ = some (.int .i64 s.cur.at_) := B1.cell 1
      have x1_2 : w3.cell? ⟨w1.heap.size + 1, 2, none⟩ = some (.int .i64 s.cur.at_) := B1.cell 2
      have x1_3 : w3.cell? ⟨w1.heap.size + 1, 3, none⟩ = some (.int .i64 0) := B1.cell 3
      have x1_4 : w3.cell? ⟨w1.heap.size + 1, 4, none⟩ = some (.int .i64 0) := B1.cell 4
      have x1_5 : w3.cell? ⟨w1.heap.size + 1, 5, none⟩ = some (.int .i64 0) := B1.cell 5
      have x1_6 : w3.cell? ⟨w1.heap.size + 1, 6, none⟩ = some (.int .i64 0) := B1.cell 6
      have x1_7 : w3.cell? ⟨w1.heap.size + 1, 7, none⟩ = some (.int .i64 0) := B1.cell 7
      have x1_8 : w3.cell? ⟨w1.heap.size + 1, 8, none⟩ = some (.string s.cur.name) := B1.cell 8
      have x1_9 : w3.cell? ⟨w1.heap.size + 1, 9, none⟩ = some (.slice none 0 0) := B1.cell 9
      have y1 := B1.frozen 0
      replace B1 := Lib.hid B1
      have S3 := Lib.hid hS
      clear hk hS
      go_wp2_with fail
      refine (begin_s (S3.out.store hgw (by simp) 0 (.int .i64 6)) (by omega) { kind := 6, at_ := s.cur.at_, where_ := s.cur.at_, name := s.cur.name } 0 (Nat.zero_le _)).mono ?_
      rintro e w4 ⟨rfl, hk, hS⟩
      clear x0_0 x0_1 x0_2 x0_3 B0 x1_0 x1_1 x1_2 x1_3 x1_4 x1_5 x1_6 x1_7 x1_8 x1_9 y1 B1
      have S4 := Lib.hid hS
      clear hk hS
      go_wp2_with fail
      refine (do_s S4.out (by omega) [.expression, .shut, .set, .expression, .semi, .done] 6 rfl (by decide) _ (by simp) _ rfl).mono ?_
      rintro e w5 ⟨rfl, hk, hS⟩
      have S5 := Lib.hid hS
      clear hk hS
      go_wp2_with fail
      go_end0
      exact .ok (H.out.out (S5.out.le (by omega))) (by first | (simp only [PS.named, PS.opened, PS.expect, PS.take, bind, Except.bind, pure, Except.pure, if_pos M1.out, if_neg M2.out, if_pos M3.out, if_pos M4.out]; done) | (simp only [PS.named, PS.opened, PS.expect, PS.take, bind, Except.bind, pure, Except.pure, if_pos M1.out, if_neg M2.out, if_pos M3.out, if_pos M4.out]; rfl) | rfl)
    · have qM3 : (s.skip.kind == 44) = false := by simpa using hm
      have M3 := Lib.hid hm
      clear hm
      go_wp2_with fail
      refine (opened_s S2.out (by omega) (40) (by decide) Hn.out).mono ?_
      rintro e w3 (⟨hm, rfl, hk⟩ | ⟨hm, rfl, hk, hS⟩)
      · exact ⟨rfl, .err (by first | (simp only [PS.named, PS.opened, PS.expect, PS.take, bind, Except.bind, pure, Except.pure, if_pos M1.out, if_neg M2.out, if_neg M3.out, if_neg hm]; done) | (simp only [PS.named, PS.opened, PS.expect, PS.take, bind, Except.bind, pure, Except.pure, if_pos M1.out, if_neg M2.out, if_neg M3.out, if_neg hm]; rfl) | rfl | exact absurd M1.out hm | exact absurd M2.out hm | exact absurd M3.out hm) (H.out.outk hk)⟩
      have M4 := Lib.hid hm
      clear hm
      have B0 := B0.out.kp hk (.inr (by simp))
      have B1 := B1.out.kp hk (.inr (by simp))
      clear x0_0 x0_1 x0_2 x0_3 x1_0 x1_1 x1_2 x1_3 x1_4 x1_5 x1_6 x1_7 x1_8 x1_9 y1
      have x0_0 : w3.cell? ⟨w1.heap.size, 0, none⟩ = some (.int .i64 s.cur.kind) := B0.cell 0
      have x0_1 : w3.cell? ⟨w1.heap.size, 1, none⟩ = some (.int .i64 s.cur.at_) := B0.cell 1
      have x0_2 : w3.cell? ⟨w1.heap.size, 2, none⟩ = some (.int .i64 s.cur.value) := B0.cell 2
      have x0_3 : w3.cell? ⟨w1.heap.size, 3, none⟩ = some (.string s.cur.name) := B0.cell 3
      replace B0 := Lib.hid B0
      have x1_0 : w3.cell? ⟨w1.heap.size + 1, 0, none⟩ = some (.int .i64 0) := B1.cell 0
      have x1_1 : w3.cell? ⟨w1.heap.size + 1, 1, none⟩ = some (.int .i64 s.cur.at_) := B1.cell 1
      have x1_2 : w3.cell? ⟨w1.heap.size + 1, 2, none⟩ = some (.int .i64 s.cur.at_) := B1.cell 2
      have x1_3 : w3.cell? ⟨w1.heap.size + 1, 3, none⟩ = some (.int .i64 0) := B1.cell 3
      have x1_4 : w3.cell? ⟨w1.heap.size + 1, 4, none⟩ = some (.int .i64 0) := B1.cell 4
      have x1_5 : w3.cell? ⟨w1.heap.size + 1, 5, none⟩ = some (.int .i64 0) := B1.cell 5
      have x1_6 : w3.cell? ⟨w1.heap.size + 1, 6, none⟩ = some (.int .i64 0) := B1.cell 6
      have x1_7 : w3.cell? ⟨w1.heap.size + 1, 7, none⟩ = some (.int .i64 0) := B1.cell 7
      have x1_8 : w3.cell? ⟨w1.heap.size + 1, 8, none⟩ = some (.string s.cur.name) := B1.cell 8
      have x1_9 : w3.cell? ⟨w1.heap.size + 1, 9, none⟩ = some (.slice none 0 0) := B1.cell 9
      have y1 := B1.frozen 0
      replace B1 := Lib.hid B1
      have S3 := Lib.hid hS
      clear hk hS
      go_wp2_with fail
      refine (begin_s S3.out (by omega) { kind := 7, at_ := s.cur.at_ } 0 (Nat.zero_le _)).mono ?_
      rintro e w4 ⟨rfl, hk, hS⟩
      have B0 := B0.out.kp hk (.inr (by simp))
      have B1 := B1.out.kp hk (.inr (by simp))
      clear x0_0 x0_1 x0_2 x0_3 x1_0 x1_1 x1_2 x1_3 x1_4 x1_5 x1_6 x1_7 x1_8 x1_9 y1
      have x0_0 : w4.cell? ⟨w1.heap.size, 0, none⟩ = some (.int .i64 s.cur.kind) := B0.cell 0
      have x0_1 : w4.cell? ⟨w1.heap.size, 1, none⟩ = some (.int .i64 s.cur.at_) := B0.cell 1
      have x0_2 : w4.cell? ⟨w1.heap.size, 2, none⟩ = some (.int .i64 s.cur.value) := B0.cell 2
      have x0_3 : w4.cell? ⟨w1.heap.size, 3, none⟩ = some (.string s.cur.name) := B0.cell 3
      replace B0 := Lib.hid B0
      have x1_0 : w4.cell? ⟨w1.heap.size + 1, 0, none⟩ = some (.int .i64 0) := B1.cell 0
      have x1_1 : w4.cell? ⟨w1.heap.size + 1, 1, none⟩ = some (.int .i64 s.cur.at_) := B1.cell 1
      have x1_2 : w4.cell? ⟨w1.heap.size + 1, 2, none⟩ = some (.int .i64 s.cur.at_) := B1.cell 2
      have x1_3 : w4.cell? ⟨w1.heap.size + 1, 3, none⟩ = some (.int .i64 0) := B1.cell 3
      have x1_4 : w4.cell? ⟨w1.heap.size + 1, 4, none⟩ = some (.int .i64 0) := B1.cell 4
      have x1_5 : w4.cell? ⟨w1.heap.size + 1, 5, none⟩ = some (.int .i64 0) := B1.cell 5
      have x1_6 : w4.cell? ⟨w1.heap.size + 1, 6, none⟩ = some (.int .i64 0) := B1.cell 6
      have x1_7 : w4.cell? ⟨w1.heap.size + 1, 7, none⟩ = some (.int .i64 0) := B1.cell 7
      have x1_8 : w4.cell? ⟨w1.heap.size + 1, 8, none⟩ = some (.string s.cur.name) := B1.cell 8
      have x1_9 : w4.cell? ⟨w1.heap.size + 1, 9, none⟩ = some (.slice none 0 0) := B1.cell 9
      have y1 := B1.frozen 0
      replace B1 := Lib.hid B1
      have S4 := Lib.hid hS
      clear hk hS
      go_wp2_with fail
      refine (begin_s (S4.out.store hgw (by simp) 0 (.int .i64 25)) (by omega) { kind := 25, at_ := s.cur.at_, where_ := s.cur.at_, name := s.cur.name } 0 (Nat.zero_le _)).mono ?_
      rintro e w5 ⟨rfl, hk, hS⟩
      clear x0_0 x0_1 x0_2 x0_3 B0 x1_0 x1_1 x1_2 x1_3 x1_4 x1_5 x1_6 x1_7 x1_8 x1_9 y1 B1
      have S5 := Lib.hid hS
      clear hk hS
      go_wp2_with fail
      refine (do_s S5.out (by omega) [.arguments, .done, .semi, .done] 4 rfl (by decide) _ (by simp) _ rfl).mono ?_
      rintro e w6 ⟨rfl, hk, hS⟩
      have S6 := Lib.hid hS
      clear hk hS
      go_wp2_with fail
      go_end0
      exact .ok (H.out.out (S6.out.le (by omega))) (by first | (simp only [PS.named, PS.opened, PS.expect, PS.take, bind, Except.bind, pure, Except.pure, if_pos M1.out, if_neg M2.out, if_neg M3.out, if_pos M4.out]; done) | (simp only [PS.named, PS.opened, PS.expect, PS.take, bind, Except.bind, pure, Except.pure, if_pos M1.out, if_neg M2.out, if_neg M3.out, if_pos M4.out]; rfl) | rfl)
end
end Go.Proofs.Ythodjlhjfaccpaa
