/- The walks of the parser's rules: printed by a program of mine (wip/tools/rules.py). -/
import Derived.Test.YthodjlhjfaccpaaPn
set_option linter.unusedVariables false
set_option linter.unusedSimpArgs false
namespace Go.Proofs.Ythodjlhjfaccpaa
open Go Go.RowKit Mem Pm

section
variable {bd : Nat} {L Li : List Nat} {gp b b' : Nat} {s s' : PS} {w0 w w' : World}

set_option maxRecDepth 100000 in
set_option maxHeartbeats 4000000 in
theorem statement_s (h : St bd L gp w0 Li b s w) (hb : b ≤ 999980000) (hn : s.nest ≠ []) : Calls Try.prog 59 #[.pointer (some ⟨gp, 0, none⟩)] w (PostM bd L gp w0 Li (b + 60) w (s.statement)) := by
  have S0 := Lib.hid (St.start h.p h.li h.sz)
  have H := Lib.hid h
  have Hhn := Lib.hid hn
  clear h hn
  go_enter Try.func59, Try.ntmps59
  have Hn := Hhn
  go_wp2_with fail
  refine (kind_s S0.out).mono ?_
  rintro e w1 ⟨rfl, hk, hS⟩
  have S1 := Lib.hid hS
  clear hk hS
  by_cases hm : s.kind = 11
  · have qM1 : (s.kind == 11) = true := by simpa using hm
    have M1 := Lib.hid hm
    clear hm
    go_wp2_with fail
    refine (variable_s S1.out (by omega)).mono ?_
    rintro e w2 (⟨f, hm, rfl, hk⟩ | ⟨s', hm, rfl, hk, hS⟩)
    · exact ⟨rfl, .err (by first | (simp only [PS.statement, PS.expect, PS.take, bind, Except.bind, pure, Except.pure, if_pos M1.out, hm]; done) | (simp only [PS.statement, PS.expect, PS.take, bind, Except.bind, pure, Except.pure, if_pos M1.out, hm]; rfl) | rfl | exact absurd M1.out hm) (H.out.outk hk)⟩
    have MC := Lib.hid hm
    clear hm
    have S2 := Lib.hid hS
    clear hk hS
    go_wp2_with fail
    go_end0
    exact .ok (H.out.out (S2.out.le (by omega))) (by first | (simp only [PS.statement, PS.expect, PS.take, bind, Except.bind, pure, Except.pure, if_pos M1.out, MC.out]; done) | (simp only [PS.statement, PS.expect, PS.take, bind, Except.bind, pure, Except.pure, if_pos M1.out, MC.out]; rfl) | rfl)
  · have qM1 : (s.kind == 11) = false := by simpa using hm
    have M1 := Lib.hid hm
    clear hm
    by_cases hm : s.kind = 1
    · have qM2 : (s.kind == 1) = true := by simpa using hm
      have M2 := Lib.hid hm
      clear hm
      go_wp2_with fail
      refine (named_s S1.out (by omega) Hn.out).mono ?_
      rintro e w2 (⟨f, hm, rfl, hk⟩ | ⟨s', hm, rfl, hk, hS⟩)
      · exact ⟨rfl, .err (by first | (simp only [PS.statement, PS.expect, PS.take, bind, Except.bind, pure, Except.pure, if_neg M1.out, if_pos M2.out, hm]; done) | (simp only [PS.statement, PS.expect, PS.take, bind, Except.bind, pure, Except.pure, if_neg M1.out, if_pos M2.out, hm]; rfl) | rfl | exact absurd M1.out hm | exact absurd M2.out hm) (H.out.outk hk)⟩
      have MC := Lib.hid hm
      clear hm
      have S2 := Lib.hid hS
      clear hk hS
      go_wp2_with fail
      go_end0
      exact .ok (H.out.out (S2.out.le (by omega))) (by first | (simp only [PS.statement, PS.expect, PS.take, bind, Except.bind, pure, Except.pure, if_neg M1.out, if_pos M2.out, MC.out]; done) | (simp only [PS.statement, PS.expect, PS.take, bind, Except.bind, pure, Except.pure, if_neg M1.out, if_pos M2.out, MC.out]; rfl) | rfl)
    · have qM2 : (s.kind == 1) = false := by simpa using hm
      have M2 := Lib.hid hm
      clear hm
      by_cases hm : s.kind = 18
      · have qM3 : (s.kind == 18) = true := by simpa using hm
        have M3 := Lib.hid hm
        clear hm
        go_wp2_with fail
        refine (told_s S1.out (by omega) 8 (by rw [M3.out]; decide) Hn.out).mono ?_
        rintro e w2 (⟨f, hm, rfl, hk⟩ | ⟨s', hm, rfl, hk, hS⟩)
        · exact ⟨rfl, .err (by first | (simp only [PS.statement, PS.expect, PS.take, bind, Except.bind, pure, Except.pure, if_neg M1.out, if_neg M2.out, if_pos M3.out, hm]; done) | (simp only [PS.statement, PS.expect, PS.take, bind, Except.bind, pure, Except.pure, if_neg M1.out, if_neg M2.out, if_pos M3.out, hm]; rfl) | rfl | exact absurd M1.out hm | exact absurd M2.out hm | exact absurd M3.out hm) (H.out.outk hk)⟩
        have MC := Lib.hid hm
        clear hm
        have S2 := Lib.hid hS
        clear hk hS
        go_wp2_with fail
        go_end0
        exact .ok (H.out.out (S2.out.le (by omega))) (by first | (simp only [PS.statement, PS.expect, PS.take, bind, Except.bind, pure, Except.pure, if_neg M1.out, if_neg M2.out, if_pos M3.out, MC.out]; done) | (simp only [PS.statement, PS.expect, PS.take, bind, Except.bind, pure, Except.pure, if_neg M1.out, if_neg M2.out, if_pos M3.out, MC.out]; rfl) | rfl)
      · have qM3 : (s.kind == 18) = false := by simpa using hm
        have M3 := Lib.hid hm
        clear hm
        by_cases hm : s.kind = 19
        · have qM4 : (s.kind == 19) = true := by simpa using hm
          have M4 := Lib.hid hm
          clear hm
          go_wp2_with fail
          refine (told_s S1.out (by omega) 9 (by rw [M4.out]; decide) Hn.out).mono ?_
          rintro e w2 (⟨f, hm, rfl, hk⟩ | ⟨s', hm, rfl, hk, hS⟩)
          · exact ⟨rfl, .err (by first | (simp only [PS.statement, PS.expect, PS.take, bind, Except.bind, pure, Except.pure, if_neg M1.out, if_neg M2.out, if_neg M3.out, if_pos M4.out, hm]; done) | (simp only [PS.statement, PS.expect, PS.take, bind, Except.bind, pure, Except.pure, if_neg M1.out, if_neg M2.out, if_neg M3.out, if_pos M4.out, hm]; rfl) | rfl | exact absurd M1.out hm | exact absurd M2.out hm | exact absurd M3.out hm | exact absurd M4.out hm) (H.out.outk hk)⟩
          have MC := Lib.hid hm
          clear hm
          have S2 := Lib.hid hS
          clear hk hS
          go_wp2_with fail
          go_end0
          exact .ok (H.out.out (S2.out.le (by omega))) (by first | (simp only [PS.statement, PS.expect, PS.take, bind, Except.bind, pure, Except.pure, if_neg M1.out, if_neg M2.out, if_neg M3.out, if_pos M4.out, MC.out]; done) | (simp only [PS.statement, PS.expect, PS.take, bind, Except.bind, pure, Except.pure, if_neg M1.out, if_neg M2.out, if_neg M3.out, if_pos M4.out, MC.out]; rfl) | rfl)
        · have qM4 : (s.kind == 19) = false := by simpa using hm
          have M4 := Lib.hid hm
          clear hm
          by_cases hm : s.kind = 12
          · have qM5 : (s.kind == 12) = true := by simpa using hm
            have M5 := Lib.hid hm
            clear hm
            go_wp2_with fail
            refine (condition_s S1.out (by omega)).mono ?_
            rintro e w2 (⟨f, hm, rfl, hk⟩ | ⟨s', hm, rfl, hk, hS⟩)
            · exact ⟨rfl, .err (by first | (simp only [PS.statement, PS.expect, PS.take, bind, Except.bind, pure, Except.pure, if_neg M1.out, if_neg M2.out, if_neg M3.out, if_neg M4.out, if_pos M5.out, hm]; done) | (simp only [PS.statement, PS.expect, PS.take, bind, Except.bind, pure, Except.pure, if_neg M1.out, if_neg M2.out, if_neg M3.out, if_neg M4.out, if_pos M5.out, hm]; rfl) | rfl | exact absurd M1.out hm | exact absurd M2.out hm | exact absurd M3.out hm | exact absurd M4.out hm | exact absurd M5.out hm) (H.out.outk hk)⟩
            have MC := Lib.hid hm
            clear hm
            have S2 := Lib.hid hS
            clear hk hS
            go_wp2_with fail
            go_end0
            exact .ok (H.out.out (S2.out.le (by omega))) (by first | (simp only [PS.statement, PS.expect, PS.take, bind, Except.bind, pure, Except.pure, if_neg M1.out, if_neg M2.out, if_neg M3.out, if_neg M4.out, if_pos M5.out, MC.out]; done) | (simp only [PS.statement, PS.expect, PS.take, bind, Except.bind, pure, Except.pure, if_neg M1.out, if_neg M2.out, if_neg M3.out, if_neg M4.out, if_pos M5.out, MC.out]; rfl) | rfl)
          · have qM5 : (s.kind == 12) = false := by simpa using hm
            have M5 := Lib.hid hm
            clear hm
            by_cases hm : s.kind = 14
            · have qM6 : (s.kind == 14) = true := by simpa using hm
              have M6 := Lib.hid hm
              clear hm
              go_wp2_with fail
              refine (loop_s S1.out (by omega)).mono ?_
              rintro e w2 (⟨f, hm, rfl, hk⟩ | ⟨s', hm, rfl, hk, hS⟩)
              · exact ⟨rfl, .err (by first | (simp only [PS.statement, PS.expect, PS.take, bind, Except.bind, pure, Except.pure, if_neg M1.out, if_neg M2.out, if_neg M3.out, if_neg M4.out, if_neg M5.out, if_pos M6.out, hm]; done) | (simp only [PS.statement, PS.expect, PS.take, bind, Except.bind, pure, Except.pure, if_neg M1.out, if_neg M2.out, if_neg M3.out, if_neg M4.out, if_neg M5.out, if_pos M6.out, hm]; rfl) | rfl | exact absurd M1.out hm | exact absurd M2.out hm | exact absurd M3.out hm | exact absurd M4.out hm | exact absurd M5.out hm | exact absurd M6.out hm) (H.out.outk hk)⟩
              have MC := Lib.hid hm
              clear hm
              have S2 := Lib.hid hS
              clear hk hS
              go_wp2_with fail
              go_end0
              exact .ok (H.out.out (S2.out.le (by omega))) (by first | (simp only [PS.statement, PS.expect, PS.take, bind, Except.bind, pure, Except.pure, if_neg M1.out, if_neg M2.out, if_neg M3.out, if_neg M4.out, if_neg M5.out, if_pos M6.out, MC.out]; done) | (simp only [PS.statement, PS.expect, PS.take, bind, Except.bind, pure, Except.pure, if_neg M1.out, if_neg M2.out, if_neg M3.out, if_neg M4.out, if_neg M5.out, if_pos M6.out, MC.out]; rfl) | rfl)
            · have qM6 : (s.kind == 14) = false := by simpa using hm
              have M6 := Lib.hid hm
              clear hm
              by_cases hm : s.kind = 15
              · have qM7 : (s.kind == 15) = true := by simpa using hm
                have M7 := Lib.hid hm
                clear hm
                go_wp2_with fail
                refine (returned_s S1.out (by omega)).mono ?_
                rintro e w2 (⟨f, hm, rfl, hk⟩ | ⟨s', hm, rfl, hk, hS⟩)
                · exact ⟨rfl, .err (by first | (simp only [PS.statement, PS.expect, PS.take, bind, Except.bind, pure, Except.pure, if_neg M1.out, if_neg M2.out, if_neg M3.out, if_neg M4.out, if_neg M5.out, if_neg M6.out, if_pos M7.out, hm]; done) | (simp only [PS.statement, PS.expect, PS.take, bind, Except.bind, pure, Except.pure, if_neg M1.out, if_neg M2.out, if_neg M3.out, if_neg M4.out, if_neg M5.out, if_neg M6.out, if_pos M7.out, hm]; rfl) | rfl | exact absurd M1.out hm | exact absurd M2.out hm | exact absurd M3.out hm | exact absurd M4.out hm | exact absurd M5.out hm | exact absurd M6.out hm | exact absurd M7.out hm) (H.out.outk hk)⟩
                have MC := Lib.hid hm
                clear hm
                have S2 := Lib.hid hS
                clear hk hS
                go_wp2_with fail
                go_end0
                exact .ok (H.out.out (S2.out.le (by omega))) (by first | (simp only [PS.statement, PS.expect, PS.take, bind, Except.bind, pure, Except.pure, if_neg M1.out, if_neg M2.out, if_neg M3.out, if_neg M4.out, if_neg M5.out, if_neg M6.out, if_pos M7.out, MC.out]; done) | (simp only [PS.statement, PS.expect, PS.take, bind, Except.bind, pure, Except.pure, if_neg M1.out, if_neg M2.out, if_neg M3.out, if_neg M4.out, if_neg M5.out, if_neg M6.out, if_pos M7.out, MC.out]; rfl) | rfl)
              · have qM7 : (s.kind == 15) = false := by simpa using hm
                have M7 := Lib.hid hm
                clear hm
                by_cases hm : s.kind = 16
                · have qM8 : (s.kind == 16) = true := by simpa using hm
                  have M8 := Lib.hid hm
                  clear hm
                  go_wp2_with fail
                  refine (word_s S1.out (by omega) 13 (by rw [M8.out]; decide)).mono ?_
                  rintro e w2 (⟨f, hm, rfl, hk⟩ | ⟨s', hm, rfl, hk, hS⟩)
                  · exact ⟨rfl, .err (by first | (simp only [PS.statement, PS.expect, PS.take, bind, Except.bind, pure, Except.pure, if_neg M1.out, if_neg M2.out, if_neg M3.out, if_neg M4.out, if_neg M5.out, if_neg M6.out, if_neg M7.out, if_pos M8.out, hm]; done) | (simp only [PS.statement, PS.expect, PS.take, bind, Except.bind, pure, Except.pure, if_neg M1.out, if_neg M2.out, if_neg M3.out, if_neg M4.out, if_neg M5.out, if_neg M6.out, if_neg M7.out, if_pos M8.out, hm]; rfl) | rfl | exact absurd M1.out hm | exact absurd M2.out hm | exact absurd M3.out hm | exact absurd M4.out hm | exact absurd M5.out hm | exact absurd M6.out hm | exact absurd M7.out hm | exact absurd M8.out hm) (H.out.outk hk)⟩
                  have MC := Lib.hid hm
                  clear hm
                  have S2 := Lib.hid hS
                  clear hk hS
                  go_wp2_with fail
                  go_end0
                  exact .ok (H.out.out (S2.out.le (by omega))) (by first | (simp only [PS.statement, PS.expect, PS.take, bind, Except.bind, pure, Except.pure, if_neg M1.out, if_neg M2.out, if_neg M3.out, if_neg M4.out, if_neg M5.out, if_neg M6.out, if_neg M7.out, if_pos M8.out, MC.out]; done) | (simp only [PS.statement, PS.expect, PS.take, bind, Except.bind, pure, Except.pure, if_neg M1.out, if_neg M2.out, if_neg M3.out, if_neg M4.out, if_neg M5.out, if_neg M6.out, if_neg M7.out, if_pos M8.out, MC.out]; rfl) | rfl)
                · have qM8 : (s.kind == 16) = false := by simpa using hm
                  have M8 := Lib.hid hm
                  clear hm
                  by_cases hm : s.kind = 17
                  · have qM9 : (s.kind == 17) = true := by simpa using hm
                    have M9 := Lib.hid hm
                    clear hm
                    go_wp2_with fail
                    refine (word_s S1.out (by omega) 14 (by rw [M9.out]; decide)).mono ?_
                    rintro e w2 (⟨f, hm, rfl, hk⟩ | ⟨s', hm, rfl, hk, hS⟩)
                    · exact ⟨rfl, .err (by first | (simp only [PS.statement, PS.expect, PS.take, bind, Except.bind, pure, Except.pure, if_neg M1.out, if_neg M2.out, if_neg M3.out, if_neg M4.out, if_neg M5.out, if_neg M6.out, if_neg M7.out, if_neg M8.out, if_pos M9.out, hm]; done) | (simp only [PS.statement, PS.expect, PS.take, bind, Except.bind, pure, Except.pure, if_neg M1.out, if_neg M2.out, if_neg M3.out, if_neg M4.out, if_neg M5.out, if_neg M6.out, if_neg M7.out, if_neg M8.out, if_pos M9.out, hm]; rfl) | rfl | exact absurd M1.out hm | exact absurd M2.out hm | exact absurd M3.out hm | exact absurd M4.out hm | exact absurd M5.out hm | exact absurd M6.out hm | exact absurd M7.out hm | exact absurd M8.out hm | exact absurd M9.out hm) (H.out.outk hk)⟩
                    have MC := Lib.hid hm
                    clear hm
                    have S2 := Lib.hid hS
                    clear hk hS
                    go_wp2_with fail
                    go_end0
                    exact .ok (H.out.out (S2.out.le (by omega))) (by first | (simp only [PS.statement, PS.expect, PS.take, bind, Except.bind, pure, Except.pure, if_neg M1.out, if_neg M2.out, if_neg M3.out, if_neg M4.out, if_neg M5.out, if_neg M6.out, if_neg M7.out, if_neg M8.out, if_pos M9.out, MC.out]; done) | (simp only [PS.statement, PS.expect, PS.take, bind, Except.bind, pure, Except.pure, if_neg M1.out, if_neg M2.out, if_neg M3.out, if_neg M4.out, if_neg M5.out, if_neg M6.out, if_neg M7.out, if_neg M8.out, if_pos M9.out, MC.out]; rfl) | rfl)
                  · have qM9 : (s.kind == 17) = false := by simpa using hm
                    have M9 := Lib.hid hm
                    clear hm
                    by_cases hm : s.kind = 42
                    · have qM10 : (s.kind == 42) = true := by simpa using hm
                      have M10 := Lib.hid hm
                      clear hm
                      go_wp2_with fail
                      refine (do_s S1.out (by omega) [.block] 1 rfl (by decide) _ (by simp) _ rfl).mono ?_
                      rintro e w2 ⟨rfl, hk, hS⟩
                      have S2 := Lib.hid hS
                      clear hk hS
                      go_wp2_with fail
                      go_end0
                      exact .ok (H.out.out (S2.out.le (by omega))) (by first | (simp only [PS.statement, PS.expect, PS.take, bind, Except.bind, pure, Except.pure, if_neg M1.out, if_neg M2.out, if_neg M3.out, if_neg M4.out, if_neg M5.out, if_neg M6.out, if_neg M7.out, if_neg M8.out, if_neg M9.out, if_pos M10.out]; done) | (simp only [PS.statement, PS.expect, PS.take, bind, Except.bind, pure, Except.pure, if_neg M1.out, if_neg M2.out, if_neg M3.out, if_neg M4.out, if_neg M5.out, if_neg M6.out, if_neg M7.out, if_neg M8.out, if_neg M9.out, if_pos M10.out]; rfl) | rfl)
                    · have qM10 : (s.kind == 42) = false := by simpa using hm
                      have M10 := Lib.hid hm
                      clear hm
                      go_wp2_with fail
                      refine (fail_s S1.out).mono ?_
                      rintro e w2 ⟨rfl, hk⟩
                      exact ⟨rfl, .err (by first | (simp only [PS.statement, PS.expect, PS.take, bind, Except.bind, pure, Except.pure, if_neg M1.out, if_neg M2.out, if_neg M3.out, if_neg M4.out, if_neg M5.out, if_neg M6.out, if_neg M7.out, if_neg M8.out, if_neg M9.out, if_neg M10.out]; done) | (simp only [PS.statement, PS.expect, PS.take, bind, Except.bind, pure, Except.pure, if_neg M1.out, if_neg M2.out, if_neg M3.out, if_neg M4.out, if_neg M5.out, if_neg M6.out, if_neg M7.out, if_neg M8.out, if_neg M9.out, if_neg M10.out]; rfl) | rfl) (H.out.outk hk)⟩

set_option maxRecDepth 100000 in
set_option maxHeartbeats 4000000 in
theorem plain_s (h : St bd L gp w0 Li b s w) (hb : b ≤ 999980000) (hn : s.nest ≠ []) : Calls Try.prog 92 #[.pointer (some ⟨gp, 0, none⟩)] w (PostM bd L gp w0 Li (b + 60) w (s.plain)) := by
  have S0 := Lib.hid (St.start h.p h.li h.sz)
  have H := Lib.hid h
  have Hhn := Lib.hid hn
  clear h hn
  go_enter Try.func92, Try.ntmps92
  have Hn := Hhn
  go_wp2_with fail
  refine (kind_s S0.out).mono ?_
  rintro e w1 ⟨rfl, hk, hS⟩
  have S1 := Lib.hid hS
  clear hk hS
  by_cases hm : s.kind = 0
  · have qM1 : (s.kind == 0) = true := by simpa using hm
    have M1 := Lib.hid hm
    clear hm
    go_wp2_with fail
    refine (fail_s S1.out).mono ?_
    rintro e w2 ⟨rfl, hk⟩
    exact ⟨rfl, .err (by first | (simp only [PS.plain, PS.expect, PS.take, bind, Except.bind, pure, Except.pure, if_pos M1.out]; done) | (simp only [PS.plain, PS.expect, PS.take, bind, Except.bind, pure, Except.pure, if_pos M1.out]; rfl) | rfl) (H.out.outk hk)⟩
  · have qM1 : (s.kind == 0) = false := by simpa using hm
    have M1 := Lib.hid hm
    clear hm
    go_wp2_with fail
    refine (take_s S1.out s.kind M1.out).mono ?_
    rintro e w2 (⟨hm, rfl, hk⟩ | ⟨hm, rfl, hk, hS⟩)
    · exact absurd rfl hm
    clear hm
    have S2 := Lib.hid hS
    clear hk hS
    by_cases hm : s.kind = 2
    · have qM2 : (s.kind == 2) = true := by simpa using hm
      have M2 := Lib.hid hm
      clear hm
      go_wp2_with fail
      refine (leaf_s (S2.out.local_ _) (by omega) { kind := 20, at_ := s.cur.at_, value := s.cur.value }).mono ?_
      rintro e w3 ⟨rfl, hk, hS⟩
      have B0 : Blk w3 w2.heap.size 48 [.int .i64 s.cur.kind, .int .i64 s.cur.at_, .int .i64 s.cur.value, .string s.cur.name] := (Blk.new w2 48 [.int .i64 s.cur.kind, .int .i64 s.cur.at_, .int .i64 s.cur.value, .string s.cur.name]).kp hk (.inr (by simp))
      have x0_0 : w3.cell? ⟨w2.heap.size, 0, none⟩ = some (.int .i64 s.cur.kind) := B0.cell 0
      have x0_1 : w3.cell? ⟨w2.heap.size, 1, none⟩ = some (.int .i64 s.cur.at_) := B0.cell 1
      have x0_2 : w3.cell? ⟨w2.heap.size, 2, none⟩ = some (.int .i64 s.cur.value) := B0.cell 2
      have x0_3 : w3.cell? ⟨w2.heap.size, 3, none⟩ = some (.string s.cur.name) := B0.cell 3
      replace B0 := Lib.hid B0
      have S3 := Lib.hid hS
      clear hk hS
      go_wp2_with fail
      go_end0
      exact .ok (H.out.out (S3.out.le (by omega))) (by first | (simp only [PS.plain, PS.expect, PS.take, bind, Except.bind, pure, Except.pure, if_neg M1.out, if_pos M2.out]; done) | (simp only [PS.plain, PS.expect, PS.take, bind, Except.bind, pure, Except.pure, if_neg M1.out, if_pos M2.out]; rfl) | rfl)
    · have qM2 : (s.kind == 2) = false := by simpa using hm
      have M2 := Lib.hid hm
      clear hm
      by_cases hm : s.kind = 25
      · have qM3 : (s.kind == 25) = true := by simpa using hm
        have M3 := Lib.hid hm
        clear hm
        go_wp2_with fail
        refine (leaf_s (S2.out.local_ _) (by omega) { kind := 21, at_ := s.cur.at_ }).mono ?_
        rintro e w3 ⟨rfl, hk, hS⟩
        have B0 : Blk w3 w2.heap.size 48 [.int .i64 s.cur.kind, .int .i64 s.cur.at_, .int .i64 s.cur.value, .string s.cur.name] := (Blk.new w2 48 [.int .i64 s.cur.kind, .int .i64 s.cur.at_, .int .i64 s.cur.value, .string s.cur.name]).kp hk (.inr (by simp))
        have x0_0 : w3.cell? ⟨w2.heap.size, 0, none⟩ = some (.int .i64 s.cur.kind) := B0.cell 0
        have x0_1 : w3.cell? ⟨w2.heap.size, 1, none⟩ = some (.int .i64 s.cur.at_) := B0.cell 1
        have x0_2 : w3.cell? ⟨w2.heap.size, 2, none⟩ = some (.int .i64 s.cur.value) := B0.cell 2
        have x0_3 : w3.cell? ⟨w2.heap.size, 3, none⟩ = some (.string s.cur.name) := B0.cell 3
        replace B0 := Lib.hid B0
        have S3 := Lib.hid hS
        clear hk hS
        go_wp2_with fail
        go_end0
        exact .ok (H.out.out (S3.out.le (by omega))) (by first | (simp only [PS.plain, PS.expect, PS.take, bind, Except.bind, pure, Except.pure, if_neg M1.out, if_neg M2.out, if_pos M3.out]; done) | (simp only [PS.plain, PS.expect, PS.take, bind, Except.bind, pure, Except.pure, if_neg M1.out, if_neg M2.out, if_pos M3.out]; rfl) | rfl)
      · have qM3 : (s.kind == 25) = false := by simpa using hm
        have M3 := Lib.hid hm
        clear hm
        by_cases hm : s.kind = 26
        · have qM4 : (s.kind == 26) = true := by simpa using hm
          have M4 := Lib.hid hm
          clear hm
          go_wp2_with fail
          refine (leaf_s (S2.out.local_ _) (by omega) { kind := 22, at_ := s.cur.at_ }).mono ?_
          rintro e w3 ⟨rfl, hk, hS⟩
          have B0 : Blk w3 w2.heap.size 48 [.int .i64 s.cur.kind, .int .i64 s.cur.at_, .int .i64 s.cur.value, .string s.cur.name] := (Blk.new w2 48 [.int .i64 s.cur.kind, .int .i64 s.cur.at_, .int .i64 s.cur.value, .string s.cur.name]).kp hk (.inr (by simp))
          have x0_0 : w3.cell? ⟨w2.heap.size, 0, none⟩ = some (.int .i64 s.cur.kind) := B0.cell 0
          have x0_1 : w3.cell? ⟨w2.heap.size, 1, none⟩ = some (.int .i64 s.cur.at_) := B0.cell 1
          have x0_2 : w3.cell? ⟨w2.heap.size, 2, none⟩ = some (.int .i64 s.cur.value) := B0.cell 2
          have x0_3 : w3.cell? ⟨w2.heap.size, 3, none⟩ = some (.string s.cur.name) := B0.cell 3
          replace B0 := Lib.hid B0
          have S3 := Lib.hid hS
          clear hk hS
          go_wp2_with fail
          go_end0
          exact .ok (H.out.out (S3.out.le (by omega))) (by first | (simp only [PS.plain, PS.expect, PS.take, bind, Except.bind, pure, Except.pure, if_neg M1.out, if_neg M2.out, if_neg M3.out, if_pos M4.out]; done) | (simp only [PS.plain, PS.expect, PS.take, bind, Except.bind, pure, Except.pure, if_neg M1.out, if_neg M2.out, if_neg M3.out, if_pos M4.out]; rfl) | rfl)
        · have qM4 : (s.kind == 26) = false := by simpa using hm
          have M4 := Lib.hid hm
          clear hm
          by_cases hm : s.kind = 27
          · have qM5 : (s.kind == 27) = true := by simpa using hm
            have M5 := Lib.hid hm
            clear hm
            go_wp2_with fail
            refine (leaf_s (S2.out.local_ _) (by omega) { kind := 23, at_ := s.cur.at_ }).mono ?_
            rintro e w3 ⟨rfl, hk, hS⟩
            have B0 : Blk w3 w2.heap.size 48 [.int .i64 s.cur.kind, .int .i64 s.cur.at_, .int .i64 s.cur.value, .string s.cur.name] := (Blk.new w2 48 [.int .i64 s.cur.kind, .int .i64 s.cur.at_, .int .i64 s.cur.value, .string s.cur.name]).kp hk (.inr (by simp))
            have x0_0 : w3.cell? ⟨w2.heap.size, 0, none⟩ = some (.int .i64 s.cur.kind) := B0.cell 0
            have x0_1 : w3.cell? ⟨w2.heap.size, 1, none⟩ = some (.int .i64 s.cur.at_) := B0.cell 1
            have x0_2 : w3.cell? ⟨w2.heap.size, 2, none⟩ = some (.int .i64 s.cur.value) := B0.cell 2
            have x0_3 : w3.cell? ⟨w2.heap.size, 3, none⟩ = some (.string s.cur.name) := B0.cell 3
            replace B0 := Lib.hid B0
            have S3 := Lib.hid hS
            clear hk hS
            go_wp2_with fail
            go_end0
            exact .ok (H.out.out (S3.out.le (by omega))) (by first | (simp only [PS.plain, PS.expect, PS.take, bind, Except.bind, pure, Except.pure, if_neg M1.out, if_neg M2.out, if_neg M3.out, if_neg M4.out, if_pos M5.out]; done) | (simp only [PS.plain, PS.expect, PS.take, bind, Except.bind, pure, Except.pure, if_neg M1.out, if_neg M2.out, if_neg M3.out, if_neg M4.out, if_pos M5.out]; rfl) | rfl)
          · have qM5 : (s.kind == 27) = false := by simpa using hm
            have M5 := Lib.hid hm
            clear hm
            by_cases hm : s.kind = 20
            · have qM6 : (s.kind == 20) = true := by simpa using hm
              have M6 := Lib.hid hm
              clear hm
              go_wp2_with fail
              refine (opened_s (S2.out.local_ _) (by omega) (40) (by decide) Hn.out).mono ?_
              rintro e w3 (⟨hm, rfl, hk⟩ | ⟨hm, rfl, hk, hS⟩)
              · exact ⟨rfl, .err (by first | (simp only [PS.plain, PS.opened, PS.expect, PS.take, bind, Except.bind, pure, Except.pure, if_neg M1.out, if_neg M2.out, if_neg M3.out, if_neg M4.out, if_neg M5.out, if_pos M6.out, if_neg hm]; done) | (simp only [PS.plain, PS.opened, PS.expect, PS.take, bind, Except.bind, pure, Except.pure, if_neg M1.out, if_neg M2.out, if_neg M3.out, if_neg M4.out, if_neg M5.out, if_pos M6.out, if_neg hm]; rfl) | rfl | exact absurd M1.out hm | exact absurd M2.out hm | exact absurd M3.out hm | exact absurd M4.out hm | exact absurd M5.out hm | exact absurd M6.out hm) (H.out.outk hk)⟩
              have M7 := Lib.hid hm
              clear hm
              have B0 : Blk w3 w2.heap.size 48 [.int .i64 s.cur.kind, .int .i64 s.cur.at_, .int .i64 s.cur.value, .string s.cur.name] := (Blk.new w2 48 [.int .i64 s.cur.kind, .int .i64 s.cur.at_, .int .i64 s.cur.value, .string s.cur.name]).kp hk (.inr (by simp))
              have x0_0 : w3.cell? ⟨w2.heap.size, 0, none⟩ = some (.int .i64 s.cur.kind) := B0.cell 0
              have x0_1 : w3.cell? ⟨w2.heap.size, 1, none⟩ = some (.int .i64 s.cur.at_) := B0.cell 1
              have x0_2 : w3.cell? ⟨w2.heap.size, 2, none⟩ = some (.int .i64 s.cur.value) := B0.cell 2
              have x0_3 : w3.cell? ⟨w2.heap.size, 3, none⟩ = some (.string s.cur.name) := B0.cell 3
              replace B0 := Lib.hid B0
              have S3 := Lib.hid hS
              clear hk hS
              go_wp2_with fail
              refine (closed_s S3.out (by omega)).mono ?_
              rintro e w4 (⟨hm, rfl, hk⟩ | ⟨hm, rfl, hk, hS⟩)
              · exact ⟨rfl, .err (by first | (simp only [PS.plain, PS.opened, PS.closed, PS.expect, PS.take, bind, Except.bind, pure, Except.pure, if_neg M1.out, if_neg M2.out, if_neg M3.out, if_neg M4.out, if_neg M5.out, if_pos M6.out, if_pos M7.out, if_neg hm]; done) | (simp only [PS.plain, PS.opened, PS.closed, PS.expect, PS.take, bind, Except.bind, pure, Except.pure, if_neg M1.out, if_neg M2.out, if_neg M3.out, if_neg M4.out, if_neg M5.out, if_pos M6.out, if_pos M7.out, if_neg hm]; rfl) | rfl | exact absurd M1.out hm | exact absurd M2.out hm | exact absurd M3.out hm | exact absurd M4.out hm | exact absurd M5.out hm | exact absurd M6.out hm | exact absurd M7.out hm) (H.out.outk hk)⟩
              have M8 := Lib.hid hm
              clear hm
              have B0 := B0.out.kp hk (.inr (by simp))
              clear x0_0 x0_1 x0_2 x0_3
              have x0_0 : w4.cell? ⟨w2.heap.size, 0, none⟩ = some (.int .i64 s.cur.kind) := B0.cell 0
              have x0_1 : w4.cell? ⟨w2.heap.size, 1, none⟩ = some (.int .i64 s.cur.at_) := B0.cell 1
              have x0_2 : w4.cell? ⟨w2.heap.size, 2, none⟩ = some (.int .i64 s.cur.value) := B0.cell 2
              have x0_3 : w4.cell? ⟨w2.heap.size, 3, none⟩ = some (.string s.cur.name) := B0.cell 3
              replace B0 := Lib.hid B0
              have S4 := Lib.hid hS
              clear hk hS
              go_wp2_with fail
              refine (leaf_s S4.out (by omega) { kind := 26, at_ := s.cur.at_ }).mono ?_
              rintro e w5 ⟨rfl, hk, hS⟩
              have B0 := B0.out.kp hk (.inr (by simp))
              clear x0_0 x0_1 x0_2 x0_3
              have x0_0 : w5.cell? ⟨w2.heap.size, 0, none⟩ = some (.int .i64 s.cur.kind) := B0.cell 0
              have x0_1 : w5.cell? ⟨w2.heap.size, 1, none⟩ = some (.int .i64 s.cur.at_) := B0.cell 1
              have x0_2 : w5.cell? ⟨w2.heap.size, 2, none⟩ = some (.int .i64 s.cur.value) := B0.cell 2
              have x0_3 : w5.cell? ⟨w2.heap.size, 3, none⟩ = some (.string s.cur.name) := B0.cell 3
              replace B0 := Lib.hid B0
              have S5 := Lib.hid hS
              clear hk hS
              go_wp2_with fail
              go_end0
              exact .ok (H.out.out (S5.out.le (by omega))) (by first | (simp only [PS.plain, PS.opened, PS.closed, PS.expect, PS.take, bind, Except.bind, pure, Except.pure, if_neg M1.out, if_neg M2.out, if_neg M3.out, if_neg M4.out, if_neg M5.out, if_pos M6.out, if_pos M7.out, if_pos M8.out]; done) | (simp only [PS.plain, PS.opened, PS.closed, PS.expect, PS.take, bind, Except.bind, pure, Except.pure, if_neg M1.out, if_neg M2.out, if_neg M3.out, if_neg M4.out, if_neg M5.out, if_pos M6.out, if_pos M7.out, if_pos M8.out]; rfl) | rfl)
            · have qM6 : (s.kind == 20) = false := by simpa using hm
              have M6 := Lib.hid hm
              clear hm
              by_cases hm : s.kind = 1
              · have qM7 : (s.kind == 1) = true := by simpa using hm
                have M7 := Lib.hid hm
                clear hm
                go_wp2_with fail
                refine (name_s (S2.out.local_ _) (by omega) s.cur Hn.out).mono ?_
                rintro e w3 (⟨f, hm, rfl, hk⟩ | ⟨s', hm, rfl, hk, hS⟩)
                · exact ⟨rfl, .err (by first | (simp only [PS.plain, PS.expect, PS.take, bind, Except.bind, pure, Except.pure, if_neg M1.out, if_neg M2.out, if_neg M3.out, if_neg M4.out, if_neg M5.out, if_neg M6.out, if_pos M7.out, hm]; done) | (simp only [PS.plain, PS.expect, PS.take, bind, Except.bind, pure, Except.pure, if_neg M1.out, if_neg M2.out, if_neg M3.out, if_neg M4.out, if_neg M5.out, if_neg M6.out, if_pos M7.out, hm]; rfl) | rfl | exact absurd M1.out hm | exact absurd M2.out hm | exact absurd M3.out hm | exact absurd M4.out hm | exact absurd M5.out hm | exact absurd M6.out hm | exact absurd M7.out hm) (H.out.outk hk)⟩
                have MC := Lib.hid hm
                clear hm
                have B0 : Blk w3 w2.heap.size 48 [.int .i64 s.cur.kind, .int .i64 s.cur.at_, .int .i64 s.cur.value, .string s.cur.name] := (Blk.new w2 48 [.int .i64 s.cur.kind, .int .i64 s.cur.at_, .int .i64 s.cur.value, .string s.cur.name]).kp hk (.inr (by simp))
                have x0_0 : w3.cell? ⟨w2.heap.size, 0, none⟩ = some (.int .i64 s.cur.kind) := B0.cell 0
                have x0_1 : w3.cell? ⟨w2.heap.size, 1, none⟩ = some (.int .i64 s.cur.at_) := B0.cell 1
                have x0_2 : w3.cell? ⟨w2.heap.size, 2, none⟩ = some (.int .i64 s.cur.value) := B0.cell 2
                have x0_3 : w3.cell? ⟨w2.heap.size, 3, none⟩ = some (.string s.cur.name) := B0.cell 3
                replace B0 := Lib.hid B0
                have S3 := Lib.hid hS
                clear hk hS
                go_wp2_with fail
                go_end0
                exact .ok (H.out.out (S3.out.le (by omega))) (by first | (simp only [PS.plain, PS.expect, PS.take, bind, Except.bind, pure, Except.pure, if_neg M1.out, if_neg M2.out, if_neg M3.out, if_neg M4.out, if_neg M5.out, if_neg M6.out, if_pos M7.out, MC.out]; done) | (simp only [PS.plain, PS.expect, PS.take, bind, Except.bind, pure, Except.pure, if_neg M1.out, if_neg M2.out, if_neg M3.out, if_neg M4.out, if_neg M5.out, if_neg M6.out, if_pos M7.out, MC.out]; rfl) | rfl)
              · have qM7 : (s.kind == 1) = false := by simpa using hm
                have M7 := Lib.hid hm
                clear hm
                by_cases hm : s.kind = 21
                · have qM8 : (s.kind == 21) = true := by simpa using hm
                  have M8 := Lib.hid hm
                  clear hm
                  go_wp2_with fail
                  refine (begin_s (S2.out.local_ _) (by omega) { kind := 27, at_ := s.cur.at_ } 0 (Nat.zero_le _)).mono ?_
                  rintro e w3 ⟨rfl, hk, hS⟩
                  have B0 : Blk w3 w2.heap.size 48 [.int .i64 s.cur.kind, .int .i64 s.cur.at_, .int .i64 s.cur.value, .string s.cur.name] := (Blk.new w2 48 [.int .i64 s.cur.kind, .int .i64 s.cur.at_, .int .i64 s.cur.value, .string s.cur.name]).kp hk (.inr (by simp))
                  have x0_0 : w3.cell? ⟨w2.heap.size, 0, none⟩ = some (.int .i64 s.cur.kind) := B0.cell 0
                  have x0_1 : w3.cell? ⟨w2.heap.size, 1, none⟩ = some (.int .i64 s.cur.at_) := B0.cell 1
                  have x0_2 : w3.cell? ⟨w2.heap.size, 2, none⟩ = some (.int .i64 s.cur.value) := B0.cell 2
                  have x0_3 : w3.cell? ⟨w2.heap.size, 3, none⟩ = some (.string s.cur.name) := B0.cell 3
                  replace B0 := Lib.hid B0
                  have S3 := Lib.hid hS
                  clear hk hS
                  go_wp2_with fail
                  refine (opened_s S3.out (by omega) (40) (by decide) Hn.out).mono ?_
                  rintro e w4 (⟨hm, rfl, hk⟩ | ⟨hm, rfl, hk, hS⟩)
                  · exact ⟨rfl, .err (by first | (simp only [PS.plain, PS.opened, PS.expect, PS.take, bind, Except.bind, pure, Except.pure, if_neg M1.out, if_neg M2.out, if_neg M3.out, if_neg M4.out, if_neg M5.out, if_neg M6.out, if_neg M7.out, if_pos M8.out, if_neg hm]; done) | (simp only [PS.plain, PS.opened, PS.expect, PS.take, bind, Except.bind, pure, Except.pure, if_neg M1.out, if_neg M2.out, if_neg M3.out, if_neg M4.out, if_neg M5.out, if_neg M6.out, if_neg M7.out, if_pos M8.out, if_neg hm]; rfl) | rfl | exact absurd M1.out hm | exact absurd M2.out hm | exact absurd M3.out hm | exact absurd M4.out hm | exact absurd M5.out hm | exact absurd M6.out hm | exact absurd M7.out hm | exact absurd M8.out hm) (H.out.outk hk)⟩
                  have M9 := Lib.hid hm
                  clear hm
                  have B0 := B0.out.kp hk (.inr (by simp))
                  clear x0_0 x0_1 x0_2 x0_3
                  have x0_0 : w4.cell? ⟨w2.heap.size, 0, none⟩ = some (.int .i64 s.cur.kind) := B0.cell 0
                  have x0_1 : w4.cell? ⟨w2.heap.size, 1, none⟩ = some (.int .i64 s.cur.at_) := B0.cell 1
                  have x0_2 : w4.cell? ⟨w2.heap.size, 2, none⟩ = some (.int .i64 s.cur.value) := B0.cell 2
                  have x0_3 : w4.cell? ⟨w2.heap.size, 3, none⟩ = some (.string s.cur.name) := B0.cell 3
                  replace B0 := Lib.hid B0
                  have S4 := Lib.hid hS
                  clear hk hS
                  go_wp2_with fail
                  refine (do_s S4.out (by omega) [.expression, .closed, .done] 3 rfl (by decide) _ (by simp) _ rfl).mono ?_
                  rintro e w5 ⟨rfl, hk, hS⟩
                  clear x0_0 x0_1 x0_2 x0_3 B0
                  have S5 := Lib.hid hS
                  clear hk hS
                  go_wp2_with fail
                  go_end0
                  exact .ok (H.out.out (S5.out.le (by omega))) (by first | (simp only [PS.plain, PS.opened, PS.expect, PS.take, bind, Except.bind, pure, Except.pure, if_neg M1.out, if_neg M2.out, if_neg M3.out, if_neg M4.out, if_neg M5.out, if_neg M6.out, if_neg M7.out, if_pos M8.out, if_pos M9.out]; done) | (simp only [PS.plain, PS.opened, PS.expect, PS.take, bind, Except.bind, pure, Except.pure, if_neg M1.out, if_neg M2.out, if_neg M3.out, if_neg M4.out, if_neg M5.out, if_neg M6.out, if_neg M7.out, if_pos M8.out, if_pos M9.out]; rfl) | rfl)
                · have qM8 : (s.kind == 21) = false := by simpa using hm
                  have M8 := Lib.hid hm
                  clear hm
                  by_cases hm : s.kind = 22
                  · have qM9 : (s.kind == 22) = true := by simpa using hm
                    have M9 := Lib.hid hm
                    clear hm
                    go_wp2_with fail
                    refine (made_s (S2.out.local_ _) (by omega) s.cur Hn.out).mono ?_
                    rintro e w3 (⟨f, hm, rfl, hk⟩ | ⟨s', hm, rfl, hk, hS⟩)
                    · exact ⟨rfl, .err (by first | (simp only [PS.plain, PS.expect, PS.take, bind, Except.bind, pure, Except.pure, if_neg M1.out, if_neg M2.out, if_neg M3.out, if_neg M4.out, if_neg M5.out, if_neg M6.out, if_neg M7.out, if_neg M8.out, if_pos M9.out, hm]; done) | (simp only [PS.plain, PS.expect, PS.take, bind, Except.bind, pure, Except.pure, if_neg M1.out, if_neg M2.out, if_neg M3.out, if_neg M4.out, if_neg M5.out, if_neg M6.out, if_neg M7.out, if_neg M8.out, if_pos M9.out, hm]; rfl) | rfl | exact absurd M1.out hm | exact absurd M2.out hm | exact absurd M3.out hm | exact absurd M4.out hm | exact absurd M5.out hm | exact absurd M6.out hm | exact absurd M7.out hm | exact absurd M8.out hm | exact absurd M9.out hm) (H.out.outk hk)⟩
                    have MC := Lib.hid hm
                    clear hm
                    have B0 : Blk w3 w2.heap.size 48 [.int .i64 s.cur.kind, .int .i64 s.cur.at_, .int .i64 s.cur.value, .string s.cur.name] := (Blk.new w2 48 [.int .i64 s.cur.kind, .int .i64 s.cur.at_, .int .i64 s.cur.value, .string s.cur.name]).kp hk (.inr (by simp))
                    have x0_0 : w3.cell? ⟨w2.heap.size, 0, none⟩ = some (.int .i64 s.cur.kind) := B0.cell 0
                    have x0_1 : w3.cell? ⟨w2.heap.size, 1, none⟩ = some (.int .i64 s.cur.at_) := B0.cell 1
                    have x0_2 : w3.cell? ⟨w2.heap.size, 2, none⟩ = some (.int .i64 s.cur.value) := B0.cell 2
                    have x0_3 : w3.cell? ⟨w2.heap.size, 3, none⟩ = some (.string s.cur.name) := B0.cell 3
                    replace B0 := Lib.hid B0
                    have S3 := Lib.hid hS
                    clear hk hS
                    go_wp2_with fail
                    go_end0
                    exact .ok (H.out.out (S3.out.le (by omega))) (by first | (simp only [PS.plain, PS.expect, PS.take, bind, Except.bind, pure, Except.pure, if_neg M1.out, if_neg M2.out, if_neg M3.out, if_neg M4.out, if_neg M5.out, if_neg M6.out, if_neg M7.out, if_neg M8.out, if_pos M9.out, MC.out]; done) | (simp only [PS.plain, PS.expect, PS.take, bind, Except.bind, pure, Except.pure, if_neg M1.out, if_neg M2.out, if_neg M3.out, if_neg M4.out, if_neg M5.out, if_neg M6.out, if_neg M7.out, if_neg M8.out, if_pos M9.out, MC.out]; rfl) | rfl)
                  · have qM9 : (s.kind == 22) = false := by simpa using hm
                    have M9 := Lib.hid hm
                    clear hm
                    by_cases hm : s.kind = 40
                    · have qM10 : (s.kind == 40) = true := by simpa using hm
                      have M10 := Lib.hid hm
                      clear hm
                      go_wp2_with fail
                      refine (enter_s (S2.out.local_ _) (by omega) Hn.out).mono ?_
                      rintro e w3 ⟨rfl, hk, hS⟩
                      have B0 : Blk w3 w2.heap.size 48 [.int .i64 s.cur.kind, .int .i64 s.cur.at_, .int .i64 s.cur.value, .string s.cur.name] := (Blk.new w2 48 [.int .i64 s.cur.kind, .int .i64 s.cur.at_, .int .i64 s.cur.value, .string s.cur.name]).kp hk (.inr (by simp))
                      have x0_0 : w3.cell? ⟨w2.heap.size, 0, none⟩ = some (.int .i64 s.cur.kind) := B0.cell 0
                      have x0_1 : w3.cell? ⟨w2.heap.size, 1, none⟩ = some (.int .i64 s.cur.at_) := B0.cell 1
                      have x0_2 : w3.cell? ⟨w2.heap.size, 2, none⟩ = some (.int .i64 s.cur.value) := B0.cell 2
                      have x0_3 : w3.cell? ⟨w2.heap.size, 3, none⟩ = some (.string s.cur.name) := B0.cell 3
                      replace B0 := Lib.hid B0
                      have S3 := Lib.hid hS
                      clear hk hS
                      go_wp2_with fail
                      refine (do_s S3.out (by omega) [.expression, .closed] 2 rfl (by decide) _ (by simp) _ rfl).mono ?_
                      rintro e w4 ⟨rfl, hk, hS⟩
                      clear x0_0 x0_1 x0_2 x0_3 B0
                      have S4 := Lib.hid hS
                      clear hk hS
                      go_wp2_with fail
                      go_end0
                      exact .ok (H.out.out (S4.out.le (by omega))) (by first | (simp only [PS.plain, PS.expect, PS.take, bind, Except.bind, pure, Except.pure, if_neg M1.out, if_neg M2.out, if_neg M3.out, if_neg M4.out, if_neg M5.out, if_neg M6.out, if_neg M7.out, if_neg M8.out, if_neg M9.out, if_pos M10.out]; done) | (simp only [PS.plain, PS.expect, PS.take, bind, Except.bind, pure, Except.pure, if_neg M1.out, if_neg M2.out, if_neg M3.out, if_neg M4.out, if_neg M5.out, if_neg M6.out, if_neg M7.out, if_neg M8.out, if_neg M9.out, if_pos M10.out]; rfl) | rfl)
                    · have qM10 : (s.kind == 40) = false := by simpa using hm
                      have M10 := Lib.hid hm
                      clear hm
                      have hlt := kind_lt M1.out
                      obtain ⟨ta, tc, td, nd, fu, lo, be, ne, c0, c1, c2, c3, c4, c5, c6, c7, c8, c9⟩ := S2.out.cells
                      obtain ⟨p1, p2⟩ := S2.out.apart
                      have p3 := S2.out.p.lt
                      have z2 := S2.out.fz 2
                      have n0 : (s.skip.at_ : Int) = (s.at_ : Int) + 1 := rfl
                      rw [n0] at c2
                      have n1 := S0.out.ntok
                      have n2 : (s.at_ : Int) ≤ 1000000000 := by omega
                      have n3 : (0 : Int) ≤ (s.at_ : Int) := by omega
                      clear n0 n1
                      go_wp2_with fail
                      refine (fail_s (S2.out.unskip.local_ _)).mono ?_
                      rintro e w3 ⟨rfl, hk⟩
                      exact ⟨rfl, .err (by first | (simp only [PS.plain, PS.expect, PS.take, bind, Except.bind, pure, Except.pure, if_neg M1.out, if_neg M2.out, if_neg M3.out, if_neg M4.out, if_neg M5.out, if_neg M6.out, if_neg M7.out, if_neg M8.out, if_neg M9.out, if_neg M10.out]; done) | (simp only [PS.plain, PS.expect, PS.take, bind, Except.bind, pure, Except.pure, if_neg M1.out, if_neg M2.out, if_neg M3.out, if_neg M4.out, if_neg M5.out, if_neg M6.out, if_neg M7.out, if_neg M8.out, if_neg M9.out, if_neg M10.out]; rfl) | rfl) (H.out.outk hk)⟩
end
end Go.Proofs.Ythodjlhjfaccpaa
