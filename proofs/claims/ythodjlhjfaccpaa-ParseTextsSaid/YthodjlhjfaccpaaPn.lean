/- The walks of the parser's rules: printed by a program of mine (wip/tools/rules.py). -/
import Derived.Test.YthodjlhjfaccpaaPl
set_option linter.unusedVariables false
set_option linter.unusedSimpArgs false
namespace Go.Proofs.Ythodjlhjfaccpaa
open Go Go.RowKit Mem Pm

section
variable {bd : Nat} {L Li : List Nat} {gp b b' : Nat} {s s' : PS} {w0 w w' : World}

set_option maxRecDepth 100000 in
set_option maxHeartbeats 4000000 in
theorem program_s (h : St bd L gp w0 Li b s w) (hb : b ≤ 999990000)  : Calls Try.prog 21 #[.pointer (some ⟨gp, 0, none⟩)] w (PostM bd L gp w0 Li (b + 60) w (.ok s.program)) := by
  have S0 := Lib.hid (St.start h.p h.li h.sz)
  have H := Lib.hid h
  clear h 
  go_enter Try.func21, Try.ntmps21
  by_cases hlt : s.at_ < s.toks.length
  · have q : (s.at_ : Int) < (s.toks.length : Int) := by omega
    have M1 := Lib.hid hlt
    clear hlt
    obtain ⟨ta, tc, td, nd, fu, lo, be, ne, c0, c1, c2, c3, c4, c5, c6, c7, c8, c9⟩ := S0.out.cells
    go_wp2_with fail
    refine Reg.wp_region_text (by kernel_rfl) (by kernel_rfl) ?_
    go_wp2_with fail
    refine ⟨by kernel_rfl, ?_⟩
    go_wp2_with fail
    refine (do_s S0.out.drew (by omega) [.function, .program] 2 rfl (by decide) _ (by simp) _ rfl).mono ?_
    rintro e w1 ⟨rfl, hk, hS⟩
    have S1 := Lib.hid hS
    clear hk hS
    go_wp2_with fail
    go_end0
    exact .ok (H.out.out (S1.out.le (by omega))) (by first | (simp only [PS.program, PS.expect, PS.take, bind, Except.bind, pure, Except.pure, if_pos M1.out]; done) | (simp only [PS.program, PS.expect, PS.take, bind, Except.bind, pure, Except.pure, if_pos M1.out]; rfl) | rfl)
  · have q : (s.toks.length : Int) ≤ (s.at_ : Int) := by omega
    have M1 := Lib.hid hlt
    clear hlt
    obtain ⟨ta, tc, td, nd, fu, lo, be, ne, c0, c1, c2, c3, c4, c5, c6, c7, c8, c9⟩ := S0.out.cells
    go_wp2_with fail
    refine Reg.wp_region_text (by kernel_rfl) (by kernel_rfl) ?_
    go_wp2_with fail
    refine ⟨by kernel_rfl, ?_⟩
    go_wp2_with fail
    go_end0
    exact .ok (H.out.out (S0.out.drew.le (by omega))) (by first | (simp only [PS.program, PS.expect, PS.take, bind, Except.bind, pure, Except.pure, if_neg M1.out]; done) | (simp only [PS.program, PS.expect, PS.take, bind, Except.bind, pure, Except.pure, if_neg M1.out]; rfl) | rfl)

set_option maxRecDepth 100000 in
set_option maxHeartbeats 4000000 in
theorem signed_s (h : St bd L gp w0 Li b s w) (hb : b ≤ 999990000) (hn : s.nest ≠ []) : Calls Try.prog 90 #[.pointer (some ⟨gp, 0, none⟩)] w (PostM bd L gp w0 Li (b + 60) w (.ok s.signed)) := by
  have S0 := Lib.hid (St.start h.p h.li h.sz)
  have H := Lib.hid h
  have Hhn := Lib.hid hn
  clear h hn
  go_enter Try.func90, Try.ntmps90
  have Hn := Hhn
  go_wp2_with fail
  refine (kind_s S0.out).mono ?_
  rintro e w1 ⟨rfl, hk, hS⟩
  have S1 := Lib.hid hS
  clear hk hS
  by_cases hm : s.kind = 56
  · have qM1 : (s.kind == 56) = true := by simpa using hm
    have M1 := Lib.hid hm
    clear hm
    have hlt : s.at_ < s.toks.length := kind_lt (s := s) (by rw [M1.out]; decide)
    obtain ⟨bt, off, tc, td, nd, fu, lo, be, ne, c0, c1, c2, c3, c4, c5, c6, c7, c8, c9, a0, a1, t0, t1, t2, t3⟩ := S1.out.cellsT hlt
    obtain ⟨n0, n1, n2, n3, n4⟩ := S1.out.nums hlt
    have z2 := S1.out.fz 2
    go_wp2_with fail
    refine Reg.wp_region_text (by kernel_rfl) (by kernel_rfl) ?_
    go_wp2_with fail
    refine (begin_s S1.out.drew (by omega) { kind := 30, at_ := s.cur.at_, op := 20 } 0 (Nat.zero_le _)).mono ?_
    rintro e w2 ⟨rfl, hk, hS⟩
    clear c0 c1 c2 c3 c4 c5 c6 c7 c8 c9 a0 a1 t0 t1 t2 t3 n0 n1 n2 n3 n4
    have S2 := Lib.hid hS
    clear hk hS
    go_wp2_with fail
    refine ⟨by kernel_rfl, ?_⟩
    have hlt0 := hlt
    clear hlt z2
    have hlt : (s.begin_ { kind := 30, at_ := s.cur.at_, op := 20 } 0).at_ < (s.begin_ { kind := 30, at_ := s.cur.at_, op := 20 } 0).toks.length := hlt0
    obtain ⟨bt, off, tc, td, nd, fu, lo, be, ne, c0, c1, c2, c3, c4, c5, c6, c7, c8, c9, a0, a1, t0, t1, t2, t3⟩ := S2.out.cellsT hlt
    obtain ⟨n0, n1, n2, n3, n4⟩ := S2.out.nums hlt
    have z2 := S2.out.fz 2
    go_wp2_with fail
    refine (enter_s (S2.out.skip hlt) (by omega) Hn.out).mono ?_
    rintro e w3 ⟨rfl, hk, hS⟩
    clear c0 c1 c2 c3 c4 c5 c6 c7 c8 c9 a0 a1 t0 t1 t2 t3 n0 n1 n2 n3 n4 z2
    have S3 := Lib.hid hS
    clear hk hS
    go_wp2_with fail
    refine (do_s S3.out (by omega) [.signed, .leave, .done] 3 rfl (by decide) _ (by simp) _ rfl).mono ?_
    rintro e w4 ⟨rfl, hk, hS⟩
    have S4 := Lib.hid hS
    clear hk hS
    go_wp2_with fail
    go_end0
    exact .ok (H.out.out (S4.out.le (by omega))) (by first | (simp only [PS.signed, PS.expect, PS.take, bind, Except.bind, pure, Except.pure, if_pos M1.out]; done) | (simp only [PS.signed, PS.expect, PS.take, bind, Except.bind, pure, Except.pure, if_pos M1.out]; rfl) | rfl)
  · have qM1 : (s.kind == 56) = false := by simpa using hm
    have M1 := Lib.hid hm
    clear hm
    by_cases hm : s.kind = 68
    · have qM2 : (s.kind == 68) = true := by simpa using hm
      have M2 := Lib.hid hm
      clear hm
      have hlt : s.at_ < s.toks.length := kind_lt (s := s) (by rw [M2.out]; decide)
      obtain ⟨bt, off, tc, td, nd, fu, lo, be, ne, c0, c1, c2, c3, c4, c5, c6, c7, c8, c9, a0, a1, t0, t1, t2, t3⟩ := S1.out.cellsT hlt
      obtain ⟨n0, n1, n2, n3, n4⟩ := S1.out.nums hlt
      have z2 := S1.out.fz 2
      go_wp2_with fail
      refine Reg.wp_region_text (by kernel_rfl) (by kernel_rfl) ?_
      go_wp2_with fail
      refine (begin_s S1.out.drew (by omega) { kind := 30, at_ := s.cur.at_, op := 21 } 0 (Nat.zero_le _)).mono ?_
      rintro e w2 ⟨rfl, hk, hS⟩
      clear c0 c1 c2 c3 c4 c5 c6 c7 c8 c9 a0 a1 t0 t1 t2 t3 n0 n1 n2 n3 n4
      have S2 := Lib.hid hS
      clear hk hS
      go_wp2_with fail
      refine ⟨by kernel_rfl, ?_⟩
      have hlt0 := hlt
      clear hlt z2
      have hlt : (s.begin_ { kind := 30, at_ := s.cur.at_, op := 21 } 0).at_ < (s.begin_ { kind := 30, at_ := s.cur.at_, op := 21 } 0).toks.length := hlt0
      obtain ⟨bt, off, tc, td, nd, fu, lo, be, ne, c0, c1, c2, c3, c4, c5, c6, c7, c8, c9, a0, a1, t0, t1, t2, t3⟩ := S2.out.cellsT hlt
      obtain ⟨n0, n1, n2, n3, n4⟩ := S2.out.nums hlt
      have z2 := S2.out.fz 2
      go_wp2_with fail
      refine (enter_s (S2.out.skip hlt) (by omega) Hn.out).mono ?_
      rintro e w3 ⟨rfl, hk, hS⟩
      clear c0 c1 c2 c3 c4 c5 c6 c7 c8 c9 a0 a1 t0 t1 t2 t3 n0 n1 n2 n3 n4 z2
      have S3 := Lib.hid hS
      clear hk hS
      go_wp2_with fail
      refine (do_s S3.out (by omega) [.signed, .leave, .done] 3 rfl (by decide) _ (by simp) _ rfl).mono ?_
      rintro e w4 ⟨rfl, hk, hS⟩
      have S4 := Lib.hid hS
      clear hk hS
      go_wp2_with fail
      go_end0
      exact .ok (H.out.out (S4.out.le (by omega))) (by first | (simp only [PS.signed, PS.expect, PS.take, bind, Except.bind, pure, Except.pure, if_neg M1.out, if_pos M2.out]; done) | (simp only [PS.signed, PS.expect, PS.take, bind, Except.bind, pure, Except.pure, if_neg M1.out, if_pos M2.out]; rfl) | rfl)
    · have qM2 : (s.kind == 68) = false := by simpa using hm
      have M2 := Lib.hid hm
      clear hm
      by_cases hm : s.kind = 62
      · have qM3 : (s.kind == 62) = true := by simpa using hm
        have M3 := Lib.hid hm
        clear hm
        have hlt : s.at_ < s.toks.length := kind_lt (s := s) (by rw [M3.out]; decide)
        obtain ⟨bt, off, tc, td, nd, fu, lo, be, ne, c0, c1, c2, c3, c4, c5, c6, c7, c8, c9, a0, a1, t0, t1, t2, t3⟩ := S1.out.cellsT hlt
        obtain ⟨n0, n1, n2, n3, n4⟩ := S1.out.nums hlt
        have z2 := S1.out.fz 2
        go_wp2_with fail
        refine Reg.wp_region_text (by kernel_rfl) (by kernel_rfl) ?_
        go_wp2_with fail
        refine (begin_s S1.out.drew (by omega) { kind := 30, at_ := s.cur.at_, op := 22 } 0 (Nat.zero_le _)).mono ?_
        rintro e w2 ⟨rfl, hk, hS⟩
        clear c0 c1 c2 c3 c4 c5 c6 c7 c8 c9 a0 a1 t0 t1 t2 t3 n0 n1 n2 n3 n4
        have S2 := Lib.hid hS
        clear hk hS
        go_wp2_with fail
        refine ⟨by kernel_rfl, ?_⟩
        have hlt0 := hlt
        clear hlt z2
        have hlt : (s.begin_ { kind := 30, at_ := s.cur.at_, op := 22 } 0).at_ < (s.begin_ { kind := 30, at_ := s.cur.at_, op := 22 } 0).toks.length := hlt0
        obtain ⟨bt, off, tc, td, nd, fu, lo, be, ne, c0, c1, c2, c3, c4, c5, c6, c7, c8, c9, a0, a1, t0, t1, t2, t3⟩ := S2.out.cellsT hlt
        obtain ⟨n0, n1, n2, n3, n4⟩ := S2.out.nums hlt
        have z2 := S2.out.fz 2
        go_wp2_with fail
        refine (enter_s (S2.out.skip hlt) (by omega) Hn.out).mono ?_
        rintro e w3 ⟨rfl, hk, hS⟩
        clear c0 c1 c2 c3 c4 c5 c6 c7 c8 c9 a0 a1 t0 t1 t2 t3 n0 n1 n2 n3 n4 z2
        have S3 := Lib.hid hS
        clear hk hS
        go_wp2_with fail
        refine (do_s S3.out (by omega) [.signed, .leave, .done] 3 rfl (by decide) _ (by simp) _ rfl).mono ?_
        rintro e w4 ⟨rfl, hk, hS⟩
        have S4 := Lib.hid hS
        clear hk hS
        go_wp2_with fail
        go_end0
        exact .ok (H.out.out (S4.out.le (by omega))) (by first | (simp only [PS.signed, PS.expect, PS.take, bind, Except.bind, pure, Except.pure, if_neg M1.out, if_neg M2.out, if_pos M3.out]; done) | (simp only [PS.signed, PS.expect, PS.take, bind, Except.bind, pure, Except.pure, if_neg M1.out, if_neg M2.out, if_pos M3.out]; rfl) | rfl)
      · have qM3 : (s.kind == 62) = false := by simpa using hm
        have M3 := Lib.hid hm
        clear hm
        go_wp2_with fail
        refine (do_s S1.out (by omega) [.plain, .index] 2 rfl (by decide) _ (by simp) _ rfl).mono ?_
        rintro e w2 ⟨rfl, hk, hS⟩
        have S2 := Lib.hid hS
        clear hk hS
        go_wp2_with fail
        go_end0
        exact .ok (H.out.out (S2.out.le (by omega))) (by first | (simp only [PS.signed, PS.expect, PS.take, bind, Except.bind, pure, Except.pure, if_neg M1.out, if_neg M2.out, if_neg M3.out]; done) | (simp only [PS.signed, PS.expect, PS.take, bind, Except.bind, pure, Except.pure, if_neg M1.out, if_neg M2.out, if_neg M3.out]; rfl) | rfl)

set_option maxRecDepth 100000 in
set_option maxHeartbeats 4000000 in
theorem index_s (h : St bd L gp w0 Li b s w) (hb : b ≤ 999990000) (hn : s.nest ≠ []) (hl : s.kind = 44 → HasLeft s) : Calls Try.prog 93 #[.pointer (some ⟨gp, 0, none⟩)] w (PostM bd L gp w0 Li (b + 60) w (s.index)) := by
  have S0 := Lib.hid (St.start h.p h.li h.sz)
  have H := Lib.hid h
  have Hhn := Lib.hid hn
  have Hhl := Lib.hid hl
  clear h hn hl
  go_enter Try.func93, Try.ntmps93
  have Hn := Hhn
  go_wp2_with fail
  refine (is_s S0.out (44)).mono ?_
  rintro e w1 ⟨rfl, hk, hS⟩
  have S1 := Lib.hid hS
  clear hk hS
  by_cases hm : s.kind = 44
  · have qM1 : (s.kind == 44) = true := by simpa using hm
    have M1 := Lib.hid hm
    clear hm
    go_wp2_with fail
    refine (left_s S1.out (by omega) (Hhl.out M1.out)).mono ?_
    rintro e w2 ⟨rfl, hk, hS⟩
    have S2 := Lib.hid hS
    clear hk hS
    go_wp2_with fail
    refine (begin_s S2.out (by omega) { kind := 29, at_ := s.leftAt } 1 (by have := Hhl.out M1.out; obtain ⟨j, h1, h2⟩ := this; have := (List.getElem?_eq_some_iff.1 h1).1; omega)).mono ?_
    rintro e w3 ⟨rfl, hk, hS⟩
    have S3 := Lib.hid hS
    clear hk hS
    go_wp2_with fail
    refine (opened_s S3.out (by omega) (44) (by decide) Hn.out).mono ?_
    rintro e w4 (⟨hm, rfl, hk⟩ | ⟨hm, rfl, hk, hS⟩)
    · exact ⟨rfl, .err (by first | (simp only [PS.index, PS.opened, PS.expect, PS.take, bind, Except.bind, pure, Except.pure, if_pos M1.out, if_neg hm]; done) | (simp only [PS.index, PS.opened, PS.expect, PS.take, bind, Except.bind, pure, Except.pure, if_pos M1.out, if_neg hm]; rfl) | rfl | exact absurd M1.out hm) (H.out.outk hk)⟩
    have M2 := Lib.hid hm
    clear hm
    have S4 := Lib.hid hS
    clear hk hS
    go_wp2_with fail
    refine (do_s S4.out (by omega) [.expression, .shut, .done, .index] 4 rfl (by decide) _ (by simp) _ rfl).mono ?_
    rintro e w5 ⟨rfl, hk, hS⟩
    have S5 := Lib.hid hS
    clear hk hS
    go_wp2_with fail
    go_end0
    exact .ok (H.out.out (S5.out.le (by omega))) (by first | (simp only [PS.index, PS.opened, PS.expect, PS.take, bind, Except.bind, pure, Except.pure, if_pos M1.out, if_pos M2.out]; done) | (simp only [PS.index, PS.opened, PS.expect, PS.take, bind, Except.bind, pure, Except.pure, if_pos M1.out, if_pos M2.out]; rfl) | rfl)
  · have qM1 : (s.kind == 44) = false := by simpa using hm
    have M1 := Lib.hid hm
    clear hm
    go_wp2_with fail
    go_end0
    exact .ok (H.out.out (S1.out.le (by omega))) (by first | (simp only [PS.index, PS.expect, PS.take, bind, Except.bind, pure, Except.pure, if_neg M1.out]; done) | (simp only [PS.index, PS.expect, PS.take, bind, Except.bind, pure, Except.pure, if_neg M1.out]; rfl) | rfl)
end
end Go.Proofs.Ythodjlhjfaccpaa
