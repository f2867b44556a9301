/- The walks of the parser's rules: printed by a program of mine (wip/tools/rules.py). -/
import Derived.Test.YthodjlhjfaccpaaPh
set_option linter.unusedVariables false
set_option linter.unusedSimpArgs false
namespace Go.Proofs.Ythodjlhjfaccpaa
open Go Go.RowKit Mem Pm

section
variable {bd : Nat} {L Li : List Nat} {gp b b' : Nat} {s s' : PS} {w0 w w' : World}

set_option maxRecDepth 100000 in
set_option maxHeartbeats 4000000 in
theorem typed_s (h : St bd L gp w0 Li b s w) (hb : b ≤ 999998000)  : Calls Try.prog 45 #[.pointer (some ⟨gp, 0, none⟩)] w (PostY bd L gp w0 Li b w s) := by
  have S0 := Lib.hid (St.start h.p h.li h.sz)
  have H := Lib.hid h
  clear h 
  go_enter Try.func45, Try.ntmps45
  go_wp2_with fail
  refine (kind_s S0.out).mono ?_
  rintro e w1 ⟨rfl, hk, hS⟩
  have S1 := Lib.hid hS
  clear hk hS
  by_cases hm : s.kind = 23
  · have qM1 : (s.kind == 23) = true := by simpa using hm
    have M1 := Lib.hid hm
    clear hm
    have hlt := kind_lt (s := s) (by rw [M1.out]; decide)
    obtain ⟨bt, off, tc, td, nd, fu, lo, be, ne, c0, c1, c2, c3, c4, c5, c6, c7, c8, c9, a0, a1, t0, t1, t2, t3⟩ := S1.out.cellsT hlt
    obtain ⟨n0, n1, n2, n3, n4⟩ := S1.out.nums hlt
    have z2 := S1.out.fz 2
    go_wp2_with fail
    go_ret
    exact .inr ⟨1, s.at_ + 1, (by first | (simp only [PS.typed, PS.expect, PS.take, bind, Except.bind, pure, Except.pure, if_pos M1.out]; done) | (simp only [PS.typed, PS.expect, PS.take, bind, Except.bind, pure, Except.pure, if_pos M1.out]; rfl) | rfl), H.out.outv (S1.out.skip hlt) _⟩
  · have qM1 : (s.kind == 23) = false := by simpa using hm
    have M1 := Lib.hid hm
    clear hm
    by_cases hm : s.kind = 24
    · have qM2 : (s.kind == 24) = true := by simpa using hm
      have M2 := Lib.hid hm
      clear hm
      have hlt := kind_lt (s := s) (by rw [M2.out]; decide)
      obtain ⟨bt, off, tc, td, nd, fu, lo, be, ne, c0, c1, c2, c3, c4, c5, c6, c7, c8, c9, a0, a1, t0, t1, t2, t3⟩ := S1.out.cellsT hlt
      obtain ⟨n0, n1, n2, n3, n4⟩ := S1.out.nums hlt
      have z2 := S1.out.fz 2
      go_wp2_with fail
      go_ret
      exact .inr ⟨2, s.at_ + 1, (by first | (simp only [PS.typed, PS.expect, PS.take, bind, Except.bind, pure, Except.pure, if_neg M1.out, if_pos M2.out]; done) | (simp only [PS.typed, PS.expect, PS.take, bind, Except.bind, pure, Except.pure, if_neg M1.out, if_pos M2.out]; rfl) | rfl), H.out.outv (S1.out.skip hlt) _⟩
    · have qM2 : (s.kind == 24) = false := by simpa using hm
      have M2 := Lib.hid hm
      clear hm
      go_wp2_with fail
      refine (take_s S1.out (44) (by decide)).mono ?_
      rintro e w2 (⟨hm, rfl, hk⟩ | ⟨hm, rfl, hk, hS⟩)
      · exact ⟨rfl, .inl ⟨_, (by first | (simp only [PS.typed, PS.expect, PS.take, bind, Except.bind, pure, Except.pure, if_neg M1.out, if_neg M2.out, if_neg hm]; done) | (simp only [PS.typed, PS.expect, PS.take, bind, Except.bind, pure, Except.pure, if_neg M1.out, if_neg M2.out, if_neg hm]; rfl) | rfl | exact absurd M1.out hm | exact absurd M2.out hm), rfl, (H.out.outk hk)⟩⟩
      have M3 := Lib.hid hm
      clear hm
      have S2 := Lib.hid hS
      clear hk hS
      go_wp2_with fail
      refine (take_s S2.out (45) (by decide)).mono ?_
      rintro e w3 (⟨hm, rfl, hk⟩ | ⟨hm, rfl, hk, hS⟩)
      · exact ⟨rfl, .inl ⟨_, (by first | (simp only [PS.typed, PS.expect, PS.take, bind, Except.bind, pure, Except.pure, if_neg M1.out, if_neg M2.out, if_pos M3.out, if_neg hm]; done) | (simp only [PS.typed, PS.expect, PS.take, bind, Except.bind, pure, Except.pure, if_neg M1.out, if_neg M2.out, if_pos M3.out, if_neg hm]; rfl) | rfl | exact absurd M1.out hm | exact absurd M2.out hm | exact absurd M3.out hm), rfl, (H.out.outk hk)⟩⟩
      have M4 := Lib.hid hm
      clear hm
      have S3 := Lib.hid hS
      clear hk hS
      go_wp2_with fail
      refine (take_s S3.out (23) (by decide)).mono ?_
      rintro e w4 (⟨hm, rfl, hk⟩ | ⟨hm, rfl, hk, hS⟩)
      · exact ⟨rfl, .inl ⟨_, (by first | (simp only [PS.typed, PS.expect, PS.take, bind, Except.bind, pure, Except.pure, if_neg M1.out, if_neg M2.out, if_pos M3.out, if_pos M4.out, if_neg hm]; done) | (simp only [PS.typed, PS.expect, PS.take, bind, Except.bind, pure, Except.pure, if_neg M1.out, if_neg M2.out, if_pos M3.out, if_pos M4.out, if_neg hm]; rfl) | rfl | exact absurd M1.out hm | exact absurd M2.out hm | exact absurd M3.out hm | exact absurd M4.out hm), rfl, (H.out.outk hk)⟩⟩
      have M5 := Lib.hid hm
      clear hm
      have S4 := Lib.hid hS
      clear hk hS
      go_wp2_with fail
      go_ret
      exact .inr ⟨3, s.at_ + 1 + 1 + 1, (by first | (simp only [PS.typed, PS.expect, PS.take, bind, Except.bind, pure, Except.pure, if_neg M1.out, if_neg M2.out, if_pos M3.out, if_pos M4.out, if_pos M5.out]; done) | (simp only [PS.typed, PS.expect, PS.take, bind, Except.bind, pure, Except.pure, if_neg M1.out, if_neg M2.out, if_pos M3.out, if_pos M4.out, if_pos M5.out]; rfl) | rfl), H.out.outv S4.out _⟩

set_option maxRecDepth 100000 in
set_option maxHeartbeats 4000000 in
theorem word_s (h : St bd L gp w0 Li b s w) (hb : b ≤ 999995000) (k : Int) (hk : s.kind ≠ 0) : Calls Try.prog 68 #[.pointer (some ⟨gp, 0, none⟩), .int .i64 k] w (PostM bd L gp w0 Li (b + 60) w (.ok (s.word k))) := by
  have S0 := Lib.hid (St.start h.p h.li h.sz)
  have H := Lib.hid h
  have Hhk := Lib.hid hk
  clear h hk
  go_enter Try.func68, Try.ntmps68
  have hlt := kind_lt Hhk.out
  obtain ⟨bt, off, tc, td, nd, fu, lo, be, ne, c0, c1, c2, c3, c4, c5, c6, c7, c8, c9, a0, a1, t0, t1, t2, t3⟩ := S0.out.cellsT hlt
  obtain ⟨n0, n1, n2, n3, n4⟩ := S0.out.nums hlt
  have z2 := S0.out.fz 2
  go_wp2_with fail
  refine Reg.wp_region_text (by kernel_rfl) (by kernel_rfl) ?_
  go_wp2_with fail
  refine (begin_s (S0.out.skip hlt).drew (by omega) { kind := k, at_ := s.cur.at_ } 0 (Nat.zero_le _)).mono ?_
  rintro e w1 ⟨rfl, hk, hS⟩
  clear c0 c1 c2 c3 c4 c5 c6 c7 c8 c9 a0 a1 t0 t1 t2 t3 n0 n1 n2 n3 n4 z2
  have S1 := Lib.hid hS
  clear hk hS
  go_wp2_with fail
  refine ⟨by kernel_rfl, ?_⟩
  go_wp2_with fail
  refine (do_s S1.out (by omega) [.semi, .done] 2 rfl (by decide) _ (by simp) _ rfl).mono ?_
  rintro e w2 ⟨rfl, hk, hS⟩
  have S2 := Lib.hid hS
  clear hk hS
  go_wp2_with fail
  go_end0
  exact .ok (H.out.out (S2.out.le (by omega))) (by first | (simp only [PS.word, PS.expect, PS.take, bind, Except.bind, pure, Except.pure]; done) | (simp only [PS.word, PS.expect, PS.take, bind, Except.bind, pure, Except.pure]; rfl) | rfl)

set_option maxRecDepth 100000 in
set_option maxHeartbeats 4000000 in
theorem told_s (h : St bd L gp w0 Li b s w) (hb : b ≤ 999995000) (k : Int) (hk : s.kind ≠ 0)(hn : s.nest ≠ []) : Calls Try.prog 64 #[.pointer (some ⟨gp, 0, none⟩), .int .i64 k] w (PostM bd L gp w0 Li (b + 60) w (s.told k)) := by
  have S0 := Lib.hid (St.start h.p h.li h.sz)
  have H := Lib.hid h
  have Hhk := Lib.hid hk
  have Hhn := Lib.hid hn
  clear h hk hn
  go_enter Try.func64, Try.ntmps64
  have Hn := Hhn
  have hlt := kind_lt Hhk.out
  obtain ⟨bt, off, tc, td, nd, fu, lo, be, ne, c0, c1, c2, c3, c4, c5, c6, c7, c8, c9, a0, a1, t0, t1, t2, t3⟩ := S0.out.cellsT hlt
  obtain ⟨n0, n1, n2, n3, n4⟩ := S0.out.nums hlt
  have z2 := S0.out.fz 2
  go_wp2_with fail
  refine Reg.wp_region_text (by kernel_rfl) (by kernel_rfl) ?_
  go_wp2_with fail
  refine (begin_s (S0.out.skip hlt).drew (by omega) { kind := k, at_ := s.cur.at_ } 0 (Nat.zero_le _)).mono ?_
  rintro e w1 ⟨rfl, hk, hS⟩
  clear c0 c1 c2 c3 c4 c5 c6 c7 c8 c9 a0 a1 t0 t1 t2 t3 n0 n1 n2 n3 n4 z2
  have S1 := Lib.hid hS
  clear hk hS
  go_wp2_with fail
  refine ⟨by kernel_rfl, ?_⟩
  go_wp2_with fail
  refine (opened_s S1.out (by omega) (40) (by decide) Hn.out).mono ?_
  rintro e w2 (⟨hm, rfl, hk⟩ | ⟨hm, rfl, hk, hS⟩)
  · exact ⟨rfl, .err (by first | (simp only [PS.told, PS.opened, PS.expect, PS.take, bind, Except.bind, pure, Except.pure, if_neg hm]; done) | (simp only [PS.told, PS.opened, PS.expect, PS.take, bind, Except.bind, pure, Except.pure, if_neg hm]; rfl) | rfl) (H.out.outk hk)⟩
  have M1 := Lib.hid hm
  clear hm
  have S2 := Lib.hid hS
  clear hk hS
  go_wp2_with fail
  refine (do_s S2.out (by omega) [.expression, .closed, .semi, .done] 4 rfl (by decide) _ (by simp) _ rfl).mono ?_
  rintro e w3 ⟨rfl, hk, hS⟩
  have S3 := Lib.hid hS
  clear hk hS
  go_wp2_with fail
  go_end0
  exact .ok (H.out.out (S3.out.le (by omega))) (by first | (simp only [PS.told, PS.opened, PS.expect, PS.take, bind, Except.bind, pure, Except.pure, if_pos M1.out]; done) | (simp only [PS.told, PS.opened, PS.expect, PS.take, bind, Except.bind, pure, Except.pure, if_pos M1.out]; rfl) | rfl)
end
end Go.Proofs.Ythodjlhjfaccpaa
