/- The walks of the parser's rules: printed by a program of mine (wip/tools/rules.py). -/
import Derived.Test.YthodjlhjfaccpaaPj
set_option linter.unusedVariables false
set_option linter.unusedSimpArgs false
namespace Go.Proofs.Ythodjlhjfaccpaa
open Go Go.RowKit Mem Pm

section
variable {bd : Nat} {L Li : List Nat} {gp b b' : Nat} {s s' : PS} {w0 w w' : World}

set_option maxRecDepth 100000 in
set_option maxHeartbeats 4000000 in
theorem variable_s (h : St bd L gp w0 Li b s w) (hb : b ≤ 999990000)  : Calls Try.prog 62 #[.pointer (some ⟨gp, 0, none⟩)] w (PostM bd L gp w0 Li (b + 60) w (s.variable_)) := by
  have S0 := Lib.hid (St.start h.p h.li h.sz)
  have H := Lib.hid h
  clear h 
  go_enter Try.func62, Try.ntmps62
  go_wp2_with fail
  refine (take_s S0.out (11) (by decide)).mono ?_
  rintro e w1 (⟨hm, rfl, hk⟩ | ⟨hm, rfl, hk, hS⟩)
  · exact ⟨rfl, .err (by first | (simp only [PS.variable_, PS.expect, PS.take, bind, Except.bind, pure, Except.pure, if_neg hm]; done) | (simp only [PS.variable_, PS.expect, PS.take, bind, Except.bind, pure, Except.pure, if_neg hm]; rfl) | rfl) (H.out.outk hk)⟩
  have M1 := Lib.hid hm
  clear hm
  have S1 := Lib.hid hS
  clear hk hS
  go_wp2_with fail
  refine (take_s (S1.out.local_ _) (1) (by decide)).mono ?_
  rintro e w2 (⟨hm, rfl, hk⟩ | ⟨hm, rfl, hk, hS⟩)
  · exact ⟨rfl, .err (by first | (simp only [PS.variable_, PS.expect, PS.take, bind, Except.bind, pure, Except.pure, if_pos M1.out, if_neg hm]; done) | (simp only [PS.variable_, PS.expect, PS.take, bind, Except.bind, pure, Except.pure, if_pos M1.out, if_neg hm]; rfl) | rfl | exact absurd M1.out hm) (H.out.outk hk)⟩
  have M2 := Lib.hid hm
  clear hm
  have B0 : Blk w2 w1.heap.size 48 [.int .i64 s.cur.kind, .int .i64 s.cur.at_, .int .i64 s.cur.value, .string s.cur.name] := (Blk.new w1 48 [.int .i64 s.cur.kind, .int .i64 s.cur.at_, .int .i64 s.cur.value, .string s.cur.name]).kp hk (.inr (by simp))
  have x0_0 : w2.cell? ⟨w1.heap.size, 0, none⟩ = some (.int .i64 s.cur.kind) := B0.cell 0
  have x0_1 : w2.cell? ⟨w1.heap.size, 1, none⟩ = some (.int .i64 s.cur.at_) := B0.cell 1
  have x0_2 : w2.cell? ⟨w1.heap.size, 2, none⟩ = some (.int .i64 s.cur.value) := B0.cell 2
  have x0_3 : w2.cell? ⟨w1.heap.size, 3, none⟩ = some (.string s.cur.name) := B0.cell 3
  replace B0 := Lib.hid B0
  have S2 := Lib.hid hS
  clear hk hS
  go_wp2_with fail
  have C0 : Blk (w2.alloc (.cells #[.int .i64 s.skip.cur.kind, .int .i64 s.skip.cur.at_, .int .i64 s.skip.cur.value, .string s.skip.cur.name] 48)) w1.heap.size 48 [.int .i64 s.cur.kind, .int .i64 s.cur.at_, .int .i64 s.cur.value, .string s.cur.name] := B0.out.alloc _
  have C1 : Blk (w2.alloc (.cells #[.int .i64 s.skip.cur.kind, .int .i64 s.skip.cur.at_, .int .i64 s.skip.cur.value, .string s.skip.cur.name] 48)) w2.heap.size 48 [.int .i64 s.skip.cur.kind, .int .i64 s.skip.cur.at_, .int .i64 s.skip.cur.value, .string s.skip.cur.name] := Blk.new _ _ _
  have SL := S2.out.local_ (.cells #[.int .i64 s.skip.cur.kind, .int .i64 s.skip.cur.at_, .int .i64 s.skip.cur.value, .string s.skip.cur.name] 48)
  obtain ⟨W2, hW⟩ : ∃ W, W = (w2.alloc (.cells #[.int .i64 s.skip.cur.kind, .int .i64 s.skip.cur.at_, .int .i64 s.skip.cur.value, .string s.skip.cur.name] 48)) := ⟨_, rfl⟩
  rw [← hW] at SL C0 C1 ⊢
  clear hW x0_0 x0_1 x0_2 x0_3
  have v1 : W2.cell? ⟨w1.heap.size, 1, none⟩ = some (.int .i64 s.cur.at_) := C0.cell 1
  have v2 : W2.cell? ⟨w2.heap.size, 1, none⟩ = some (.int .i64 s.skip.cur.at_) := C1.cell 1
  have v3 : W2.cell? ⟨w2.heap.size, 3, none⟩ = some (.string s.skip.cur.name) := C1.cell 3
  have HC0 := Lib.hid C0
  have HC1 := Lib.hid C1
  have HSL := Lib.hid SL
  clear C0 C1 SL
  cases hty : s.skip.skip.typed with
  | error f =>
    have Hty := Lib.hid hty
    clear hty
    refine Reg.wp_region_doom [_, _, _, _, _, _, _, _] [_, _] (by kernel_rfl) (by kernel_rfl) (fun c a d v w' h => by cases d <;> exact h) ?_
    go_wp2_with fail
    refine ⟨by kernel_rfl, ?_⟩
    go_wp2_with fail
    refine (typed_s HSL.out.drew (by omega)).mono ?_
    rintro e w3 (⟨f', hm, rfl, hk⟩ | ⟨d, a, hm, rfl, hk, hS⟩)
    · rw [Hty.out] at hm
      injection hm with hm
      subst hm
      exact ⟨rfl, .err (by simp only [PS.variable_, PS.take, bind, Except.bind, if_pos M1.out, if_pos M2.out, Hty.out]) (H.out.outk hk)⟩
    · rw [Hty.out] at hm; cases hm
  | ok v =>
    have Hty := Lib.hid hty
    clear hty
    go_region_held3 (fun w' => w'.cell? ⟨w1.heap.size, 1, none⟩ = some (.int .i64 s.cur.at_) ∧ w'.cell? ⟨w2.heap.size, 1, none⟩ = some (.int .i64 s.skip.cur.at_) ∧ w'.cell? ⟨w2.heap.size, 3, none⟩ = some (.string s.skip.cur.name)) (go_keep)
      (first
        | (go_at_call 45
           refine (typed_s HSL.out.drew (by omega)).mono ?_
           rintro e w3 (⟨f', hm, rfl, hk⟩ | ⟨d, a, hm, rfl, hk, hS⟩)
           · rw [Hty.out] at hm; cases hm
           have D0 := HC0.out.drew.kp hk (.inr (by simp))
           have D1 := HC1.out.drew.kp hk (.inr (by simp))
           have x1 : w3.cell? ⟨w1.heap.size, 1, none⟩ = some (.int .i64 s.cur.at_) := D0.cell 1
           have x2 : w3.cell? ⟨w2.heap.size, 1, none⟩ = some (.int .i64 s.skip.cur.at_) := D1.cell 1
           have x3 : w3.cell? ⟨w2.heap.size, 3, none⟩ = some (.string s.skip.cur.name) := D1.cell 3
           have E0 := Lib.hid D0
           have E1 := Lib.hid D1
           have MT := Lib.hid hm
           have S3 := Lib.hid hS
           clear hm hk hS D0 D1)
        | (go_at_call 42
           refine (begin_s S3.out (by omega) { kind := 4, at_ := s.cur.at_, where_ := s.skip.cur.at_, name := s.skip.cur.name, decl := d } 0 (Nat.zero_le _)).mono ?_
           rintro e w4 ⟨rfl, hk, hS⟩
           have D0 := E0.out.kp hk (.inr (by simp))
           have D1 := E1.out.kp hk (.inr (by simp))
           have x1 : w4.cell? ⟨w1.heap.size, 1, none⟩ = some (.int .i64 s.cur.at_) := D0.cell 1
           have x2 : w4.cell? ⟨w2.heap.size, 1, none⟩ = some (.int .i64 s.skip.cur.at_) := D1.cell 1
           have x3 : w4.cell? ⟨w2.heap.size, 3, none⟩ = some (.string s.skip.cur.name) := D1.cell 3
           have S4 := Lib.hid hS
           clear hk hS D0 D1))
    clear x1 x2 x3 v1 v2 v3
    go_wp2_with fail
    refine (is_s S4.out (48)).mono ?_
    rintro e w5 ⟨rfl, hk, hS⟩
    have S5 := Lib.hid hS
    clear hk hS
    by_cases hm : (({ s.skip.skip with at_ := a } : PS).begin_ { kind := 4, at_ := s.cur.at_, where_ := s.skip.cur.at_, name := s.skip.cur.name, decl := d } 0).kind = 48
    · have qM3 : ((({ s.skip.skip with at_ := a } : PS).begin_ { kind := 4, at_ := s.cur.at_, where_ := s.skip.cur.at_, name := s.skip.cur.name, decl := d } 0).kind == 48) = true := by simpa using hm
      have M3 := Lib.hid hm
      clear hm
      have hlt := kind_lt (s := (({ s.skip.skip with at_ := a } : PS).begin_ { kind := 4, at_ := s.cur.at_, where_ := s.skip.cur.at_, name := s.skip.cur.name, decl := d } 0)) (by rw [M3.out]; decide)
      obtain ⟨bt, off, tc, td, nd, fu, lo, be, ne, c0, c1, c2, c3, c4, c5, c6, c7, c8, c9, a0, a1, t0, t1, t2, t3⟩ := S5.out.cellsT hlt
      obtain ⟨n0, n1, n2, n3, n4⟩ := S5.out.nums hlt
      have z2 := S5.out.fz 2
      go_wp2_with fail
      refine (do_s (S5.out.skip hlt) (by omega) [.expression, .semi, .done] 3 rfl (by decide) _ (by simp) _ rfl).mono ?_
      rintro e w6 ⟨rfl, hk, hS⟩
      clear c0 c1 c2 c3 c4 c5 c6 c7 c8 c9 a0 a1 t0 t1 t2 t3 n0 n1 n2 n3 n4 z2
      have S6 := Lib.hid hS
      clear hk hS
      go_wp2_with fail
      go_end0
      exact .ok (H.out.out (S6.out.le (by omega))) (by first | (simp only [PS.variable_, PS.expect, PS.take, bind, Except.bind, pure, Except.pure, if_pos M1.out, if_pos M2.out, MT.out, if_pos M3.out]; done) | (simp only [PS.variable_, PS.expect, PS.take, bind, Except.bind, pure, Except.pure, if_pos M1.out, if_pos M2.out, MT.out, if_pos M3.out]; rfl) | rfl)
    · have qM3 : ((({ s.skip.skip with at_ := a } : PS).begin_ { kind := 4, at_ := s.cur.at_, where_ := s.skip.cur.at_, name := s.skip.cur.name, decl := d } 0).kind == 48) = false := by simpa using hm
      have M3 := Lib.hid hm
      clear hm
      go_wp2_with fail
      refine (do_s S5.out (by omega) [.semi, .done] 2 rfl (by decide) _ (by simp) _ rfl).mono ?_
      rintro e w6 ⟨rfl, hk, hS⟩
      have S6 := Lib.hid hS
      clear hk hS
      go_wp2_with fail
      go_end0
      exact .ok (H.out.out (S6.out.le (by omega))) (by first | (simp only [PS.variable_, PS.expect, PS.take, bind, Except.bind, pure, Except.pure, if_pos M1.out, if_pos M2.out, MT.out, if_neg M3.out]; done) | (simp only [PS.variable_, PS.expect, PS.take, bind, Except.bind, pure, Except.pure, if_pos M1.out, if_pos M2.out, MT.out, if_neg M3.out]; rfl) | rfl)
end
end Go.Proofs.Ythodjlhjfaccpaa
