/- joined: a sign between two values. -/
import Derived.Test.YthodjlhjfaccpaaPp
set_option linter.unusedVariables false
set_option linter.unusedSimpArgs false
namespace Go.Proofs.Ythodjlhjfaccpaa
open Go Go.RowKit Mem Pm

section
variable {bd : Nat} {L Li : List Nat} {gp b b' : Nat} {s s' : PS} {w0 w w' : World}

theorem operator_zero : (PS.operator 0).2 = 0 := by decide

set_option maxRecDepth 100000 in
set_option maxHeartbeats 4000000 in
theorem joined_s (h : St bd L gp w0 Li b s w) (hb : b ≤ 999990000) (level : Int) (next again : Sym) (hlv : level ≠ 0) (hl : (PS.operator s.kind).2 = level → HasLeft s) :
    Calls Try.prog 82 #[.pointer (some ⟨gp, 0, none⟩), .int .i64 level, symVal gp next, symVal gp again] w (PostM bd L gp w0 Li (b + 60) w (.ok (s.joined level next again))) := by
  have S0 := Lib.hid (St.start h.p h.li h.sz)
  have H := Lib.hid h
  have Hl := Lib.hid hl
  clear h hl
  unfold symVal
  go_enter Try.func82, Try.ntmps82
  go_wp2_with fail
  refine (kind_s S0.out).mono ?_
  rintro e w1 ⟨rfl, hk, hS⟩
  have S1 := Lib.hid hS
  clear hk hS
  go_wp2_with fail
  refine (operator_c s.kind w1).mono ?_
  rintro e w2 ⟨rfl, rfl⟩
  by_cases hm : (PS.operator s.kind).2 = level
  · have q1 : ((PS.operator s.kind).2 == level) = true := by simpa using hm
    have hk0 : s.kind ≠ 0 := fun h0 => hlv (by rw [← hm, h0]; exact operator_zero)
    have hlt := kind_lt hk0
    have Hj := Lib.hid (show s.joined level next again = ((s.begin_ { kind := 31, at_ := s.leftAt, where_ := s.cur.at_, op := (PS.operator s.kind).1 } 1).skip).do_ [next, .done, again] by unfold PS.joined; rw [if_pos hm])
    have HL := Lib.hid (Hl.out hm)
    obtain ⟨bt, off, tc, td, nd, fu, lo, be, ne, c0, c1, c2, c3, c4, c5, c6, c7, c8, c9, a0, a1, t0, t1, t2, t3⟩ := S1.out.cellsT hlt
    obtain ⟨n0, n1, n2, n3, n4⟩ := S1.out.nums hlt
    clear hm hk0 hlv
    go_wp2_with fail
    refine Reg.wp_region_text (by kernel_rfl) (by kernel_rfl) ?_
    go_wp2_with fail
    refine ⟨by kernel_rfl, ?_⟩
    go_wp2_with fail
    have hB : Blk (w1.alloc (.cells #[.int .i64 s.cur.kind, .int .i64 s.cur.at_, .int .i64 s.cur.value, .string s.cur.name] 48)).drew w1.heap.size 48 [.int .i64 s.cur.kind, .int .i64 s.cur.at_, .int .i64 s.cur.value, .string s.cur.name] := (Blk.new _ _ _).drew
    have SL := (S1.out.local_ (.cells #[.int .i64 s.cur.kind, .int .i64 s.cur.at_, .int .i64 s.cur.value, .string s.cur.name] 48)).drew
    obtain ⟨W, hW⟩ : ∃ W, W = (w1.alloc (.cells #[.int .i64 s.cur.kind, .int .i64 s.cur.at_, .int .i64 s.cur.value, .string s.cur.name] 48)).drew := ⟨_, rfl⟩
    rw [← hW] at hB SL ⊢
    clear hW c0 c1 c2 c3 c4 c5 c6 c7 c8 c9 a0 a1 t0 t1 t2 t3 n0 n1 n2 n3 n4
    have u1 : W.cell? ⟨w1.heap.size, 1, none⟩ = some (.int .i64 s.cur.at_) := hB.cell 1
    have HB := Lib.hid hB
    have HSL := Lib.hid SL
    clear hB SL
    go_region_held3 (fun w' => w'.cell? ⟨w1.heap.size, 1, none⟩ = some (.int .i64 s.cur.at_)) (go_keep)
      (first
        | (go_at_call 86
           refine (left_s HSL.out.drew (by omega) HL.out).mono ?_
           rintro e w2 ⟨rfl, hk, hS⟩
           have B1 := HB.out.drew.kp hk (.inr (by simp))
           have x1 : w2.cell? ⟨w1.heap.size, 1, none⟩ = some (.int .i64 s.cur.at_) := B1.cell 1
           have S2 := Lib.hid hS
           replace B1 := Lib.hid B1
           clear hk hS)
        | (go_at_call 42
           refine (begin_s S2.out (by omega) { kind := 31, at_ := s.leftAt, where_ := s.cur.at_, op := (PS.operator s.kind).1 } 1 (by obtain ⟨j, h1, h2⟩ := HL.out; have := (List.getElem?_eq_some_iff.1 h1).1; omega)).mono ?_
           rintro e w3 ⟨rfl, hk, hS⟩
           have B2 := B1.out.kp hk (.inr (by simp))
           have x1 : w3.cell? ⟨w1.heap.size, 1, none⟩ = some (.int .i64 s.cur.at_) := B2.cell 1
           have S3 := Lib.hid hS
           clear hk hS B2))
    clear u1
    obtain ⟨ta, tc, td, nd, fu, lo, be, ne, c0, c1, c2, c3, c4, c5, c6, c7, c8, c9⟩ := S3.out.cells
    have z2 := S3.out.fz 2
    obtain ⟨n0, n1, n2, n3, n4⟩ := S3.out.nums hlt
    go_wp2_with fail
    refine (do_s (S3.out.skip hlt) (by omega) [next, .done, again] 3 rfl (by decide) _ (by simp) _ rfl).mono ?_
    rintro e w4 ⟨rfl, hk, hS⟩
    have S4 := Lib.hid hS
    clear hk hS
    go_wp2_with fail
    go_end0
    exact .ok (H.out.out (S4.out.le (by omega))) (by rw [Hj.out])
  · have q1 : ((PS.operator s.kind).2 == level) = false := by simpa using hm
    have Hj := Lib.hid (show s.joined level next again = s by unfold PS.joined; rw [if_neg hm])
    clear hm hlv
    go_wp2_with fail
    go_end0
    exact .ok (H.out.out (S1.out.le (by omega))) (by rw [Hj.out])
end
end Go.Proofs.Ythodjlhjfaccpaa
