/- The rules whose regions load beside a call: param, variable, joined. -/
import Derived.Test.YthodjlhjfaccpaaPi
import Derived.Test.YthodjlhjfaccpaaRegd
import Derived.Deep.RegionHeld3
set_option linter.unusedVariables false
set_option linter.unusedSimpArgs false
namespace Go.Proofs.Ythodjlhjfaccpaa
open Go Go.RowKit Mem Pm

section
variable {bd : Nat} {L Li : List Nat} {gp b b' : Nat} {s s' : PS} {w0 w w' : World}

set_option maxRecDepth 100000 in
set_option maxHeartbeats 4000000 in
theorem param_s (h : St bd L gp w0 Li b s w) (hb : b ≤ 999995000) : Calls Try.prog 44 #[.pointer (some ⟨gp, 0, none⟩)] w (PostM bd L gp w0 Li (b + 60) w s.param) := by
  have S0 := Lib.hid (St.start h.p h.li h.sz)
  have H := Lib.hid h
  clear h
  go_enter Try.func44, Try.ntmps44
  go_wp2_with fail
  refine (take_s S0.out 1 (by decide)).mono ?_
  rintro e w1 (⟨hm, rfl, hk⟩ | ⟨hm, rfl, hk, hS⟩)
  · exact ⟨rfl, .err (by simp only [PS.param, PS.take, bind, Except.bind, if_neg hm]) (H.out.outk hk)⟩
  have M1 := Lib.hid hm
  clear hm
  have S1 := Lib.hid hS
  clear hk hS
  go_wp2_with fail
  have hB : Blk (w1.alloc (.cells #[.int .i64 s.cur.kind, .int .i64 s.cur.at_, .int .i64 s.cur.value, .string s.cur.name] 48)) w1.heap.size 48 [.int .i64 s.cur.kind, .int .i64 s.cur.at_, .int .i64 s.cur.value, .string s.cur.name] := Blk.new _ _ _
  have HB := Lib.hid hB
  clear hB
  -- whether the type can be read is told ahead
  cases hty : s.skip.typed with
  | error f =>
    have Hty := Lib.hid hty
    clear hty
    refine Reg.wp_region_doom [_, _, _, _, _, _, _, _] [_, _] (by kernel_rfl) (by kernel_rfl) ?_ ?_
    · intro c a d v w' h
      cases d <;> exact h
    go_wp2_with fail
    refine ⟨by kernel_rfl, ?_⟩
    go_wp2_with fail
    refine (typed_s (S1.out.local_ _).drew (by omega)).mono ?_
    rintro e w2 (⟨f', hm, rfl, hk⟩ | ⟨d, a, hm, rfl, hk, hS⟩)
    · rw [Hty.out] at hm
      injection hm with hm
      subst hm
      exact ⟨rfl, .err (by simp only [PS.param, PS.take, bind, Except.bind, if_pos M1.out, Hty.out]) (H.out.outk hk)⟩
    · rw [Hty.out] at hm; cases hm
  | ok v =>
    have Hty := Lib.hid hty
    clear hty
    go_region_held3 (fun w' => w'.cell? ⟨w1.heap.size, 1, none⟩ = some (.int .i64 s.cur.at_) ∧ w'.cell? ⟨w1.heap.size, 3, none⟩ = some (.string s.cur.name)) (go_keep)
      (first
        | (go_at_call 45
           refine (typed_s (S1.out.local_ _).drew (by omega)).mono ?_
           rintro e w2 (⟨f', hm, rfl, hk⟩ | ⟨d, a, hm, rfl, hk, hS⟩)
           · rw [Hty.out] at hm; cases hm
           have M2 := Lib.hid hm
           have B1 := HB.out.drew.kp hk (.inr (by simp))
           have x1 : w2.cell? ⟨w1.heap.size, 1, none⟩ = some (.int .i64 s.cur.at_) := B1.cell 1
           have x3 : w2.cell? ⟨w1.heap.size, 3, none⟩ = some (.string s.cur.name) := B1.cell 3
           have S2 := Lib.hid hS
           replace B1 := Lib.hid B1
           clear hm hk hS)
        | (go_at_call 54
           refine (leaf_s S2.out (by omega) { kind := 2, at_ := s.cur.at_, where_ := s.cur.at_, name := s.cur.name, decl := d }).mono ?_
           rintro e w3 ⟨rfl, hk, hS⟩
           have B2 := B1.out.kp hk (.inr (by simp))
           have x1 : w3.cell? ⟨w1.heap.size, 1, none⟩ = some (.int .i64 s.cur.at_) := B2.cell 1
           have x3 : w3.cell? ⟨w1.heap.size, 3, none⟩ = some (.string s.cur.name) := B2.cell 3
           have S3 := Lib.hid hS
           clear hk hS))
    go_end0
    exact .ok (H.out.out (S3.out.le (by omega))) (by simp only [PS.param, PS.take, bind, Except.bind, pure, Except.pure, if_pos M1.out, M2.out])
end
end Go.Proofs.Ythodjlhjfaccpaa
