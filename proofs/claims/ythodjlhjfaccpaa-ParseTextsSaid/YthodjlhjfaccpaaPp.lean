/- The walks of the parser's rules: printed by a program of mine (wip/tools/rules.py). -/
import Derived.Test.YthodjlhjfaccpaaPo
set_option linter.unusedVariables false
set_option linter.unusedSimpArgs false
namespace Go.Proofs.Ythodjlhjfaccpaa
open Go Go.RowKit Mem Pm

section
variable {bd : Nat} {L Li : List Nat} {gp b b' : Nat} {s s' : PS} {w0 w w' : World}

set_option maxRecDepth 100000 in
set_option maxHeartbeats 4000000 in
theorem otherwise_s (h : St bd L gp w0 Li b s w) (hb : b ≤ 999990000) (hn : s.nest ≠ []) (hd : ∃ n f r, s.begun = (n, f) :: r ∧ f ≤ s.loose.length) : Calls Try.prog 76 #[.pointer (some ⟨gp, 0, none⟩)] w (PostM bd L gp w0 Li (b + 60) w (.ok s.otherwise)) := by
  have S0 := Lib.hid (St.start h.p h.li h.sz)
  have H := Lib.hid h
  have Hhn := Lib.hid hn
  have Hhd := Lib.hid hd
  clear h hn hd
  go_enter Try.func76, Try.ntmps76
  have Hn := Hhn
  go_wp2_with fail
  refine (is_s S0.out (13)).mono ?_
  rintro e w1 ⟨rfl, hk, hS⟩
  have S1 := Lib.hid hS
  clear hk hS
  by_cases hm : s.kind = 13
  · have qM1 : (s.kind == 13) = true := by simpa using hm
    have M1 := Lib.hid hm
    clear hm
    have hlt := kind_lt (s := s) (by rw [M1.out]; decide)
    have hnt := S1.out.ntok
    have q0 : (s.at_ : Int) + 1 ≤ 1000000001 := by omega
    have q1 : (0 : Int) ≤ (s.at_ : Int) + 1 := by omega
    have z2 := S1.out.fz 2
    by_cases h1 : s.at_ + 1 < s.toks.length
    · have q2 : (s.at_ : Int) + 1 < (s.toks.length : Int) := by omega
      have q3 : ((s.at_ : Int) + 1).toNat = s.at_ + 1 := by omega
      have ht : s.toks[s.at_ + 1]? = some s.toks[s.at_ + 1] := List.getElem?_eq_getElem h1
      generalize s.toks[s.at_ + 1] = t at ht
      have hcells : ∃ bt off tc td nd fu lo be ne, w1.cell? ⟨gp, 0, none⟩ = some (.slice (some ⟨bt, off, none⟩) s.toks.length tc) ∧ w1.cell? ⟨gp, 1, none⟩ = some (.int .i64 s.en) ∧ w1.cell? ⟨gp, 2, none⟩ = some (.int .i64 s.at_) ∧ w1.cell? ⟨gp, 3, none⟩ = some td ∧ w1.cell? ⟨gp, 4, none⟩ = some nd ∧ w1.cell? ⟨gp, 5, none⟩ = some fu ∧ w1.cell? ⟨gp, 6, none⟩ = some lo ∧ w1.cell? ⟨gp, 7, none⟩ = some be ∧ w1.cell? ⟨gp, 8, none⟩ = some (.int .i64 s.open_) ∧ w1.cell? ⟨gp, 9, none⟩ = some ne ∧ w1.cell? ⟨bt, off + (s.at_ + 1) * 4, none⟩ = some (.int .i64 t.kind) := by
        obtain ⟨ta, tc, td, nd, fu, lo, be, ne, kvs, hp⟩ := S1.out.p
        obtain ⟨c0, c1, c2, c3, c4, c5, c6, c7, c8, c9⟩ := pcells hp.blk
        obtain ⟨bt, off, rfl, _, h2, _⟩ := hp.tok ht
        exact ⟨bt, off, tc, _, _, _, _, _, _, c0, c1, c2, c3, c4, c5, c6, c7, c8, c9, h2⟩
      obtain ⟨bt, off, tc, td, nd, fu, lo, be, ne, c0, c1, c2, c3, c4, c5, c6, c7, c8, c9, k0⟩ := hcells
      have Ht := Lib.hid ht
      clear ht hnt
      by_cases hm : t.kind = 12
      · have q4 : (t.kind == 12) = true := by simpa using hm
        have M2 := Lib.hid (show (s.toks[s.at_ + 1]?).any (fun t => t.kind == 12) = true by rw [Ht.out]; exact q4)
        clear hm
        go_wp2_with fail
        refine Reg.wp_region_text (by kernel_rfl) (by kernel_rfl) ?_
        go_wp2_with fail
        refine ⟨by kernel_rfl, ?_⟩
        go_wp2_with fail
        refine (enter_s (S1.out.drew.skip hlt) (by omega) Hn.out).mono ?_
        rintro e w2 ⟨rfl, hk, hS⟩
        have S2 := Lib.hid hS
        clear hk hS
        go_wp2_with fail
        refine (do_s S2.out (by omega) [.condition, .leave, .done] 3 rfl (by decide) _ (by simp) _ rfl).mono ?_
        rintro e w3 ⟨rfl, hk, hS⟩
        have S3 := Lib.hid hS
        clear hk hS
        go_wp2_with fail
        go_end0
        exact .ok (H.out.out (S3.out.le (by omega))) (by first | (simp only [PS.otherwise, PS.expect, PS.take, bind, Except.bind, pure, Except.pure, if_pos M1.out, M2.out, if_true, Bool.false_eq_true, if_false]; done) | (simp only [PS.otherwise, PS.expect, PS.take, bind, Except.bind, pure, Except.pure, if_pos M1.out, M2.out, if_true, Bool.false_eq_true, if_false]; rfl) | rfl)
      · have q4 : (t.kind == 12) = false := by simpa using hm
        have M2 := Lib.hid (show (s.toks[s.at_ + 1]?).any (fun t => t.kind == 12) = false by rw [Ht.out]; exact q4)
        clear hm
        go_wp2_with fail
        refine Reg.wp_region_text (by kernel_rfl) (by kernel_rfl) ?_
        go_wp2_with fail
        refine ⟨by kernel_rfl, ?_⟩
        go_wp2_with fail
        refine (do_s (S1.out.drew.skip hlt) (by omega) [.block, .done] 2 rfl (by decide) _ (by simp) _ rfl).mono ?_
        rintro e w2 ⟨rfl, hk, hS⟩
        have S2 := Lib.hid hS
        clear hk hS
        go_wp2_with fail
        go_end0
        exact .ok (H.out.out (S2.out.le (by omega))) (by first | (simp only [PS.otherwise, PS.expect, PS.take, bind, Except.bind, pure, Except.pure, if_pos M1.out, M2.out, if_true, Bool.false_eq_true, if_false]; done) | (simp only [PS.otherwise, PS.expect, PS.take, bind, Except.bind, pure, Except.pure, if_pos M1.out, M2.out, if_true, Bool.false_eq_true, if_false]; rfl) | rfl)
    · have q2 : (s.toks.length : Int) ≤ (s.at_ : Int) + 1 := by omega
      have M2 := Lib.hid (show (s.toks[s.at_ + 1]?).any (fun t => t.kind == 12) = false by rw [List.getElem?_eq_none (by omega)]; rfl)
      obtain ⟨ta, tc, td, nd, fu, lo, be, ne, c0, c1, c2, c3, c4, c5, c6, c7, c8, c9⟩ := S1.out.cells
      have q5 : decide ((s.at_ : Int) + 1 < (s.toks.length : Int)) = false := decide_eq_false (by omega)
      clear h1 hnt q2
      go_wp2_with fail
      refine Reg.wp_region_text (by kernel_rfl) (by kernel_rfl) ?_
      go_wp2_with fail
      refine ⟨by kernel_rfl, ?_⟩
      go_wp2_with fail
      refine (do_s (S1.out.drew.skip hlt) (by omega) [.block, .done] 2 rfl (by decide) _ (by simp) _ rfl).mono ?_
      rintro e w2 ⟨rfl, hk, hS⟩
      have S2 := Lib.hid hS
      clear hk hS
      go_wp2_with fail
      go_end0
      exact .ok (H.out.out (S2.out.le (by omega))) (by first | (simp only [PS.otherwise, PS.expect, PS.take, bind, Except.bind, pure, Except.pure, if_pos M1.out, M2.out, Bool.false_eq_true, if_false]; done) | (simp only [PS.otherwise, PS.expect, PS.take, bind, Except.bind, pure, Except.pure, if_pos M1.out, M2.out, Bool.false_eq_true, if_false]; rfl) | rfl)
  · have qM1 : (s.kind == 13) = false := by simpa using hm
    have M1 := Lib.hid hm
    clear hm
    go_wp2_with fail
    refine (done_s S1.out (by omega) Hhd.out).mono ?_
    rintro e w2 ⟨rfl, hk, hS⟩
    have S2 := Lib.hid hS
    clear hk hS
    go_wp2_with fail
    go_end0
    exact .ok (H.out.out (S2.out.le (by omega))) (by first | (simp only [PS.otherwise, PS.expect, PS.take, bind, Except.bind, pure, Except.pure, if_neg M1.out]; done) | (simp only [PS.otherwise, PS.expect, PS.take, bind, Except.bind, pure, Except.pure, if_neg M1.out]; rfl) | rfl)
end
end Go.Proofs.Ythodjlhjfaccpaa
