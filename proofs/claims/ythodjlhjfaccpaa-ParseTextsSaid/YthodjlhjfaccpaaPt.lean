/- What the reading of a type leaves where it is. -/
import Derived.Test.YthodjlhjfaccpaaPs0
set_option linter.unusedVariables false
namespace Go.Proofs.Ythodjlhjfaccpaa
open Go Go.RowKit Mem Pm

section
variable {bd : Nat} {L : List Nat} {gp : Nat} {s : PS} {w : World}
set_option maxRecDepth 100000 in
set_option maxHeartbeats 4000000 in
theorem take_c7 (h : PInv bd L gp s w) (hL : ∀ k ∈ L, k < w.heap.size) (k : Int) (hk : k ≠ 0) :
    Calls Try.prog 41 #[.pointer (some ⟨gp, 0, none⟩), .int .i64 k] w (fun e w' => Post bd L gp w tokV (s.take k) e w' ∧ w'.cell? ⟨gp, 7, none⟩ = w.cell? ⟨gp, 7, none⟩) := by
  by_cases hkk : s.kind = k
  · have hq : (s.kind == k) = true := by simpa using hkk
    have ht : ∃ t, s.toks[s.at_]? = some t := by
      cases ht : s.toks[s.at_]? with
      | some t => exact ⟨t, rfl⟩
      | none => rw [kind_none ht] at hkk; exact absurd hkk.symm hk
    obtain ⟨t, ht⟩ := ht
    have hlt : s.at_ < s.toks.length := (List.getElem?_eq_some_iff.1 ht).1
    have hcur : s.cur = t := by simp [PS.cur, ht]
    have Ht := Lib.hid (show s.take k = .ok (t, s.skip) by unfold PS.take; rw [if_pos hkk, hcur])
    have H := Lib.hid h
    have HL := Lib.hid hL
    have Hg := Lib.hid ht
    have hnt : s.toks.length ≤ 1000000000 := by obtain ⟨ta, tc, td, nd, fu, lo, be, ne, kvs, h⟩ := h; exact h.ntok
    have hgs := h.lt
    clear h hL ht hcur hkk
    go_enter Try.func41, Try.ntmps41
    go_wp2_with fail
    refine (is_c (H.out.local_ _) k).mono ?_
    rintro e w' ⟨rfl, hf⟩
    have hf0 := hf
    have h1 := (H.out.local_ (.cells #[.int .i64 0, .int .i64 0, .int .i64 0, .string ⟨#[]⟩] 48)).fr hf
    obtain ⟨ta, tc, td, nd, fu, lo, be, ne, kvs, h1⟩ := h1
    have hc := pcells h1.blk
    obtain ⟨b, off, rfl, hb, t0, t1, t2, t3⟩ := h1.tok Hg.out
    have hx : Blk w' w.heap.size 48 [.int .i64 0, .int .i64 0, .int .i64 0, .string ⟨#[]⟩] := (Blk.new w 48 _).ch hf id
    have x0 : w'.cell? ⟨w.heap.size, 0, none⟩ = some (.int .i64 0) := hx.cell 0
    have x1 : w'.cell? ⟨w.heap.size, 1, none⟩ = some (.int .i64 0) := hx.cell 1
    have x2 : w'.cell? ⟨w.heap.size, 2, none⟩ = some (.int .i64 0) := hx.cell 2
    have x3 : w'.cell? ⟨w.heap.size, 3, none⟩ = some (.string ⟨#[]⟩) := hx.cell 3
    have z0 := hx.frozen 0
    have z1 := hx.frozen 1
    have z2 := hx.frozen 2
    have z3 := hx.frozen 3
    have zp := h1.blk.frozen 2
    have hne : w.heap.size ≠ gp := by omega
    have hbg : b ≠ gp := by have := h1.bd_le; omega
    have hbw : b ≠ w.heap.size := by have := h1.bd_le; omega
    have hlt2 : (s.at_ : Int) < (s.toks.length : Int) := by omega
    have hw1 : ((s.at_ : Int) + 1 - 1).toNat = s.at_ := by omega
    have H1 := Lib.hid h1
    have Hx := Lib.hid hx
    clear h1 hx
    go_wp2_with fail
    refine Reg.wp_region_text (by kernel_rfl) (by kernel_rfl) ?_
    go_wp2_with fail
    refine ⟨by kernel_rfl, ?_⟩
    go_wp2_with fail
    have hbs := H1.out.bd_le
    have P1 := H1.out.upd0 (a' := s.at_ + 1) (o' := s.open_) (Ch.setCell (S := fun k => k = gp) (p := ⟨gp, 2, none⟩) (Ch.refl _ _) rfl (.int .i64 ((s.at_ : Int) + 1))) (by omega) (H1.out.blk.set_ 2 (.int .i64 ((s.at_ : Int) + 1)))
    have P2 := P1.ch (S := fun k => k = w.heap.size) (((((Ch.refl (fun k => k = w.heap.size) _).setCell (p := ⟨w.heap.size, 0, none⟩) rfl (.int .i64 t.kind)).setCell (p := ⟨w.heap.size, 1, none⟩) rfl (.int .i64 t.at_)).setCell (p := ⟨w.heap.size, 2, none⟩) rfl (.int .i64 t.value)).setCell (p := ⟨w.heap.size, 3, none⟩) rfl (.string t.name)).drew
      (fun k hk => ⟨by omega, by simp [hk]⟩)
    have C2 : Ch (fun k => k = w.heap.size) (w'.setCell ⟨gp, 2, none⟩ (.int .i64 ((s.at_ : Int) + 1))) _ := (((((Ch.refl (fun k => k = w.heap.size) _).setCell (p := ⟨w.heap.size, 0, none⟩) rfl (.int .i64 t.kind)).setCell (p := ⟨w.heap.size, 1, none⟩) rfl (.int .i64 t.at_)).setCell (p := ⟨w.heap.size, 2, none⟩) rfl (.int .i64 t.value)).setCell (p := ⟨w.heap.size, 3, none⟩) rfl (.string t.name)).drew
    have C1 : Ch (fun k => k = gp ∨ k = w.heap.size) w' _ := ((((((Ch.refl _ w').setCell (p := ⟨gp, 2, none⟩) (.inl rfl) (.int .i64 ((s.at_ : Int) + 1))).setCell (p := ⟨w.heap.size, 0, none⟩) (.inr rfl) (.int .i64 t.kind)).setCell (p := ⟨w.heap.size, 1, none⟩) (.inr rfl) (.int .i64 t.at_)).setCell (p := ⟨w.heap.size, 2, none⟩) (.inr rfl) (.int .i64 t.value)).setCell (p := ⟨w.heap.size, 3, none⟩) (.inr rfl) (.string t.name)).drew
    have C7 : _ = w.cell? ⟨gp, 7, none⟩ := (World.cell?_of_block (a := ⟨gp, 7, none⟩) (C2.block gp (by have h1 := hf0.size; simp at h1 ⊢; omega) (by intro h; omega))).trans (((World.cell?_setCell_other w' ⟨gp, 2, none⟩ ⟨gp, 7, none⟩ _ (by simp))).trans (World.cell?_of_block (a := ⟨gp, 7, none⟩) ((((Ch.refl (fun _ => False) w).alloc (.cells #[.int .i64 0, .int .i64 0, .int .i64 0, .string ⟨#[]⟩] 48)).trans hf0).block gp hgs id)))
    refine bodyPost_ret (v := tokV t) (by simp [results, Try.results41, go_sem, x0, x1, x2, x3, tokV]) rfl ?_
    rw [Ht.out]
    refine ⟨?_, C7⟩
    refine post_ok ?_ rfl (PInv.drop ⟨_, _, _, _, _, _, _, _, _, P2⟩ (fun k hk => List.mem_cons_of_mem _ hk))
    refine kp_gp H.out HL.out ?_
    have C0 : Ch (fun k => k = gp) w w' := ((Ch.refl _ _).alloc _).trans (hf.mono fun _ => False.elim)
    exact ⟨C1.os.trans C0.os, C1.tape.trans C0.tape, C1.output.trans C0.output, Nat.le_trans C0.size C1.size, fun k hk hs => (C1.block k (Nat.lt_of_lt_of_le hk C0.size) (by rintro (h1 | h1) <;> omega)).trans (C0.block k hk hs)⟩
  · have hq : (s.kind == k) = false := by simpa using hkk
    have Ht := Lib.hid (show s.take k = .error s.fault by unfold PS.take; rw [if_neg hkk])
    have H := Lib.hid h
    have HL := Lib.hid hL
    clear h hL hkk
    go_enter Try.func41, Try.ntmps41
    go_wp2_with fail
    refine (is_c (H.out.local_ _) k).mono ?_
    rintro e w' ⟨rfl, hf⟩
    go_wp2_with fail
    refine (fail_c ((H.out.local_ _).fr hf)).mono ?_
    rintro e w2 ⟨rfl, hf2⟩
    refine ⟨rfl, ?_⟩
    rw [Ht.out]
    exact ⟨post_err (kp_fr H.out HL.out (((Ch.refl _ _).alloc _).trans (hf.trans hf2))) rfl, World.cell?_of_block ((((Ch.refl (fun _ => False) w).alloc _).trans (hf.trans hf2)).block gp (by have := H.out.lt; exact this) id)⟩
end
section
variable {bd : Nat} {L Li : List Nat} {gp b b' : Nat} {s s' : PS} {w0 w w' : World}
theorem kind_s7 (h : St bd L gp w0 Li b s w) : Calls Try.prog 53 #[.pointer (some ⟨gp, 0, none⟩)] w fun e w' => PostS bd L gp w0 Li b w (.int .i64 s.kind) s e w' ∧ w'.cell? ⟨gp, 7, none⟩ = w.cell? ⟨gp, 7, none⟩ :=
  (kind_c h.p).mono fun e w' ⟨h1, h2⟩ => ⟨⟨h1, kp_fr h.p h.li h2, h.fr h2⟩, World.cell?_of_block (h2.block gp h.p.lt id)⟩
theorem take_s7 (h : St bd L gp w0 Li b s w) (k : Int) (hk : k ≠ 0) : Calls Try.prog 41 #[.pointer (some ⟨gp, 0, none⟩), .int .i64 k] w fun e w' =>
    ((s.kind ≠ k ∧ e = thrown s.fault ∧ Kp (Out bd L) w0 w') ∨ (s.kind = k ∧ PostS bd L gp w0 Li b w (.agg #[.int .i64 s.cur.kind, .int .i64 s.cur.at_, .int .i64 s.cur.value, .string s.cur.name]) s.skip e w')) ∧ w'.cell? ⟨gp, 7, none⟩ = w.cell? ⟨gp, 7, none⟩ := by
  refine (take_c7 h.p h.li k hk).mono fun e w' ⟨hp, h7⟩ => ⟨?_, h7⟩
  unfold PS.take at hp
  split at hp
  case isTrue hkk => exact .inr ⟨hkk, hp.2.1, hp.1, h.next hp.1 hp.2.2 h.sz⟩
  case isFalse hkk => exact .inl ⟨hkk, hp.2, h.kpl hp.1⟩
set_option maxRecDepth 100000 in
set_option maxHeartbeats 4000000 in
theorem typed_s7 (h : St bd L gp w0 Li b s w) (hb : b ≤ 999998000)  : Calls Try.prog 45 #[.pointer (some ⟨gp, 0, none⟩)] w (fun e w' => PostY bd L gp w0 Li b w s e w' ∧ w'.cell? ⟨gp, 7, none⟩ = w.cell? ⟨gp, 7, none⟩) := by
  have S0 := Lib.hid (St.start h.p h.li h.sz)
  have H := Lib.hid h
  clear h 
  go_enter Try.func45, Try.ntmps45
  go_wp2_with fail
  refine (kind_s7 S0.out).mono ?_
  rintro e w1 ⟨⟨rfl, hk, hS⟩, h7⟩
  have Q1 := Lib.hid h7
  clear h7
  have S1 := Lib.hid hS
  clear hk hS
  by_cases hm : s.kind = 23
  · have qM1 : (s.kind == 23) = true := by simpa using hm
    have M1 := Lib.hid hm
    clear hm
    have hlt := kind_lt (s := s) (by rw [M1.out]; decide)
    obtain ⟨bt, off, tc, td, nd, fu, lo, be, ne, c0, c1, c2, c3, c4, c5, c6, c7, c8, c9, a0, a1, t0, t1, t2, t3⟩ := S1.out.cellsT hlt
    obtain ⟨n0, n1, n2, n3, n4⟩ := S1.out.nums hlt
    have z2 := S1.out.fz 2
    go_wp2_with fail
    go_ret
    exact ⟨.inr ⟨1, s.at_ + 1, (by first | (simp only [PS.typed, PS.expect, PS.take, bind, Except.bind, pure, Except.pure, if_pos M1.out]; done) | (simp only [PS.typed, PS.expect, PS.take, bind, Except.bind, pure, Except.pure, if_pos M1.out]; rfl) | rfl), H.out.outv (S1.out.skip hlt) _⟩, (World.cell?_setCell_other w1 ⟨gp, 2, none⟩ ⟨gp, 7, none⟩ _ (by simp)).trans Q1.out⟩
  · have qM1 : (s.kind == 23) = false := by simpa using hm
    have M1 := Lib.hid hm
    clear hm
    by_cases hm : s.kind = 24
    · have qM2 : (s.kind == 24) = true := by simpa using hm
      have M2 := Lib.hid hm
      clear hm
      have hlt := kind_lt (s := s) (by rw [M2.out]; decide)
      obtain ⟨bt, off, tc, td, nd, fu, lo, be, ne, c0, c1, c2, c3, c4, c5, c6, c7, c8, c9, a0, a1, t0, t1, t2, t3⟩ := S1.out.cellsT hlt
      obtain ⟨n0, n1, n2, n3, n4⟩ := S1.out.nums hlt
      have z2 := S1.out.fz 2
      go_wp2_with fail
      go_ret
      exact ⟨.inr ⟨2, s.at_ + 1, (by first | (simp only [PS.typed, PS.expect, PS.take, bind, Except.bind, pure, Except.pure, if_neg M1.out, if_pos M2.out]; done) | (simp only [PS.typed, PS.expect, PS.take, bind, Except.bind, pure, Except.pure, if_neg M1.out, if_pos M2.out]; rfl) | rfl), H.out.outv (S1.out.skip hlt) _⟩, (World.cell?_setCell_other w1 ⟨gp, 2, none⟩ ⟨gp, 7, none⟩ _ (by simp)).trans Q1.out⟩
    · have qM2 : (s.kind == 24) = false := by simpa using hm
      have M2 := Lib.hid hm
      clear hm
      go_wp2_with fail
      refine (take_s7 S1.out (44) (by decide)).mono ?_
      rintro e w2 ⟨(⟨hm, rfl, hk⟩ | ⟨hm, rfl, hk, hS⟩), h7⟩
      · exact ⟨rfl, .inl ⟨_, (by first | (simp only [PS.typed, PS.expect, PS.take, bind, Except.bind, if_neg M1.out, if_neg M2.out, if_neg hm]; done) | (simp only [PS.typed, PS.expect, PS.take, bind, Except.bind, pure, Except.pure, if_neg M1.out, if_neg M2.out, if_neg hm]; rfl) | rfl | exact absurd M1.out hm | exact absurd M2.out hm), rfl, (H.out.outk hk)⟩, h7.trans Q1.out⟩
      have Q2 := Lib.hid (h7.trans Q1.out)
      clear h7
      have M3 := Lib.hid hm
      clear hm
      have S2 := Lib.hid hS
      clear hk hS
      go_wp2_with fail
      refine (take_s7 S2.out (45) (by decide)).mono ?_
      rintro e w3 ⟨(⟨hm, rfl, hk⟩ | ⟨hm, rfl, hk, hS⟩), h7⟩
      · exact ⟨rfl, .inl ⟨_, (by first | (simp only [PS.typed, PS.expect, PS.take, bind, Except.bind, pure, Except.pure, if_neg M1.out, if_neg M2.out, if_pos M3.out, if_neg hm]; done) | (simp only [PS.typed, PS.expect, PS.take, bind, Except.bind, pure, Except.pure, if_neg M1.out, if_neg M2.out, if_pos M3.out, if_neg hm]; rfl) | rfl | exact absurd M1.out hm | exact absurd M2.out hm | exact absurd M3.out hm), rfl, (H.out.outk hk)⟩, h7.trans Q2.out⟩
      have Q3 := Lib.hid (h7.trans Q2.out)
      clear h7
      have M4 := Lib.hid hm
      clear hm
      have S3 := Lib.hid hS
      clear hk hS
      go_wp2_with fail
      refine (take_s7 S3.out (23) (by decide)).mono ?_
      rintro e w4 ⟨(⟨hm, rfl, hk⟩ | ⟨hm, rfl, hk, hS⟩), h7⟩
      · exact ⟨rfl, .inl ⟨_, (by first | (simp only [PS.typed, PS.expect, PS.take, bind, Except.bind, pure, Except.pure, if_neg M1.out, if_neg M2.out, if_pos M3.out, if_pos M4.out, if_neg hm]; done) | (simp only [PS.typed, PS.expect, PS.take, bind, Except.bind, pure, Except.pure, if_neg M1.out, if_neg M2.out, if_pos M3.out, if_pos M4.out, if_neg hm]; rfl) | rfl | exact absurd M1.out hm | exact absurd M2.out hm | exact absurd M3.out hm | exact absurd M4.out hm), rfl, (H.out.outk hk)⟩, h7.trans Q3.out⟩
      have Q4 := Lib.hid (h7.trans Q3.out)
      clear h7
      have M5 := Lib.hid hm
      clear hm
      have S4 := Lib.hid hS
      clear hk hS
      go_wp2_with fail
      go_ret
      exact ⟨.inr ⟨3, s.at_ + 1 + 1 + 1, (by first | (simp only [PS.typed, PS.expect, PS.take, bind, Except.bind, pure, Except.pure, if_neg M1.out, if_neg M2.out, if_pos M3.out, if_pos M4.out, if_pos M5.out]; done) | (simp only [PS.typed, PS.expect, PS.take, bind, Except.bind, pure, Except.pure, if_neg M1.out, if_neg M2.out, if_pos M3.out, if_pos M4.out, if_pos M5.out]; rfl) | rfl), H.out.outv S4.out _⟩, Q4.out⟩
end
end Go.Proofs.Ythodjlhjfaccpaa
