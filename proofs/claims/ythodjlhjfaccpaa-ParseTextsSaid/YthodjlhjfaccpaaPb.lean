/- The parser's small methods, more of them: is, fail, take, leave, enter. -/
import Derived.Test.YthodjlhjfaccpaaPa
namespace Go.Proofs.Ythodjlhjfaccpaa
open Go Go.RowKit Mem Pm

section
variable {bd : Nat} {L : List Nat} {gp : Nat} {s : PS} {w : World}
set_option maxRecDepth 100000 in
set_option maxHeartbeats 2000000 in
theorem is_c (h : PInv bd L gp s w) (k : Int) :
    Calls Try.prog 43 #[.pointer (some ⟨gp, 0, none⟩), .int .i64 k] w fun e w' => e = .returned (.bool (s.kind == k)) ∧ Fr w w' := by
  have H := Lib.hid h
  clear h
  go_enter Try.func43, Try.ntmps43
  go_wp2_with fail
  refine (kind_c H.out).mono ?_
  rintro e w' ⟨rfl, hf⟩
  go_wp2_with fail
  go_ret
  exact ⟨rfl, hf⟩

theorem kind_none (ht : s.toks[s.at_]? = none) : s.kind = 0 := by simp [PS.kind, ht]
theorem fault_none (ht : s.toks[s.at_]? = none) : s.fault = (s.en, 41) := by simp [PS.fault, ht]
theorem fault_some {t : Tok} (ht : s.toks[s.at_]? = some t) : s.fault = (t.at_, 40) := by simp [PS.fault, ht]

set_option maxRecDepth 100000 in
set_option maxHeartbeats 4000000 in
theorem fail_c (h : PInv bd L gp s w) :
    Calls Try.prog 52 #[.pointer (some ⟨gp, 0, none⟩)] w fun e w' => e = thrown s.fault ∧ Fr w w' := by
  obtain ⟨ta, tc, td, nd, fu, lo, be, ne, kvs, h⟩ := h
  have hc := pcells h.blk
  have hle := h.at_
  have hnt := h.ntok
  cases ht : s.toks[s.at_]? with
  | none =>
    have hat : s.at_ = s.toks.length := by have := List.getElem?_eq_none_iff.1 ht; omega
    have hq : ((s.at_ : Int) == (s.toks.length : Int)) = true := by simp; omega
    rw [fault_none ht]
    clear ht hat h
    go_enter Try.func52, Try.ntmps52
    go_wp2_with fail
    refine Reg.wp_region_text (by kernel_rfl) (by kernel_rfl) ?_
    go_wp2_with fail
    refine ⟨by kernel_rfl, ?_⟩
    go_wp2_with fail
    exact ⟨rfl, rfl, (Ch.refl _ _).drew⟩
  | some t =>
    have hlt : s.at_ < s.toks.length := (List.getElem?_eq_some_iff.1 ht).1
    obtain ⟨b, off, rfl, hb, t0, t1, t2, t3⟩ := h.tok ht
    have hq : ((s.at_ : Int) == (s.toks.length : Int)) = false := by simp; omega
    have hlti : (s.at_ : Int) < (s.toks.length : Int) := by omega
    have h0 : (0 : Int) ≤ (s.at_ : Int) := by omega
    rw [fault_some ht]
    clear ht h hle
    go_enter Try.func52, Try.ntmps52
    go_wp2_with fail
    refine Reg.wp_region_text (by kernel_rfl) (by kernel_rfl) ?_
    go_wp2_with fail
    refine ⟨by kernel_rfl, ?_⟩
    go_wp2_with fail
    obtain ⟨c0, c1, c2, _⟩ := hc
    refine Reg.wp_region_last (l := [_, _, _, _, _, _, _, _, _, _, _, _, _]) (by kernel_rfl) (by kernel_rfl) (by kernel_rfl) ?_
    go_wp2_with fail
    refine ⟨by kernel_rfl, ?_⟩
    go_wp2_with fail
    exact ⟨rfl, rfl, (Ch.refl _ _).drew.drew⟩

theorem out_lt (h : PInv bd L gp s w) (hL : ∀ k ∈ L, k < w.heap.size) : ∀ k, Out bd L k → k < w.heap.size := fun k hk => hk.elim (fun h1 => by have := h.bd_le; have := h.lt; omega) (hL k)
theorem post_ok {α : Type} {val : α → Value} {v : α} {s' : PS} {e : Ending} {w' : World} (hk : Kp (Out bd L) w w') (he : e = .returned (val v)) (hp : PInv bd L gp s' w') : Post bd L gp w val (.ok (v, s')) e w' := ⟨hk, he, hp⟩
theorem post0_ok {s' : PS} {e : Ending} {w' : World} (hk : Kp (Out bd L) w w') (he : e = .returned (.tuple #[])) (hp : PInv bd L gp s' w') : Post0 bd L gp w (.ok s') e w' := ⟨hk, he, hp⟩
theorem post_err {α : Type} {val : α → Value} {f : Int × Int} {e : Ending} {w' : World} (hk : Kp (Out bd L) w w') (he : e = thrown f) : Post bd L gp w val (.error f) e w' := ⟨hk, he⟩
theorem post0_err {f : Int × Int} {e : Ending} {w' : World} (hk : Kp (Out bd L) w w') (he : e = thrown f) : Post0 bd L gp w (.error f) e w' := ⟨hk, he⟩
theorem kp_fr {w' : World} (h : PInv bd L gp s w) (hL : ∀ k ∈ L, k < w.heap.size) (hf : Fr w w') : Kp (Out bd L) w w' := .of_ch hf (out_lt h hL) fun _ _ => id
theorem kp_gp {w' : World} (h : PInv bd L gp s w) (hL : ∀ k ∈ L, k < w.heap.size) (hf : Ch (fun k => k = gp) w w') : Kp (Out bd L) w w' := .of_ch hf (out_lt h hL) fun k hk he => by
  obtain ⟨ta, tc, td, nd, fu, lo, be, ne, kvs, h⟩ := h
  exact h.out (he ▸ hk)
theorem kp_row {v : Value} {e size n : Nat} {xs : List Value} {w' : World} (h : PInv bd L gp s w) (hL : ∀ k ∈ L, k < w.heap.size) (ho : Own (Out bd L) w e size v n xs) (hf : Ch (fun k => k = gp ∨ v.ownBlock = some k) w w') : Kp (Out bd L) w w' := .of_ch hf (out_lt h hL) fun k hk he => by
  obtain ⟨ta, tc, td, nd, fu, lo, be, ne, kvs, h⟩ := h
  exact he.elim (fun he => h.out (he ▸ hk)) fun he => ho.2 k he hk

set_option maxRecDepth 100000 in
set_option maxHeartbeats 2000000 in
theorem leave_c (h : PInv bd L gp s w) (hs : s.sz ≤ 1000000000) (hL : ∀ k ∈ L, k < w.heap.size) :
    Calls Try.prog 60 #[.pointer (some ⟨gp, 0, none⟩)] w (Post0 bd L gp w (.ok s.leave)) := by
  have Hp := Lib.hid h
  obtain ⟨ta, tc, td, nd, fu, lo, be, ne, kvs, h⟩ := h
  have hc := pcells h.blk
  have ho : (-1000000000 : Int) ≤ s.open_ ∧ s.open_ ≤ 1000000000 := by unfold PS.sz at hs; omega
  have hz8 := h.blk.frozen 8
  obtain ⟨ho1, ho2⟩ := ho
  have H := Lib.hid h
  have HL := Lib.hid hL
  clear h hs hL
  go_enter Try.func60, Try.ntmps60
  go_wp2_with fail
  go_end0
  have hch : Ch (fun k => k = gp) w (w.setCell ⟨gp, 8, none⟩ (.int .i64 (s.open_ - 1))) := Ch.setCell (S := fun k => k = gp) (p := ⟨gp, 8, none⟩) (Ch.refl _ _) rfl _
  exact post0_ok (kp_gp Hp.out HL.out hch) rfl ⟨_, _, _, _, _, _, _, _, _, H.out.upd0 hch H.out.at_ (H.out.blk.set_ 8 _)⟩

set_option maxRecDepth 100000 in
set_option maxHeartbeats 4000000 in
theorem take_c (h : PInv bd L gp s w) (hL : ∀ k ∈ L, k < w.heap.size) (k : Int) (hk : k ≠ 0) :
    Calls Try.prog 41 #[.pointer (some ⟨gp, 0, none⟩), .int .i64 k] w (Post bd L gp w tokV (s.take k)) := by
  by_cases hkk : s.kind = k
  · have hq : (s.kind == k) = true := by simpa using hkk
    have ht : ∃ t, s.toks[s.at_]? = some t := by
      cases ht : s.toks[s.at_]? with
      | some t => exact ⟨t, rfl⟩
      | none => rw [kind_none ht] at hkk; exact absurd hkk.symm hk
    obtain ⟨t, ht⟩ := ht
    have hlt : s.at_ < s.toks.length := (List.getElem?_eq_some_iff.1 ht).1
    have hcur : s.cur = t := by simp [PS.cur, ht]
    have Ht := Lib.hid (show s.take k = .ok (t, s.skip) by unfold PS.take; rw [if_pos hkk, hcur])
    have H := Lib.hid h
    have HL := Lib.hid hL
    have Hg := Lib.hid ht
    have hnt : s.toks.length ≤ 1000000000 := by obtain ⟨ta, tc, td, nd, fu, lo, be, ne, kvs, h⟩ := h; exact h.ntok
    have hgs := h.lt
    clear h hL ht hcur hkk
    go_enter Try.func41, Try.ntmps41
    go_wp2_with fail
    refine (is_c (H.out.local_ _) k).mono ?_
    rintro e w' ⟨rfl, hf⟩
    have h1 := (H.out.local_ (.cells #[.int .i64 0, .int .i64 0, .int .i64 0, .string ⟨#[]⟩] 48)).fr hf
    obtain ⟨ta, tc, td, nd, fu, lo, be, ne, kvs, h1⟩ := h1
    have hc := pcells h1.blk
    obtain ⟨b, off, rfl, hb, t0, t1, t2, t3⟩ := h1.tok Hg.out
    have hx : Blk w' w.heap.size 48 [.int .i64 0, .int .i64 0, .int .i64 0, .string ⟨#[]⟩] := (Blk.new w 48 _).ch hf id
    have x0 : w'.cell? ⟨w.heap.size, 0, none⟩ = some (.int .i64 0) := hx.cell 0
    have x1 : w'.cell? ⟨w.heap.size, 1, none⟩ = some (.int .i64 0) := hx.cell 1
    have x2 : w'.cell? ⟨w.heap.size, 2, none⟩ = some (.int .i64 0) := hx.cell 2
    have x3 : w'.cell? ⟨w.heap.size, 3, none⟩ = some (.string ⟨#[]⟩) := hx.cell 3
    have z0 := hx.frozen 0
    have z1 := hx.frozen 1
    have z2 := hx.frozen 2
    have z3 := hx.frozen 3
    have zp := h1.blk.frozen 2
    have hne : w.heap.size ≠ gp := by omega
    have hbg : b ≠ gp := by have := h1.bd_le; omega
    have hbw : b ≠ w.heap.size := by have := h1.bd_le; omega
    have hlt2 : (s.at_ : Int) < (s.toks.length : Int) := by omega
    have hw1 : ((s.at_ : Int) + 1 - 1).toNat = s.at_ := by omega
    have H1 := Lib.hid h1
    have Hx := Lib.hid hx
    clear h1 hx
    go_wp2_with fail
    refine Reg.wp_region_text (by kernel_rfl) (by kernel_rfl) ?_
    go_wp2_with fail
    refine ⟨by kernel_rfl, ?_⟩
    go_wp2_with fail
    have hbs := H1.out.bd_le
    have P1 := H1.out.upd0 (a' := s.at_ + 1) (o' := s.open_) (Ch.setCell (S := fun k => k = gp) (p := ⟨gp, 2, none⟩) (Ch.refl _ _) rfl (.int .i64 ((s.at_ : Int) + 1))) (by omega) (H1.out.blk.set_ 2 (.int .i64 ((s.at_ : Int) + 1)))
    have P2 := P1.ch (S := fun k => k = w.heap.size) (((((Ch.refl (fun k => k = w.heap.size) _).setCell (p := ⟨w.heap.size, 0, none⟩) rfl (.int .i64 t.kind)).setCell (p := ⟨w.heap.size, 1, none⟩) rfl (.int .i64 t.at_)).setCell (p := ⟨w.heap.size, 2, none⟩) rfl (.int .i64 t.value)).setCell (p := ⟨w.heap.size, 3, none⟩) rfl (.string t.name)).drew
      (fun k hk => ⟨by omega, by simp [hk]⟩)
    have C1 : Ch (fun k => k = gp ∨ k = w.heap.size) w' _ := ((((((Ch.refl _ w').setCell (p := ⟨gp, 2, none⟩) (.inl rfl) (.int .i64 ((s.at_ : Int) + 1))).setCell (p := ⟨w.heap.size, 0, none⟩) (.inr rfl) (.int .i64 t.kind)).setCell (p := ⟨w.heap.size, 1, none⟩) (.inr rfl) (.int .i64 t.at_)).setCell (p := ⟨w.heap.size, 2, none⟩) (.inr rfl) (.int .i64 t.value)).setCell (p := ⟨w.heap.size, 3, none⟩) (.inr rfl) (.string t.name)).drew
    refine bodyPost_ret (v := tokV t) (by simp [results, Try.results41, go_sem, x0, x1, x2, x3, tokV]) rfl ?_
    rw [Ht.out]
    refine post_ok ?_ rfl (PInv.drop ⟨_, _, _, _, _, _, _, _, _, P2⟩ (fun k hk => List.mem_cons_of_mem _ hk))
    refine kp_gp H.out HL.out ?_
    have C0 : Ch (fun k => k = gp) w w' := ((Ch.refl _ _).alloc _).trans (hf.mono fun _ => False.elim)
    exact ⟨C1.os.trans C0.os, C1.tape.trans C0.tape, C1.output.trans C0.output, Nat.le_trans C0.size C1.size, fun k hk hs => (C1.block k (Nat.lt_of_lt_of_le hk C0.size) (by rintro (h1 | h1) <;> omega)).trans (C0.block k hk hs)⟩
  · have hq : (s.kind == k) = false := by simpa using hkk
    have Ht := Lib.hid (show s.take k = .error s.fault by unfold PS.take; rw [if_neg hkk])
    have H := Lib.hid h
    have HL := Lib.hid hL
    clear h hL hkk
    go_enter Try.func41, Try.ntmps41
    go_wp2_with fail
    refine (is_c (H.out.local_ _) k).mono ?_
    rintro e w' ⟨rfl, hf⟩
    go_wp2_with fail
    refine (fail_c ((H.out.local_ _).fr hf)).mono ?_
    rintro e w2 ⟨rfl, hf2⟩
    refine ⟨rfl, ?_⟩
    rw [Ht.out]
    exact post_err (kp_fr H.out HL.out (((Ch.refl _ _).alloc _).trans (hf.trans hf2))) rfl
end
end Go.Proofs.Ythodjlhjfaccpaa
