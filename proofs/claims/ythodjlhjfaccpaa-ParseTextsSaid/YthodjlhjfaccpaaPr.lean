/- functionEnd. -/
import Derived.Test.YthodjlhjfaccpaaPq
set_option linter.unusedVariables false
set_option linter.unusedSimpArgs false
namespace Go.Proofs.Ythodjlhjfaccpaa
open Go Go.RowKit Mem Pm

theorem begsC_cons (n : Nd) (f : Nat) (r : List (Nd × Nat)) : begsC ((n, f) :: r) = begsC r ++ begC (n, f) := by simp [begsC]
theorem begsC_len : ∀ r : List (Nd × Nat), (begsC r).length = r.length * 11
  | [] => rfl
  | (n, f) :: r => by rw [begsC_cons, List.length_append, begsC_len r]; simp [begC, ndC]; omega
theorem begsC_set (n n' : Nd) (f : Nat) (r : List (Nd × Nat)) (j : Nat) (u : Value) (h : begC (n', f) = (begC (n, f)).set j u) : begsC ((n', f) :: r) = (begsC ((n, f) :: r)).set (r.length * 11 + j) u := by
  rw [begsC_cons, begsC_cons, h, List.set_append_right _ _ (by rw [begsC_len]; omega), begsC_len]
  congr 2
  omega

section
variable {bd : Nat} {L Li : List Nat} {gp b b' : Nat} {s s' : PS} {w0 w w' : World}

/-- The node that was begun last is changed, in one cell. -/
theorem St.topSet (h : St bd L gp w0 Li b s w) {n n' : Nd} {f : Nat} {r : List (Nd × Nat)} (hbe : s.begun = (n, f) :: r) {gb capb : Nat} {j : Nat} {u : Value} (hu : begC (n', f) = (begC (n, f)).set j u)
    (hc : w.cell? ⟨gp, 7, none⟩ = some (.slice (some ⟨gb, 0, none⟩) s.begun.length capb)) : St bd L gp w0 Li b { s with begun := (n', f) :: r } (w.setCell ⟨gb, r.length * 11 + j, none⟩ u) := by
  obtain ⟨ta, tc, td, nd, fu, lo, be, ne, kvs, hp⟩ := h.p
  have hbv : be = .slice (some ⟨gb, 0, none⟩) s.begun.length capb := by
    have := (pcells hp.blk).2.2.2.2.2.2.2.1
    rw [this] at hc; injection hc
  subst hbv
  have hch : Ch (fun k => k = gp ∨ (Value.slice (some ⟨gb, 0, none⟩) s.begun.length capb).ownBlock = some k) w (w.setCell ⟨gb, r.length * 11 + j, none⟩ u) := Ch.setCell (S := fun k => k = gp ∨ (Value.slice (some ⟨gb, 0, none⟩) s.begun.length capb).ownBlock = some k) (p := ⟨gb, r.length * 11 + j, none⟩) (Ch.refl _ _) (.inr rfl) _
  have hgg : gb ≠ gp := fun he => hp.begun.ne_blk hp.blk (by decide) (he ▸ rfl)
  refine h.next (kp_row h.p h.li hp.begun hch) ⟨ta, tc, td, nd, fu, lo, _, ne, kvs, hp.updBegun (l := (n', f) :: r) hch (hp.blk.far (p := ⟨gb, r.length * 11 + j, none⟩) (fun he => hgg he.symm) u) ?_⟩ ?_
  · have h1 := hp.begun.set_ (g := gb) rfl (r.length * 11 + j) u
    rw [begsC_set n n' f r j u hu, ← hbe]
    have h2 : ((n', f) :: r).length = s.begun.length := by rw [hbe]; rfl
    rw [h2]
    exact h1
  · have := h.sz
    simp only [PS.sz, hbe, List.length_cons] at this ⊢
    omega

/-- What the walk of a begun node's cell wants. -/
theorem St.top (h : St bd L gp w0 Li b s w) {n : Nd} {f : Nat} {r : List (Nd × Nat)} (hbe : s.begun = (n, f) :: r) :
    ∃ gb capb, w.cell? ⟨gp, 7, none⟩ = some (.slice (some ⟨gb, 0, none⟩) s.begun.length capb) ∧ gb ≠ gp ∧ gp ≠ gb ∧ (∀ j u, (begC (n, f))[j]? = some u → w.cell? ⟨gb, r.length * 11 + j, none⟩ = some u) ∧ ∀ j, w.frozen? ⟨gb, j, none⟩ = false := by
  obtain ⟨ta, tc, td, nd, fu, lo, be, ne, kvs, hp⟩ := h.p
  obtain ⟨ab, capb, rfl, hcapb, hgb⟩ := hp.begun.form
  obtain ⟨gb, rfl, hgbo⟩ := hgb (by rw [hbe]; simp)
  have hgg : gb ≠ gp := fun he => hp.begun.ne_blk hp.blk (by decide) (he ▸ hgbo)
  refine ⟨gb, capb, (pcells hp.blk).2.2.2.2.2.2.2.1, hgg, fun he => hgg he.symm, fun j u hu => ?_, fun j => hp.begun.frozen hgbo j⟩
  refine hp.begun.cell hgbo ?_
  rw [hbe, begsC_cons, ← begsC_len, List.getElem?_append_right (by omega), Nat.add_sub_cancel_left]
  exact hu

set_option maxRecDepth 100000 in
set_option maxHeartbeats 4000000 in
theorem functionEnd_s (h : St bd L gp w0 Li b s w) (hb : b ≤ 999990000) (hd : ∃ n f r, s.begun = (n, f) :: r ∧ f ≤ s.loose.length) (hat : 1 ≤ s.at_) :
    Calls Try.prog 47 #[.pointer (some ⟨gp, 0, none⟩)] w (PostM bd L gp w0 Li (b + 60) w (.ok s.functionEnd)) := by
  obtain ⟨n, f, r, hbe, hf⟩ := hd
  have S0 := Lib.hid (St.start h.p h.li h.sz)
  have H := Lib.hid h
  obtain ⟨gb, capb, c7', hgg, hgg2, hbc, hbz⟩ := h.top hbe
  have hlen : s.at_ - 1 < s.toks.length := by have := h.ntok; omega
  have ht : s.toks[s.at_ - 1]? = some s.toks[s.at_ - 1] := List.getElem?_eq_getElem hlen
  have Hm := Lib.hid (show s.functionEnd = (let s1 : PS := ({ s with begun := ({ n with close := s.toks[s.at_ - 1].at_ }, f) :: r } : PS).done; { s1 with funcs := s1.funcs ++ [(s1.nodes.length : Int) - 1], loose := [] }) by
    unfold PS.functionEnd PS.top
    rw [hbe]
    simp only [List.getD_eq_getElem?_getD, ht, Option.getD_some])
  generalize s.toks[s.at_ - 1] = t at ht Hm
  have hcells : ∃ bt off tc td nd fu lo ne, w.cell? ⟨gp, 0, none⟩ = some (.slice (some ⟨bt, off, none⟩) s.toks.length tc) ∧ w.cell? ⟨gp, 2, none⟩ = some (.int .i64 s.at_) ∧ w.cell? ⟨gp, 3, none⟩ = some td ∧ w.cell? ⟨gp, 4, none⟩ = some nd ∧ w.cell? ⟨gp, 5, none⟩ = some fu ∧ w.cell? ⟨gp, 6, none⟩ = some lo ∧ w.cell? ⟨gp, 9, none⟩ = some ne ∧ w.cell? ⟨bt, off + (s.at_ - 1) * 4 + 1, none⟩ = some (.int .i64 t.at_) := by
    obtain ⟨ta, tc, td, nd, fu, lo, be, ne, kvs, hp⟩ := h.p
    obtain ⟨c0, c1, c2, c3, c4, c5, c6, c7, c8, c9⟩ := pcells hp.blk
    obtain ⟨bt, off, rfl, _, h1, h2, _⟩ := hp.tok ht
    exact ⟨bt, off, tc, _, _, _, _, _, c0, c2, c3, c4, c5, c6, c9, h2⟩
  obtain ⟨bt, off, tc, td, nd, fu, lo, ne, c0, c2, c3, c4, c5, c6, c9, k1⟩ := hcells
  have hbl : s.begun.length = r.length + 1 := by rw [hbe]; rfl
  have hi0 : (0 : Int) ≤ (s.begun.length : Int) - 1 := by omega
  have hi1 : (s.begun.length : Int) - 1 < (s.begun.length : Int) := by omega
  have hi2 : ((s.begun.length : Int) - 1).toNat = r.length := by omega
  have hnt := h.ntok
  have hnb : s.begun.length ≤ 1000000000 := by have := h.sz; unfold PS.sz at this; omega
  have hj0 : (0 : Int) ≤ (s.at_ : Int) - 1 := by omega
  have hj1 : (s.at_ : Int) - 1 < (s.toks.length : Int) := by omega
  have hj2 : ((s.at_ : Int) - 1).toNat = s.at_ - 1 := by omega
  have hj3 : (s.at_ : Int) ≤ 1000000000 := by omega
  have b3 := hbc 3 _ rfl
  have z3 := hbz (r.length * 11 + 3)
  have Hc7 := Lib.hid c7'
  have Hbe := Lib.hid hbe
  have Hf := Lib.hid hf
  clear h hbe hf hbc hbz ht hlen hnt hat
  go_enter Try.func47, Try.ntmps47
  go_wp2_with fail
  refine Reg.wp_region_text (by kernel_rfl) (by kernel_rfl) ?_
  go_wp2_with fail
  refine ⟨by kernel_rfl, ?_⟩
  go_wp2_with fail
  refine (done_s (S0.out.topSet Hbe.out (n' := { n with close := t.at_ }) (j := 3) (u := .int .i64 t.at_) rfl Hc7.out).drew (by omega) ⟨_, _, _, rfl, Hf.out⟩).mono ?_
  rintro e w2 ⟨rfl, hk, hS⟩
  have S2 := Lib.hid hS
  clear hk hS c7' c0 c2 c3 c4 c5 c6 c9 k1 hi0 hi1 hi2 hj0 hj1 hj2 hj3 b3 z3 hgg hgg2 hbl hnb
  have HM : ∃ s1, s1 = PS.done { s with begun := ({ n with close := t.at_ }, f) :: r } := ⟨_, rfl⟩
  obtain ⟨s1, hs1⟩ := HM
  have Hm2 := Lib.hid (Hm.out.trans (by rw [← hs1]) : s.functionEnd = { s1 with funcs := s1.funcs ++ [(s1.nodes.length : Int) - 1], loose := [] })
  rw [← hs1] at S2
  clear hs1 Hm
  obtain ⟨ta, tc, td, nd, fu, lo, be, ne, kvs, hp⟩ := S2.out.p
  obtain ⟨an, capn, rfl, _, _⟩ := hp.nodes.form
  have hc := pcells hp.blk
  have z5 := hp.blk.frozen 5
  have hsz := S2.out.sz
  have hn1 : s1.nodes.length ≤ 1000000000 ∧ s1.funcs.length ≤ 1000000000 ∧ s1.loose.length ≤ 1000000000 := by unfold PS.sz at hsz; omega
  obtain ⟨hn1, hn2, hn3⟩ := hn1
  have hgs := hp.blk.lt
  have hgs2 : gp ≠ w2.heap.size := by omega
  have HP := Lib.hid hp
  obtain ⟨i0, hi0, hz0, hz1, hz2⟩ := info_parts infoInt
  clear hp hsz
  go_wp2_with fail
  refine Reg.wp_region_text (by kernel_rfl) (by kernel_rfl) ?_
  go_wp2_with (at_builtin; refine wp_push rfl _ _ 33 rfl 3 i0 _ 1 8 (by kernel_rfl) hi0 hz0 hz1 hz2 rfl (Nat.succ_pos _) (Nat.le_of_ble_eq_true rfl) (Out bd Li) fu s1.funcs.length (ints s1.funcs) [.int .i64 ((s1.nodes.length : Int) - 1)] w2.heap.size rfl rfl rfl rfl hn2 ?c1 ?c2 ?c3 ?_)
  case c1 => exact HP.out.funcs.drew.alloc _
  case c2 => exact fun k hk => Nat.lt_of_lt_of_le (out_lt S2.out.p S2.out.li k hk) (by simp)
  case c3 => exact heap_alloc_new w2.drew _
  intro v1 w3 hown1 hch hat
  obtain ⟨a1, cap1, rfl, _, _⟩ := hown1.form
  have hch0 := ((Ch.refl (fun k => fu.ownBlock = some k) w2).drew.alloc (.cells #[.int .i64 ((s1.nodes.length : Int) - 1)] 3)).trans hch
  have hb1 := HP.out.blk.ch hch0 (HP.out.funcs.ne_blk HP.out.blk (by decide))
  have hc1 := pcells hb1
  have z51 := hb1.frozen 5
  have Hb1 := Lib.hid hb1
  have Hch0 := Lib.hid hch0
  have Hown1 := Lib.hid hown1
  have Hat := Lib.hid hat
  clear hc z5 hb1 hch0 hown1 hch hat
  go_wp2_with fail
  refine ⟨by kernel_rfl, ?_⟩
  generalize hw4 : World.setCell w3 _ _ = w4
  have hch34 : Ch (fun k => k = gp) w3 w4 := by rw [← hw4]; exact Ch.setCell (S := fun k => k = gp) (p := ⟨gp, 5, none⟩) (Ch.refl _ _) rfl _
  have P1 := HP.out.updFuncs (fu' := .slice a1 (s1.funcs.length + 1) cap1) (l := s1.funcs ++ [(s1.nodes.length : Int) - 1]) ((Hch0.out.mono fun _ => Or.inr).trans (hch34.mono fun _ => Or.inl)) (by rw [← hw4]; exact Hb1.out.set_ 5 _) (by
    have h1 := Hown1.out.ch hch34 (fun g hg he => Hown1.out.ne_blk Hb1.out (by decide) (he ▸ hg))
    simpa [ints] using h1) (by
    rcases Hat.out with h1 | h1
    · exact .inl h1
    · exact .inr fun g hg => by have := h1 g hg; omega)
  have S4 := Lib.hid (S2.out.next (b' := b + 2 + 1) (kp_row S2.out.p S2.out.li HP.out.funcs ((Hch0.out.mono fun _ => Or.inr).trans (hch34.mono fun _ => Or.inl))) ⟨_, _, _, _, _, _, _, _, _, P1⟩ (by have := S2.out.sz; simp only [PS.sz, List.length_append, List.length_cons, List.length_nil] at this ⊢; omega))
  clear hw4 hch34 hc1 z51
  rcases P1.loose.form2 with ⟨hl, hl0⟩ | ⟨gl, cl, hl, hlc, hgl⟩
  all_goals
    subst hl
    have hc := pcells P1.blk
    have z6 := P1.blk.frozen 6
    have HP1 := Lib.hid P1
    clear P1
    try clear hl0
    try clear hlc
    go_wp2_with fail
    first | (refine Reg.wp_region_text (by kernel_rfl) (by kernel_rfl) ?_; go_wp2_with fail; refine ⟨by kernel_rfl, ?_⟩) | skip
    go_end0
    rw [Hm2.out]
    refine .ok (H.out.out (St.le (Li := Li) (b := b + 3) ?_ (by omega))) rfl
    have hfin : ∀ (v : Value) (w5 : World), Ch (fun k => k = gp) w4 w5 → PI bd Li gp { s1 with funcs := s1.funcs ++ [(s1.nodes.length : Int) - 1], loose := [] } w5 ta tc td (.slice an s1.nodes.length capn) (.slice a1 (s1.funcs.length + 1) cap1) v be ne kvs → St bd Li gp w Li (b + 3) { s1 with funcs := s1.funcs ++ [(s1.nodes.length : Int) - 1], loose := [] } w5 := fun v w5 hch hP =>
      S4.out.next (kp_gp S4.out.p S4.out.li hch) ⟨_, _, _, _, _, _, _, _, _, hP⟩ (by have := S4.out.sz; simp only [PS.sz, List.length_nil] at this ⊢; omega)
    have hch : ∀ v, Ch (fun k => k = gp) w4 (w4.setCell ⟨gp, 6, none⟩ v) := fun v => Ch.setCell (S := fun k => k = gp) (p := ⟨gp, 6, none⟩) (Ch.refl _ _) rfl v
    have hown : ∀ (v : Value), Own (Out bd Li) w4 3 1 v 0 [] → Own (Out bd Li) (w4.setCell ⟨gp, 6, none⟩ v) 3 1 v 0 [] := fun v ho => ho.ch (hch v) (fun g hg he => ho.ne_blk HP1.out.blk (by decide) (he ▸ hg))
    first
      | exact hfin _ _ (hch _) (HP1.out.updLoose (lo' := .slice none 0 0) (l := []) ((hch _).mono fun _ => Or.inl) (HP1.out.blk.set_ 6 _) (hown _ (Own.nil _ _ _ _)) (.inl rfl))
      | exact hfin _ _ (hch _) (HP1.out.updLoose (l := []) ((hch _).mono fun _ => Or.inl) (HP1.out.blk.set_ 6 _) (hown _ (by have h1 := HP1.out.loose.cut (k := 0) (Nat.zero_le _); simpa [ints] using h1)) (.inl rfl))
end
end Go.Proofs.Ythodjlhjfaccpaa
