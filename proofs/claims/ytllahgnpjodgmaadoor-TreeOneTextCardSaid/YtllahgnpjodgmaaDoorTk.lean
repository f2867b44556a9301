/- tree.kids of ifs. -/
import Derived.Test.YtllahgnpjodgmaaDoorT4
set_option linter.unusedVariables false
namespace Go.Proofs.YtllahgnpjodgmaaDoor
open Go Go.RowKit Mem Pm

theorem rdS_tail {w : World} {g off c n : Nat} {l : List Int} (h : RdS w (.slice (some ⟨g, off, none⟩) l.length c) l.length (ints l)) (hn : n ≤ l.length) : RdS w (.slice (some ⟨g, off + n, none⟩) (l.drop n).length (c - n)) (l.drop n).length (ints (l.drop n)) := by
  obtain ⟨a0, c0, he, hc, hr⟩ := h
  injection he with h1 _ h3
  subst h1 h3
  have hl : (l.drop n).length = l.length - n := List.length_drop ..
  refine ⟨_, _, rfl, by omega, fun hne => ?_⟩
  obtain ⟨g', off', h1, h2⟩ := hr (fun h0 => hne (by
    have : l = [] := by have := ints_len l; rw [h0] at this; exact List.eq_nil_of_length_eq_zero this.symm
    rw [this]; simp [ints]))
  injection h1 with h1
  injection h1 with h3 h4 _
  subst h3 h4
  refine ⟨g, off + n, rfl, fun j u hu => ?_⟩
  rw [Nat.add_assoc]
  refine h2 (n + j) u ?_
  unfold ints at hu ⊢
  rw [List.getElem?_map] at hu ⊢
  rw [List.getElem?_drop] at hu
  exact hu
set_option maxRecDepth 100000 in
set_option maxHeartbeats 8000000 in
theorem kids_10 (k : Int) (l : List Int) (v : Value) (w : World) (hr : RdS w v l.length (ints l)) (hl : l.length ≤ 9223372036854775807) (hk : k = 10) :
    Calls Tryd.prog 38 #[.int .i64 k, v] w fun e w' => e = .returned (.bool (Tm.kidsOk k l)) ∧ Fr w w' := by
  obtain ⟨a, c, rfl, hc, hf, hr0, hcb⟩ := kids_pre hr
  subst hk
  have HFr := Lib.hid hf
  by_cases h12 : l.length = 2 ∨ l.length = 3
  case neg =>
    have e1 : ((l.length : Int) == 2) = false := beq_eq_false_iff_ne.2 (by omega)
    have e2 : ((l.length : Int) == 3) = false := beq_eq_false_iff_ne.2 (by omega)
    have hfin : Tm.kidsOk 10 l = false := by
      show ((l.length == 2 || l.length == 3) && Tm.isE (l.headD 0) && l.getD 1 0 == 3 && (l.drop 2).all (fun x => x == 3 || x == 10)) = false
      have : (l.length == 2 || l.length == 3) = false := by simp; omega
      rw [this, Bool.false_and, Bool.false_and, Bool.false_and]
    have HFin := Lib.hid hfin
    clear hfin h12 hr hr0 hf
    go_enter Tryd.func38, Tryd.ntmps38
    go_wp2_with fail
    refine Reg.wp_region_text (by kernel_rfl) (by kernel_rfl) ?_
    go_wp2_with fail
    refine ⟨by kernel_rfl, ?_⟩
    go_wp2_with fail
    go_ret
    exact ⟨by rw [HFin.out]; rfl, HFr.out.drew⟩
  case pos =>
  obtain ⟨x, y, ps, rfl⟩ : ∃ x y ps, l = x :: y :: ps := by
    match l, h12 with
    | x :: y :: ps, _ => exact ⟨x, y, ps, rfl⟩
    | [], h => simp at h
    | [x], h => simp at h
  obtain ⟨g, off, rfl, c1⟩ := rdS_int hr0 (i := 0) (x := x) rfl
  rw [Nat.add_zero] at c1
  obtain ⟨g', off', hg', c2⟩ := rdS_int hr0 (i := 1) (x := y) rfl
  injection hg' with hg'
  injection hg' with hg1 hg2 _
  subst hg1 hg2
  have hfr := rdS_tail (n := 2) hr0 (by simp)
  have hfin : Tm.kidsOk 10 (x :: y :: ps) = (Tm.isE x && y == 3 && ps.all (fun x => x == 3 || x == 10)) := by
    show (((x :: y :: ps).length == 2 || (x :: y :: ps).length == 3) && Tm.isE ((x :: y :: ps).headD 0) && (x :: y :: ps).getD 1 0 == 3 && ((x :: y :: ps).drop 2).all (fun x => x == 3 || x == 10)) = _
    have : ((x :: y :: ps).length == 2 || (x :: y :: ps).length == 3) = true := by simpa using h12
    rw [this, Bool.true_and]
    rfl
  have hL : (x :: y :: ps).length = ps.length + 2 := rfl
  have hd : (x :: y :: ps).drop 2 = ps := rfl
  rw [hd] at hfr
  have HFin := Lib.hid hfin
  have HR := Lib.hid hfr
  have HCb := Lib.hid hcb
  generalize hN : (x :: y :: ps).length = N at *
  have i1 : (0 : Int) < (N : Int) := by omega
  have i2 : (1 : Int) < (N : Int) := by omega
  have i3 : (2 : Int) ≤ (N : Int) := by omega
  have i5 : (N : Int) ≤ (c : Int) := by omega
  have i6 : 2 ≤ N := by omega
  have hps : ps.length ≤ 9223372036854775807 := by omega
  have i8 : N - 2 = ps.length := by omega
  have hor : (((N : Int) == 2) = true) ∨ (((N : Int) == 2) = false ∧ ((N : Int) == 3) = true) := by
    rcases h12 with h | h
    · exact .inl (beq_iff_eq.2 (by omega))
    · exact .inr ⟨beq_eq_false_iff_ne.2 (by omega), beq_iff_eq.2 (by omega)⟩
  have H8 := Lib.hid i8
  clear hr hr0 hfin hf hfr hN hL h12 i8 hd
  rcases hor with e1 | ⟨e1, e2⟩
  all_goals
    cases hxE : Tm.isE x with
    | false =>
      go_enter Tryd.func38, Tryd.ntmps38
      go_wp2_with fail
      refine Reg.wp_region_text (by kernel_rfl) (by kernel_rfl) ?_
      go_wp2_with (go_at_call 57; refine (isE_c _ _).mono ?_; rintro e w' ⟨rfl, rfl⟩)
      refine ⟨by kernel_rfl, ?_⟩
      go_wp2_with fail
      go_ret
      exact ⟨by rw [HFin.out, hxE]; rfl, HFr.out.drew⟩
    | true =>
      cases hy : y == 3 with
      | false =>
        go_enter Tryd.func38, Tryd.ntmps38
        go_wp2_with fail
        refine Reg.wp_region_text (by kernel_rfl) (by kernel_rfl) ?_
        go_wp2_with (first | (go_at_call 57; refine (isE_c _ _).mono ?_; rintro e w' ⟨rfl, rfl⟩) | (go_at_call 61; refine (kids2_c _ _).mono ?_; rintro e w' ⟨rfl, rfl⟩))
        refine ⟨by kernel_rfl, ?_⟩
        go_wp2_with fail
        go_ret
        exact ⟨by rw [HFin.out, hxE, hy]; rfl, HFr.out.drew⟩
      | true =>
        go_enter Tryd.func38, Tryd.ntmps38
        go_wp2_with fail
        refine Reg.wp_region_text (by kernel_rfl) (by kernel_rfl) ?_
        go_wp2_with (first | (go_at_call 57; refine (isE_c _ _).mono ?_; rintro e w' ⟨rfl, rfl⟩) | (go_at_call 61; refine (kids2_c _ _).mono ?_; rintro e w' ⟨rfl, rfl⟩))
        · have hN2 : N - 2 = 0 := by omega
          have h0 : ps = [] := List.eq_nil_of_length_eq_zero (by have := H8.out; omega)
          have hrd : RdS (w.alloc (.cells #[.func (.func 61) #[] #[]] 80)).drew (.slice (some ⟨g, off, none⟩) (N - 2) 0) ps.length (ints ps) := by rw [h0, hN2]; exact ⟨_, _, rfl, Nat.le_refl _, fun h => absurd rfl h⟩
          clear hN2 h0
          refine (all_c ps (.slice (some ⟨g, off, none⟩) (N - 2) 0) _ (fun x => x == 3 || x == 10) _ hrd hps (.inr (.inr (.inr ⟨_, rfl, HCb.out, rfl⟩)))).mono ?_
          rintro e w' ⟨rfl, hf2⟩
          have HF2 := Lib.hid (HFr.out.drew.trans hf2)
          clear hf2
          go_wp2_with fail
          refine ⟨by kernel_rfl, ?_⟩
          go_wp2_with fail
          go_ret
          exact ⟨by rw [HFin.out, hxE, hy]; rfl, HF2.out⟩
        · have hrd : RdS (w.alloc (.cells #[.func (.func 61) #[] #[]] 80)).drew (.slice (some ⟨g, off + 2, none⟩) (N - 2) (c - 2)) ps.length (ints ps) := by rw [H8.out]; exact HR.out.fr (Ch.refl _ _).drew
          refine (all_c ps (.slice (some ⟨g, off + 2, none⟩) (N - 2) (c - 2)) _ (fun x => x == 3 || x == 10) _ hrd hps (.inr (.inr (.inr ⟨_, rfl, HCb.out, rfl⟩)))).mono ?_
          rintro e w' ⟨rfl, hf2⟩
          have HF2 := Lib.hid (HFr.out.drew.trans hf2)
          clear hf2
          go_wp2_with fail
          refine ⟨by kernel_rfl, ?_⟩
          go_wp2_with fail
          go_ret
          exact ⟨by rw [HFin.out, hxE, hy]; rfl, HF2.out⟩
end Go.Proofs.YtllahgnpjodgmaaDoor
