/- tree.kids of functions, ifs and loops. -/
import Derived.Test.YtllahgnpjodgmaaDoorT4
set_option linter.unusedVariables false
namespace Go.Proofs.YtllahgnpjodgmaaDoor
open Go Go.RowKit Mem Pm

theorem rdS_front {w : World} {a : Option Addr} {c n : Nat} {l : List Int} (h : RdS w (.slice a l.length c) l.length (ints l)) (hn : n ≤ l.length) : RdS w (.slice a (l.take n).length c) (l.take n).length (ints (l.take n)) := by
  obtain ⟨a0, c0, he, hc, hr⟩ := h
  injection he with h1 _ h3
  subst h1 h3
  have hl : (l.take n).length = n := by rw [List.length_take]; omega
  refine ⟨a, c, rfl, by omega, fun hne => ?_⟩
  obtain ⟨g, off, h1, h2⟩ := hr (fun h0 => hne (by
    have : l = [] := by have := ints_len l; rw [h0] at this; exact List.eq_nil_of_length_eq_zero this.symm
    rw [this]; simp [ints]))
  refine ⟨g, off, h1, fun j u hu => h2 j u ?_⟩
  have hj : j < (l.take n).length := by have := (List.getElem?_eq_some_iff.1 hu).1; rwa [ints_len] at this
  unfold ints at hu ⊢
  rw [List.getElem?_map] at hu ⊢
  rw [List.getElem?_take_of_lt (by omega)] at hu
  exact hu

set_option maxRecDepth 100000 in
set_option maxHeartbeats 8000000 in
theorem kids_1 (k : Int) (l : List Int) (v : Value) (w : World) (hr : RdS w v l.length (ints l)) (hl : l.length ≤ 9223372036854775807) (hk : k = 1) :
    Calls Tryd.prog 38 #[.int .i64 k, v] w fun e w' => e = .returned (.bool (Tm.kidsOk k l)) ∧ Fr w w' := by
  obtain ⟨a, c, rfl, hc, hf, hr0, hcb⟩ := kids_pre hr
  subst hk
  by_cases hlen : l = []
  · subst hlen
    have HFr := Lib.hid hf
    clear hf hr hr0
    have hi : decide ((0 : Int) < (([] : List Int).length : Int)) = false := rfl
    go_enter Tryd.func38, Tryd.ntmps38
    go_wp2_with fail
    refine Reg.wp_region_text (by kernel_rfl) (by kernel_rfl) ?_
    go_wp2_with fail
    refine ⟨by kernel_rfl, ?_⟩
    go_wp2_with fail
    go_ret
    exact ⟨rfl, HFr.out.drew⟩
  obtain ⟨ps, x, rfl⟩ : ∃ ps x, l = ps ++ [x] := ⟨l.dropLast, l.getLast hlen, (List.dropLast_concat_getLast hlen).symm⟩
  have hL : (ps ++ [x]).length = ps.length + 1 := by simp
  obtain ⟨g, off, rfl, c1⟩ := rdS_int hr0 (i := ps.length) (x := x) (by simp)
  have hfr := rdS_front (n := ps.length) hr0 (by omega)
  rw [List.take_left] at hfr
  have hfin : Tm.kidsOk 1 (ps ++ [x]) = (x == 3 && ps.all (· == 2)) := by
    show (decide (0 < (ps ++ [x]).length) && (ps ++ [x]).getLastD 0 == 3 && (ps ++ [x]).dropLast.all (· == 2)) = _
    rw [List.getLastD_concat, List.dropLast_concat, hL, decide_eq_true (by omega), Bool.true_and]
  have HFin := Lib.hid hfin
  have HFr := Lib.hid hf
  have HR := Lib.hid hfr
  generalize hN : (ps ++ [x]).length = N at *
  have hNi : (N : Int) = (ps.length : Int) + 1 := by omega
  have i1 : (0 : Int) < (N : Int) := by omega
  have i2 : (0 : Int) ≤ (N : Int) - 1 := by omega
  have i3 : (N : Int) - 1 < (N : Int) := by omega
  have i4 : ((N : Int) - 1).toNat = ps.length := by omega
  have i5 : (N : Int) - 1 ≤ (c : Int) := by omega
  have i6 : 1 ≤ N := by omega
  have i7 : (1 : Int) ≤ (N : Int) := by omega
  have hps : ps.length ≤ 9223372036854775807 := by omega
  have i8 : N - 1 = ps.length := by omega
  have HN := Lib.hid hNi
  have H8 := Lib.hid i8
  clear hr hr0 hfin hf hfr hN hNi hL hlen i8
  cases hx : x == 3 with
  | false =>
    go_enter Tryd.func38, Tryd.ntmps38
    go_wp2_with fail
    refine Reg.wp_region_text (by kernel_rfl) (by kernel_rfl) ?_
    go_wp2_with (go_at_call 61; refine (kids2_c _ _).mono ?_; rintro e w' ⟨rfl, rfl⟩)
    refine ⟨by kernel_rfl, ?_⟩
    go_wp2_with fail
    go_ret
    exact ⟨by rw [HFin.out, hx]; rfl, HFr.out.drew⟩
  | true =>
    go_enter Tryd.func38, Tryd.ntmps38
    go_wp2_with fail
    refine Reg.wp_region_text (by kernel_rfl) (by kernel_rfl) ?_
    go_wp2_with (go_at_call 61; refine (kids2_c _ _).mono ?_; rintro e w' ⟨rfl, rfl⟩)
    refine (all_c ps _ _ (· == 2) _ (HR.out.fr (Ch.refl _ _).drew) hps (.inr (.inr (.inl ⟨rfl, rfl⟩)))).mono ?_
    rintro e w' ⟨rfl, hf2⟩
    have HF2 := Lib.hid (HFr.out.drew.trans hf2)
    clear hf2
    go_wp2_with fail
    refine ⟨by kernel_rfl, ?_⟩
    go_wp2_with fail
    go_ret
    exact ⟨by rw [HFin.out, hx]; rfl, HF2.out⟩

set_option maxRecDepth 100000 in
set_option maxHeartbeats 8000000 in
theorem kids_11 (k : Int) (l : List Int) (v : Value) (w : World) (hr : RdS w v l.length (ints l)) (hl : l.length ≤ 9223372036854775807) (hk : k = 11) :
    Calls Tryd.prog 38 #[.int .i64 k, v] w fun e w' => e = .returned (.bool (Tm.kidsOk k l)) ∧ Fr w w' := by
  obtain ⟨a, c, rfl, hc, hf, hr0, hcb⟩ := kids_pre hr
  subst hk
  have HFr := Lib.hid hf
  by_cases h12 : l.length = 1 ∨ l.length = 2
  case neg =>
    have e1 : ((l.length : Int) == 1) = false := beq_eq_false_iff_ne.2 (by omega)
    have e2 : ((l.length : Int) == 2) = false := beq_eq_false_iff_ne.2 (by omega)
    have hfin : Tm.kidsOk 11 l = false := by
      show ((l.length == 1 || l.length == 2) && l.getLastD 0 == 3 && l.dropLast.all Tm.isE) = false
      have : (l.length == 1 || l.length == 2) = false := by simp; omega
      rw [this, Bool.false_and, Bool.false_and]
    have HFin := Lib.hid hfin
    clear hfin h12 hr hr0 hf
    go_enter Tryd.func38, Tryd.ntmps38
    go_wp2_with fail
    refine Reg.wp_region_text (by kernel_rfl) (by kernel_rfl) ?_
    go_wp2_with fail
    refine ⟨by kernel_rfl, ?_⟩
    go_wp2_with fail
    go_ret
    exact ⟨by rw [HFin.out]; rfl, HFr.out.drew⟩
  case pos =>
  have hlen : l ≠ [] := fun h => by rw [h] at h12; simp at h12
  obtain ⟨ps, x, rfl⟩ : ∃ ps x, l = ps ++ [x] := ⟨l.dropLast, l.getLast hlen, (List.dropLast_concat_getLast hlen).symm⟩
  have hL : (ps ++ [x]).length = ps.length + 1 := by simp
  obtain ⟨g, off, rfl, c1⟩ := rdS_int hr0 (i := ps.length) (x := x) (by simp)
  have hfr := rdS_front (n := ps.length) hr0 (by omega)
  rw [List.take_left] at hfr
  have hfin : Tm.kidsOk 11 (ps ++ [x]) = (x == 3 && ps.all Tm.isE) := by
    show (((ps ++ [x]).length == 1 || (ps ++ [x]).length == 2) && (ps ++ [x]).getLastD 0 == 3 && (ps ++ [x]).dropLast.all Tm.isE) = _
    have : ((ps ++ [x]).length == 1 || (ps ++ [x]).length == 2) = true := by simpa using h12
    rw [List.getLastD_concat, List.dropLast_concat, this, Bool.true_and]
  have HFin := Lib.hid hfin
  have HR := Lib.hid hfr
  generalize hN : (ps ++ [x]).length = N at *
  have i1 : (0 : Int) < (N : Int) := by omega
  have i2 : (0 : Int) ≤ (N : Int) - 1 := by omega
  have i3 : (N : Int) - 1 < (N : Int) := by omega
  have i4 : ((N : Int) - 1).toNat = ps.length := by omega
  have i5 : (N : Int) - 1 ≤ (c : Int) := by omega
  have i6 : 1 ≤ N := by omega
  have i7 : (1 : Int) ≤ (N : Int) := by omega
  have hps : ps.length ≤ 9223372036854775807 := by omega
  have hor : (((N : Int) == 1) = true) ∨ (((N : Int) == 1) = false ∧ ((N : Int) == 2) = true) := by
    rcases h12 with h | h
    · exact .inl (beq_iff_eq.2 (by omega))
    · exact .inr ⟨beq_eq_false_iff_ne.2 (by omega), beq_iff_eq.2 (by omega)⟩
  clear hr hr0 hfin hf hfr hN hL hlen h12
  rcases hor with e1 | ⟨e1, e2⟩
  all_goals
    cases hx : x == 3 with
    | false =>
      go_enter Tryd.func38, Tryd.ntmps38
      go_wp2_with fail
      refine Reg.wp_region_text (by kernel_rfl) (by kernel_rfl) ?_
      go_wp2_with (go_at_call 61; refine (kids2_c _ _).mono ?_; rintro e w' ⟨rfl, rfl⟩)
      refine ⟨by kernel_rfl, ?_⟩
      go_wp2_with fail
      go_ret
      exact ⟨by rw [HFin.out, hx]; rfl, HFr.out.drew⟩
    | true =>
      go_enter Tryd.func38, Tryd.ntmps38
      go_wp2_with fail
      refine Reg.wp_region_text (by kernel_rfl) (by kernel_rfl) ?_
      go_wp2_with (go_at_call 61; refine (kids2_c _ _).mono ?_; rintro e w' ⟨rfl, rfl⟩)
      refine (all_c ps _ _ Tm.isE _ (HR.out.fr (Ch.refl _ _).drew) hps (.inr (.inl ⟨rfl, rfl⟩))).mono ?_
      rintro e w' ⟨rfl, hf2⟩
      have HF2 := Lib.hid (HFr.out.drew.trans hf2)
      clear hf2
      go_wp2_with fail
      refine ⟨by kernel_rfl, ?_⟩
      go_wp2_with fail
      go_ret
      exact ⟨by rw [HFin.out, hx]; rfl, HF2.out⟩
end Go.Proofs.YtllahgnpjodgmaaDoor
