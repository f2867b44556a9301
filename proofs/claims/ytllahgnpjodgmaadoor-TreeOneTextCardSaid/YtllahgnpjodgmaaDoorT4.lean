/- tree.kids: are kinds those of the kids of a node of a kind? -/
import Derived.Test.YtllahgnpjodgmaaDoorT3
import Derived.Laws.EntriesVeiled
set_option linter.unusedVariables false
namespace Go.Proofs.YtllahgnpjodgmaaDoor
open Go Go.RowKit Mem Pm

/-- What stands ahead of each walk. -/
theorem kids_pre {l : List Int} {v : Value} {w : World} (hr : RdS w v l.length (ints l)) : ∃ a c, v = .slice a l.length c ∧ l.length ≤ c ∧
    Fr w (w.alloc (.cells #[.func (.func 61) #[] #[]] 80)) ∧ RdS (w.alloc (.cells #[.func (.func 61) #[] #[]] 80)) (.slice a l.length c) l.length (ints l) ∧
    (w.alloc (.cells #[.func (.func 61) #[] #[]] 80)).cell? ⟨w.heap.size, 0, none⟩ = some (.func (.func 61) #[] #[]) := by
  have hf : Fr w (w.alloc (.cells #[.func (.func 61) #[] #[]] 80)) := (Ch.refl _ _).alloc _
  have h2 := hr.fr hf
  obtain ⟨a, c, rfl, hc, _⟩ := hr
  exact ⟨a, c, rfl, hc, hf, h2, by simp⟩
/-- One number out of a list. -/
theorem rdS_int {w : World} {a : Option Addr} {c : Nat} {l : List Int} (h : RdS w (.slice a l.length c) l.length (ints l)) {i : Nat} {x : Int} (hx : l[i]? = some x) : ∃ g off, a = some ⟨g, off, none⟩ ∧ w.cell? ⟨g, off + i, none⟩ = some (.int .i64 x) := by
  obtain ⟨a0, c0, he, _, hr⟩ := h
  injection he with h1 _ h3
  subst h1 h3
  obtain ⟨g, off, h1, h2⟩ := hr (fun h0 => by have h3 := ints_get hx; rw [h0] at h3; simp at h3)
  exact ⟨g, off, h1, h2 i _ (ints_get hx)⟩

set_option maxRecDepth 100000 in
set_option maxHeartbeats 8000000 in
theorem kids_3 (k : Int) (l : List Int) (v : Value) (w : World) (hr : RdS w v l.length (ints l)) (hl : l.length ≤ 9223372036854775807) (hk : k = 3) :
    Calls Tryd.prog 38 #[.int .i64 k, v] w fun e w' => e = .returned (.bool (Tm.kidsOk k l)) ∧ Fr w w' := by
  obtain ⟨a, c, rfl, hc, hf, hr0, hcb⟩ := kids_pre hr
  have HFr := Lib.hid hf
  have HR := Lib.hid hr0
  have HCb := Lib.hid hcb
  clear hr hf hr0 hcb
  subst hk
  have HFin := Lib.hid (show Tm.kidsOk 3 l = l.all Tm.isS from rfl)
  go_enter Tryd.func38, Tryd.ntmps38
  go_wp2_with fail
  refine (all_c l _ _ Tm.isS _ HR.out (by omega) (.inl ⟨rfl, rfl⟩)).mono ?_
  rintro e w' ⟨rfl, hf2⟩
  have HF2 := Lib.hid (HFr.out.trans hf2)
  clear hf2
  go_wp2_with fail
  go_ret
  exact ⟨by rw [HFin.out]; rfl, HF2.out⟩

set_option maxRecDepth 100000 in
set_option maxHeartbeats 8000000 in
theorem kids_25 (k : Int) (l : List Int) (v : Value) (w : World) (hr : RdS w v l.length (ints l)) (hl : l.length ≤ 9223372036854775807) (hk : k = 25) :
    Calls Tryd.prog 38 #[.int .i64 k, v] w fun e w' => e = .returned (.bool (Tm.kidsOk k l)) ∧ Fr w w' := by
  obtain ⟨a, c, rfl, hc, hf, hr0, hcb⟩ := kids_pre hr
  have HFr := Lib.hid hf
  have HR := Lib.hid hr0
  have HCb := Lib.hid hcb
  clear hr hf hr0 hcb
  subst hk
  have HFin := Lib.hid (show Tm.kidsOk 25 l = l.all Tm.isE from rfl)
  go_enter Tryd.func38, Tryd.ntmps38
  go_wp2_with fail
  refine (all_c l _ _ Tm.isE _ HR.out (by omega) (.inr (.inl ⟨rfl, rfl⟩))).mono ?_
  rintro e w' ⟨rfl, hf2⟩
  have HF2 := Lib.hid (HFr.out.trans hf2)
  clear hf2
  go_wp2_with fail
  go_ret
  exact ⟨by rw [HFin.out]; rfl, HF2.out⟩

set_option maxRecDepth 100000 in
set_option maxHeartbeats 8000000 in
theorem kids_4 (k : Int) (l : List Int) (v : Value) (w : World) (hr : RdS w v l.length (ints l)) (hl : l.length ≤ 9223372036854775807) (hk : k = 4 ∨ k = 12) :
    Calls Tryd.prog 38 #[.int .i64 k, v] w fun e w' => e = .returned (.bool (Tm.kidsOk k l)) ∧ Fr w w' := by
  obtain ⟨a, c, rfl, hc, hf, hr0, hcb⟩ := kids_pre hr
  have HFr := Lib.hid hf
  have HR := Lib.hid hr0
  have HCb := Lib.hid hcb
  clear hr hf hr0 hcb
  by_cases hlen : l.length ≤ 1
  · have hi : (l.length : Int) ≤ 1 := by omega
    have hfin : Tm.kidsOk k l = l.all Tm.isE := by
      rcases hk with rfl | rfl <;> (show (decide (l.length ≤ 1) && l.all Tm.isE) = _; simp [hlen])
    have HFin := Lib.hid hfin
    clear hfin hlen
    rcases hk with rfl | rfl
    all_goals
      go_enter Tryd.func38, Tryd.ntmps38
      go_wp2_with fail
      refine (all_c l _ _ Tm.isE _ HR.out (by omega) (.inr (.inl ⟨rfl, rfl⟩))).mono ?_
      rintro e w' ⟨rfl, hf2⟩
      have HF2 := Lib.hid (HFr.out.trans hf2)
      clear hf2
      go_wp2_with fail
      go_ret
      exact ⟨by rw [HFin.out]; rfl, HF2.out⟩
  · have hi : decide ((l.length : Int) ≤ 1) = false := decide_eq_false (by omega)
    have hfin : Tm.kidsOk k l = false := by
      rcases hk with rfl | rfl <;> (show (decide (l.length ≤ 1) && l.all Tm.isE) = _; simp [hlen])
    have HFin := Lib.hid hfin
    clear hfin
    rcases hk with rfl | rfl
    all_goals
      go_enter Tryd.func38, Tryd.ntmps38
      go_wp2_with fail
      go_ret
      exact ⟨by rw [HFin.out]; rfl, HFr.out⟩

set_option maxRecDepth 100000 in
set_option maxHeartbeats 8000000 in
theorem kids_5 (k : Int) (l : List Int) (v : Value) (w : World) (hr : RdS w v l.length (ints l)) (hl : l.length ≤ 9223372036854775807) (hk : k = 5 ∨ k = 8 ∨ k = 9 ∨ k = 27 ∨ k = 28 ∨ k = 30) :
    Calls Tryd.prog 38 #[.int .i64 k, v] w fun e w' => e = .returned (.bool (Tm.kidsOk k l)) ∧ Fr w w' := by
  obtain ⟨a, c, rfl, hc, hf, hr0, hcb⟩ := kids_pre hr
  have HFr := Lib.hid hf
  have HR := Lib.hid hr0
  have HCb := Lib.hid hcb
  clear hr hf hr0 hcb
  by_cases hlen : l.length = 1
  · have hi : ((l.length : Int) == 1) = true := beq_iff_eq.2 (by omega)
    have hfin : Tm.kidsOk k l = l.all Tm.isE := by
      rcases hk with rfl | rfl | rfl | rfl | rfl | rfl <;> (show (l.length == 1 && l.all Tm.isE) = _; simp [hlen])
    have HFin := Lib.hid hfin
    clear hfin hlen
    rcases hk with rfl | rfl | rfl | rfl | rfl | rfl
    all_goals
      go_enter Tryd.func38, Tryd.ntmps38
      go_wp2_with fail
      refine (all_c l _ _ Tm.isE _ HR.out (by omega) (.inr (.inl ⟨rfl, rfl⟩))).mono ?_
      rintro e w' ⟨rfl, hf2⟩
      have HF2 := Lib.hid (HFr.out.trans hf2)
      clear hf2
      go_wp2_with fail
      go_ret
      exact ⟨by rw [HFin.out]; rfl, HF2.out⟩
  · have hi : ((l.length : Int) == 1) = false := beq_eq_false_iff_ne.2 (by omega)
    have hfin : Tm.kidsOk k l = false := by
      rcases hk with rfl | rfl | rfl | rfl | rfl | rfl <;> (show (l.length == 1 && l.all Tm.isE) = _; simp [hlen])
    have HFin := Lib.hid hfin
    clear hfin
    rcases hk with rfl | rfl | rfl | rfl | rfl | rfl
    all_goals
      go_enter Tryd.func38, Tryd.ntmps38
      go_wp2_with fail
      go_ret
      exact ⟨by rw [HFin.out]; rfl, HFr.out⟩

set_option maxRecDepth 100000 in
set_option maxHeartbeats 8000000 in
theorem kids_6 (k : Int) (l : List Int) (v : Value) (w : World) (hr : RdS w v l.length (ints l)) (hl : l.length ≤ 9223372036854775807) (hk : k = 6 ∨ k = 29 ∨ k = 31) :
    Calls Tryd.prog 38 #[.int .i64 k, v] w fun e w' => e = .returned (.bool (Tm.kidsOk k l)) ∧ Fr w w' := by
  obtain ⟨a, c, rfl, hc, hf, hr0, hcb⟩ := kids_pre hr
  have HFr := Lib.hid hf
  have HR := Lib.hid hr0
  have HCb := Lib.hid hcb
  clear hr hf hr0 hcb
  by_cases hlen : l.length = 2
  · have hi : ((l.length : Int) == 2) = true := beq_iff_eq.2 (by omega)
    have hfin : Tm.kidsOk k l = l.all Tm.isE := by
      rcases hk with rfl | rfl | rfl <;> (show (l.length == 2 && l.all Tm.isE) = _; simp [hlen])
    have HFin := Lib.hid hfin
    clear hfin hlen
    rcases hk with rfl | rfl | rfl
    all_goals
      go_enter Tryd.func38, Tryd.ntmps38
      go_wp2_with fail
      refine (all_c l _ _ Tm.isE _ HR.out (by omega) (.inr (.inl ⟨rfl, rfl⟩))).mono ?_
      rintro e w' ⟨rfl, hf2⟩
      have HF2 := Lib.hid (HFr.out.trans hf2)
      clear hf2
      go_wp2_with fail
      go_ret
      exact ⟨by rw [HFin.out]; rfl, HF2.out⟩
  · have hi : ((l.length : Int) == 2) = false := beq_eq_false_iff_ne.2 (by omega)
    have hfin : Tm.kidsOk k l = false := by
      rcases hk with rfl | rfl | rfl <;> (show (l.length == 2 && l.all Tm.isE) = _; simp [hlen])
    have HFin := Lib.hid hfin
    clear hfin
    rcases hk with rfl | rfl | rfl
    all_goals
      go_enter Tryd.func38, Tryd.ntmps38
      go_wp2_with fail
      go_ret
      exact ⟨by rw [HFin.out]; rfl, HFr.out⟩

end Go.Proofs.YtllahgnpjodgmaaDoor
