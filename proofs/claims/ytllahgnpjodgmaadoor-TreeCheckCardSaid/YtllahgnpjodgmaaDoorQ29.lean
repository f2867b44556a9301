/- quernlaw3.numbers, marked, node. -/
import Derived.Test.YtllahgnpjodgmaaDoorQ28
set_option linter.unusedVariables false
namespace Go.Proofs.YtllahgnpjodgmaaDoor
open Go Go.RowKit Mem Pm
/-- So many marks. -/
def marksL (k : Nat) : List Int := (List.range k).map fun i : Nat => -71 - (i : Int)
theorem marksL_succ (k : Nat) : marksL (k + 1) = marksL k ++ [-71 - (k : Int)] := by unfold marksL; rw [List.range_succ, List.map_append]; rfl
theorem marksL_len (k : Nat) : (marksL k).length = k := by unfold marksL; rw [List.length_map, List.length_range]
theorem ints_app (a b : List Int) : ints (a ++ b) = ints a ++ ints b := by unfold ints; rw [List.map_append]
set_option maxRecDepth 100000 in
set_option maxHeartbeats 8000000 in
theorem numbers_c (l : List Int) (v : Value) (w : World) (h : RdS w v l.length (ints l)) (hl : l.length ≤ 1000000) :
    Calls Tryd.prog 39 #[v] w fun e w' => ∃ v', e = .returned v' ∧ Gives w w' [.row 3 1 v' (l.length + 5) (ints (l ++ marksL 5))] := by
  obtain ⟨i0, hi0, hz0, hz1, hz2⟩ := info_parts infoInt
  obtain ⟨al, cl, rfl, hcl⟩ : ∃ al cl, v = .slice al l.length cl ∧ l.length ≤ cl := by obtain ⟨a, c, h1, h2, _⟩ := h; exact ⟨a, c, h1, h2⟩
  have HR := Lib.hid h
  have H0 := Lib.hid (Hs.start w)
  have hl9 : l.length ≤ 1000000000 := by omega
  clear h
  go_enter Tryd.func39, Tryd.ntmps39
  go_wp2_with (at_builtin; go_must (refine Hs.copy rfl _ _ 23 rfl 3 i0 _ 1 8 (by kernel_rfl) hi0 hz0 hz1 hz2 rfl (Nat.succ_pos _) (Nat.le_of_ble_eq_true rfl) al l.length cl (ints l) rfl rfl (by rw [ints_len, Nat.mul_one]) (ints_all _) hl9 (rdS_add HR.out (ints_len _)) H0.out ?_))
  intro v3 w3 hh3
  have H3 := Lib.hid hh3
  clear hh3
  go_wp2_with fail
  go_loopg [3, 4] 5 (fun m v3 v4 wr => ∃ k : Nat, k + m = 5 ∧ v4 = .int .i64 (k : Int) ∧ Hs (fun k => k < w.heap.size) w wr [.row 3 1 v3 (l.length + k) (ints (l ++ marksL k))])
  case atStart => exact ⟨0, by omega, rfl, by rw [show marksL 0 = [] from rfl, List.append_nil, Nat.add_zero]; exact H3.out⟩
  case round =>
  obtain ⟨k, hk, rfl, hh⟩ := hrel
  have Hh := Lib.hid hh
  clear hh H3 HR H0
  obtain ⟨a3, c3, rfl, _, _⟩ := Hh.out.form 0 rfl
  by_cases hlt : k < 5
  case pos =>
    have hki : (k : Int) < 5 := by omega
    have hk0 : (0 : Int) ≤ (k : Int) := by omega
    have hn9 : l.length + k ≤ 1000000000 := by omega
    have Hn := Lib.hid (Hh.out.alloc [.int .i64 (-71 - (k : Int))] 3)
    go_wp2_with (at_builtin; go_must (refine Hs.push rfl _ _ 23 rfl 3 i0 _ 1 8 (by kernel_rfl) hi0 hz0 hz1 hz2 rfl (Nat.succ_pos _) (Nat.le_of_ble_eq_true rfl) 1 (.slice a3 (l.length + k) c3) (l.length + k) (ints (l ++ marksL k)) rfl 0 wr.heap.size [.int .i64 (-71 - (k : Int))] rfl rfl rfl rfl rfl hn9 Hn.out ?_))
    intro v5 w5 hh5
    obtain ⟨a5, c5, rfl, _, _⟩ := hh5.form 1 rfl
    have H5 := Lib.hid hh5.tail
    clear hh5 Hn Hh
    go_wp2_with fail
    go_roundg (gk - 1)
    case measure => omega
    case rel => exact ⟨k + 1, by omega, by go_num, by rw [marksL_succ, ← List.append_assoc, ints_app]; exact H5.out⟩
  case neg =>
    have hki : ¬ (k : Int) < 5 := by omega
    obtain rfl : k = 5 := by omega
    go_wp2_with fail
    go_ret
    exact ⟨_, rfl, gives_of Hh.out⟩
set_option maxRecDepth 100000 in
set_option maxHeartbeats 8000000 in
theorem marked_c (l : List Int) (v u : Value) (w : World) (hv : RdS w v (l.length + 5) (ints (l ++ marksL 5))) (hu : RdS w u l.length (ints l)) (hl : l.length ≤ 1000000) :
    Calls Tryd.prog 43 #[v, u] w fun e w' => e = .returned (.bool true) ∧ Fr w w' := by
  obtain ⟨av, cv, rfl, hcv⟩ : ∃ a c, v = .slice a (l.length + 5) c ∧ l.length + 5 ≤ c := by obtain ⟨a, c, h1, h2, _⟩ := hv; exact ⟨a, c, h1, h2⟩
  obtain ⟨au, cu, rfl, hcu⟩ : ∃ a c, u = .slice a l.length c ∧ l.length ≤ c := by obtain ⟨a, c, h1, h2, _⟩ := hu; exact ⟨a, c, h1, h2⟩
  have hvl : (l ++ marksL 5).length = l.length + 5 := by rw [List.length_append, marksL_len]
  obtain ⟨gv, ov, rfl, hcell⟩ : ∃ g off, av = some ⟨g, off, none⟩ ∧ ∀ i x, (l ++ marksL 5)[i]? = some x → w.cell? ⟨g, off + i, none⟩ = some (.int .i64 x) := by
    obtain ⟨a', c', he, _, hr⟩ := hv
    injection he with e1 _ _
    subst e1
    obtain ⟨g, off, h1, h2⟩ := hr (fun h0 => by have := congrArg List.length h0; rw [ints_len, hvl] at this; simp at this)
    exact ⟨g, off, h1, fun i x hx => h2 i _ (ints_get hx)⟩
  have HV := Lib.hid hcell
  have HU := Lib.hid hu
  have HVl := Lib.hid hvl
  clear hv hu hcell hvl
  go_enter Tryd.func43, Tryd.ntmps43
  have q1 : ((l.length : Int) + 5 == (l.length : Int) + 5) = true := beq_self_eq_true _
  go_wp2_with fail
  go_loopg [5] (l.length + 5) (fun m v5 wr => ∃ k : Nat, k + m = l.length + 5 ∧ v5 = .int .i64 (k : Int) ∧ Fr w wr)
  case atStart => exact ⟨0, by omega, rfl, Ch.refl _ _⟩
  case round =>
  obtain ⟨k, hk, rfl, hf⟩ := hrel
  have HF := Lib.hid hf
  clear hf
  by_cases hlt : k < l.length
  case pos =>
    obtain ⟨x, hx⟩ : ∃ x, l[k]? = some x := ⟨_, List.getElem?_eq_getElem hlt⟩
    have hx2 : (l ++ marksL 5)[k]? = some x := by rw [List.getElem?_append_left hlt]; exact hx
    have x1 := fr_cell HF.out (HV.out k x hx2)
    obtain ⟨gu, ou, rfl, x2⟩ := rdS_int (HU.out.fr HF.out) hx
    have hki : (k : Int) < (l.length : Int) := by omega
    have hki2 : (k : Int) < (l.length : Int) + 5 := by omega
    have hk0 : (0 : Int) ≤ (k : Int) := by omega
    clear hx hx2
    go_wp2_with fail
    refine Reg.wp_region_text (by kernel_rfl) (by kernel_rfl) ?_
    go_wp2_with fail
    refine ⟨by kernel_rfl, ?_⟩
    go_wp2_with fail
    go_roundg (gk - 1)
    case measure => omega
    case rel => exact ⟨k + 1, by omega, by go_num, HF.out.drew⟩
  case neg =>
  by_cases hlt2 : k < l.length + 5
  case pos =>
    obtain ⟨j, rfl⟩ : ∃ j, k = l.length + j := ⟨k - l.length, by omega⟩
    have hx2 : (l ++ marksL 5)[l.length + j]? = some (-71 - (j : Int)) := by
      rw [List.getElem?_append_right (by omega), Nat.add_sub_cancel_left]
      unfold marksL
      rw [List.getElem?_map, List.getElem?_range (by omega)]; rfl
    have x1 := fr_cell HF.out (HV.out _ _ hx2)
    have hki : ¬ ((l.length + j : Nat) : Int) < (l.length : Int) := by omega
    have hki3 : (l.length : Int) ≤ ((l.length + j : Nat) : Int) := by omega
    have hki2 : ((l.length + j : Nat) : Int) < (l.length : Int) + 5 := by omega
    have hk0 : (0 : Int) ≤ ((l.length + j : Nat) : Int) := by omega
    clear hx2
    go_wp2_with fail
    refine Reg.wp_region_text (by kernel_rfl) (by kernel_rfl) ?_
    go_wp2_with fail
    refine ⟨by kernel_rfl, ?_⟩
    go_wp2_with fail
    go_roundg (gk - 1)
    case measure => omega
    case rel => exact ⟨l.length + j + 1, by omega, by go_num, HF.out.drew⟩
  case neg =>
    have hki : ¬ (k : Int) < (l.length : Int) + 5 := by omega
    go_wp2_with fail
    go_ret
    exact ⟨rfl, HF.out⟩
set_option maxRecDepth 100000 in
set_option maxHeartbeats 8000000 in
theorem node_t (n m : Nd) (kv ku : Value) (w : World) (h : m.kind = n.kind ∧ m.at_ = n.at_ ∧ m.where_ = n.where_ ∧ m.close = n.close ∧ m.decl = n.decl ∧ m.type = n.type ∧ m.op = n.op ∧ m.value = n.value ∧ m.name = n.name) :
    Calls Tryd.prog 44 #[ndV n kv, ndV m ku] w fun e w' => e = .returned (.bool true) ∧ Fr w w' := by
  obtain ⟨k1, k2, k3, k4, k5, k6, k7, k8, k9⟩ := h
  obtain ⟨a0, a1, a2, a3, a4, a5, a6, a7, nm, ks⟩ := n
  obtain ⟨b0, b1, b2, b3, b4, b5, b6, b7, nm', ks'⟩ := m
  dsimp only at k1 k2 k3 k4 k5 k6 k7 k8 k9
  subst k1 k2 k3 k4 k5 k6 k7 k8 k9
  have H1 := Lib.hid ((Hs.start w).alloc (ndC (⟨b0, b1, b2, b3, b4, b5, b6, b7, nm', ks⟩ : Nd) kv) 45)
  have H2 := Lib.hid (H1.out.alloc (ndC (⟨b0, b1, b2, b3, b4, b5, b6, b7, nm', ks'⟩ : Nd) ku) 45)
  have HF := Lib.hid (fr_of_kp H2.out.kp)
  unfold ndV
  dsimp only
  go_enter Tryd.func44, Tryd.ntmps44
  go_wp2_with fail
  go_ret
  exact ⟨by simp, HF.out⟩
end Go.Proofs.YtllahgnpjodgmaaDoor
