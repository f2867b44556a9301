/- quernlaw3.numbers, marked, node.
quernlaw3.lend: a tree whose lists have marks behind them.
What was lent, as a tree; its rows one by one. -/
import Derived.Test.YtllahgnpjodgmaaDoorVf
set_option linter.unusedVariables false
namespace Go.Proofs.YtllahgnpjodgmaaDoor
open Go Go.RowKit Mem Pm
/-- So many marks. -/
def marksL (k : Nat) : List Int := (List.range k).map fun i : Nat => -71 - (i : Int)
theorem marksL_succ (k : Nat) : marksL (k + 1) = marksL k ++ [-71 - (k : Int)] := by unfold marksL; rw [List.range_succ, List.map_append]; rfl
theorem marksL_len (k : Nat) : (marksL k).length = k := by unfold marksL; rw [List.length_map, List.length_range]
theorem ints_app (a b : List Int) : ints (a ++ b) = ints a ++ ints b := by unfold ints; rw [List.map_append]
set_option maxRecDepth 100000 in
set_option maxHeartbeats 8000000 in
theorem numbers_c (l : List Int) (v : Value) (w : World) (h : RdS w v l.length (ints l)) (hl : l.length ≤ 1000000) :
    Calls Tryd.prog 39 #[v] w fun e w' => ∃ v', e = .returned v' ∧ Gives w w' [.row 3 1 v' (l.length + 5) (ints (l ++ marksL 5))] := by
  obtain ⟨i0, hi0, hz0, hz1, hz2⟩ := info_parts infoInt
  obtain ⟨al, cl, rfl, hcl⟩ : ∃ al cl, v = .slice al l.length cl ∧ l.length ≤ cl := by obtain ⟨a, c, h1, h2, _⟩ := h; exact ⟨a, c, h1, h2⟩
  have HR := Lib.hid h
  have H0 := Lib.hid (Hs.start w)
  have hl9 : l.length ≤ 1000000000 := by omega
  clear h
  go_enter Tryd.func39, Tryd.ntmps39
  go_wp2_with (at_builtin; go_must (refine Hs.copy rfl _ _ 23 rfl 3 i0 _ 1 8 (by kernel_rfl) hi0 hz0 hz1 hz2 rfl (Nat.succ_pos _) (Nat.le_of_ble_eq_true rfl) al l.length cl (ints l) rfl rfl (by rw [ints_len, Nat.mul_one]) (ints_all _) hl9 (rdS_add HR.out (ints_len _)) H0.out ?_))
  intro v3 w3 hh3
  have H3 := Lib.hid hh3
  clear hh3
  go_wp2_with fail
  go_loopg [3, 4] 5 (fun m v3 v4 wr => ∃ k : Nat, k + m = 5 ∧ v4 = .int .i64 (k : Int) ∧ Hs (fun k => k < w.heap.size) w wr [.row 3 1 v3 (l.length + k) (ints (l ++ marksL k))])
  case atStart => exact ⟨0, by omega, rfl, by rw [show marksL 0 = [] from rfl, List.append_nil, Nat.add_zero]; exact H3.out⟩
  case round =>
  obtain ⟨k, hk, rfl, hh⟩ := hrel
  have Hh := Lib.hid hh
  clear hh H3 HR H0
  obtain ⟨a3, c3, rfl, _, _⟩ := Hh.out.form 0 rfl
  by_cases hlt : k < 5
  case pos =>
    have hki : (k : Int) < 5 := by omega
    have hk0 : (0 : Int) ≤ (k : Int) := by omega
    have hn9 : l.length + k ≤ 1000000000 := by omega
    have Hn := Lib.hid (Hh.out.alloc [.int .i64 (-71 - (k : Int))] 3)
    go_wp2_with (at_builtin; go_must (refine Hs.push rfl _ _ 23 rfl 3 i0 _ 1 8 (by kernel_rfl) hi0 hz0 hz1 hz2 rfl (Nat.succ_pos _) (Nat.le_of_ble_eq_true rfl) 1 (.slice a3 (l.length + k) c3) (l.length + k) (ints (l ++ marksL k)) rfl 0 wr.heap.size [.int .i64 (-71 - (k : Int))] rfl rfl rfl rfl rfl hn9 Hn.out ?_))
    intro v5 w5 hh5
    obtain ⟨a5, c5, rfl, _, _⟩ := hh5.form 1 rfl
    have H5 := Lib.hid hh5.tail
    clear hh5 Hn Hh
    go_wp2_with fail
    go_roundg (gk - 1)
    case measure => omega
    case rel => exact ⟨k + 1, by omega, by go_num, by rw [marksL_succ, ← List.append_assoc, ints_app]; exact H5.out⟩
  case neg =>
    have hki : ¬ (k : Int) < 5 := by omega
    obtain rfl : k = 5 := by omega
    go_wp2_with fail
    go_ret
    exact ⟨_, rfl, gives_of Hh.out⟩
set_option maxRecDepth 100000 in
set_option maxHeartbeats 8000000 in
theorem marked_c (l : List Int) (v u : Value) (w : World) (hv : RdS w v (l.length + 5) (ints (l ++ marksL 5))) (hu : RdS w u l.length (ints l)) (hl : l.length ≤ 1000000) :
    Calls Tryd.prog 43 #[v, u] w fun e w' => e = .returned (.bool true) ∧ Fr w w' := by
  obtain ⟨av, cv, rfl, hcv⟩ : ∃ a c, v = .slice a (l.length + 5) c ∧ l.length + 5 ≤ c := by obtain ⟨a, c, h1, h2, _⟩ := hv; exact ⟨a, c, h1, h2⟩
  obtain ⟨au, cu, rfl, hcu⟩ : ∃ a c, u = .slice a l.length c ∧ l.length ≤ c := by obtain ⟨a, c, h1, h2, _⟩ := hu; exact ⟨a, c, h1, h2⟩
  have hvl : (l ++ marksL 5).length = l.length + 5 := by rw [List.length_append, marksL_len]
  obtain ⟨gv, ov, rfl, hcell⟩ : ∃ g off, av = some ⟨g, off, none⟩ ∧ ∀ i x, (l ++ marksL 5)[i]? = some x → w.cell? ⟨g, off + i, none⟩ = some (.int .i64 x) := by
    obtain ⟨a', c', he, _, hr⟩ := hv
    injection he with e1 _ _
    subst e1
    obtain ⟨g, off, h1, h2⟩ := hr (fun h0 => by have := congrArg List.length h0; rw [ints_len, hvl] at this; simp at this)
    exact ⟨g, off, h1, fun i x hx => h2 i _ (ints_get hx)⟩
  have HV := Lib.hid hcell
  have HU := Lib.hid hu
  have HVl := Lib.hid hvl
  clear hv hu hcell hvl
  go_enter Tryd.func43, Tryd.ntmps43
  have q1 : ((l.length : Int) + 5 == (l.length : Int) + 5) = true := beq_self_eq_true _
  go_wp2_with fail
  go_loopg [5] (l.length + 5) (fun m v5 wr => ∃ k : Nat, k + m = l.length + 5 ∧ v5 = .int .i64 (k : Int) ∧ Fr w wr)
  case atStart => exact ⟨0, by omega, rfl, Ch.refl _ _⟩
  case round =>
  obtain ⟨k, hk, rfl, hf⟩ := hrel
  have HF := Lib.hid hf
  clear hf
  by_cases hlt : k < l.length
  case pos =>
    obtain ⟨x, hx⟩ : ∃ x, l[k]? = some x := ⟨_, List.getElem?_eq_getElem hlt⟩
    have hx2 : (l ++ marksL 5)[k]? = some x := by rw [List.getElem?_append_left hlt]; exact hx
    have x1 := fr_cell HF.out (HV.out k x hx2)
    obtain ⟨gu, ou, rfl, x2⟩ := rdS_int (HU.out.fr HF.out) hx
    have hki : (k : Int) < (l.length : Int) := by omega
    have hki2 : (k : Int) < (l.length : Int) + 5 := by omega
    have hk0 : (0 : Int) ≤ (k : Int) := by omega
    clear hx hx2
    go_wp2_with fail
    refine Reg.wp_region_text (by kernel_rfl) (by kernel_rfl) ?_
    go_wp2_with fail
    refine ⟨by kernel_rfl, ?_⟩
    go_wp2_with fail
    go_roundg (gk - 1)
    case measure => omega
    case rel => exact ⟨k + 1, by omega, by go_num, HF.out.drew⟩
  case neg =>
  by_cases hlt2 : k < l.length + 5
  case pos =>
    obtain ⟨j, rfl⟩ : ∃ j, k = l.length + j := ⟨k - l.length, by omega⟩
    have hx2 : (l ++ marksL 5)[l.length + j]? = some (-71 - (j : Int)) := by
      rw [List.getElem?_append_right (by omega), Nat.add_sub_cancel_left]
      unfold marksL
      rw [List.getElem?_map, List.getElem?_range (by omega)]; rfl
    have x1 := fr_cell HF.out (HV.out _ _ hx2)
    have hki : ¬ ((l.length + j : Nat) : Int) < (l.length : Int) := by omega
    have hki3 : (l.length : Int) ≤ ((l.length + j : Nat) : Int) := by omega
    have hki2 : ((l.length + j : Nat) : Int) < (l.length : Int) + 5 := by omega
    have hk0 : (0 : Int) ≤ ((l.length + j : Nat) : Int) := by omega
    clear hx2
    go_wp2_with fail
    refine Reg.wp_region_text (by kernel_rfl) (by kernel_rfl) ?_
    go_wp2_with fail
    refine ⟨by kernel_rfl, ?_⟩
    go_wp2_with fail
    go_roundg (gk - 1)
    case measure => omega
    case rel => exact ⟨l.length + j + 1, by omega, by go_num, HF.out.drew⟩
  case neg =>
    have hki : ¬ (k : Int) < (l.length : Int) + 5 := by omega
    go_wp2_with fail
    go_ret
    exact ⟨rfl, HF.out⟩
set_option maxRecDepth 100000 in
set_option maxHeartbeats 8000000 in
theorem node_t (n m : Nd) (kv ku : Value) (w : World) (h : m.kind = n.kind ∧ m.at_ = n.at_ ∧ m.where_ = n.where_ ∧ m.close = n.close ∧ m.decl = n.decl ∧ m.type = n.type ∧ m.op = n.op ∧ m.value = n.value ∧ m.name = n.name) :
    Calls Tryd.prog 44 #[ndV n kv, ndV m ku] w fun e w' => e = .returned (.bool true) ∧ Fr w w' := by
  obtain ⟨k1, k2, k3, k4, k5, k6, k7, k8, k9⟩ := h
  obtain ⟨a0, a1, a2, a3, a4, a5, a6, a7, nm, ks⟩ := n
  obtain ⟨b0, b1, b2, b3, b4, b5, b6, b7, nm', ks'⟩ := m
  dsimp only at k1 k2 k3 k4 k5 k6 k7 k8 k9
  subst k1 k2 k3 k4 k5 k6 k7 k8 k9
  have H1 := Lib.hid ((Hs.start w).alloc (ndC (⟨b0, b1, b2, b3, b4, b5, b6, b7, nm', ks⟩ : Nd) kv) 45)
  have H2 := Lib.hid (H1.out.alloc (ndC (⟨b0, b1, b2, b3, b4, b5, b6, b7, nm', ks'⟩ : Nd) ku) 45)
  have HF := Lib.hid (fr_of_kp H2.out.kp)
  unfold ndV
  dsimp only
  go_enter Tryd.func44, Tryd.ntmps44
  go_wp2_with fail
  go_ret
  exact ⟨by simp, HF.out⟩
end Go.Proofs.YtllahgnpjodgmaaDoor

set_option linter.unusedVariables false
namespace Go.Proofs.YtllahgnpjodgmaaDoor
open Go Go.RowKit Mem Pm
theorem infoRows : (Tryd.prog.info? 23).map (fun i => (i.zero, i.size, i.bytes)) = some (some (.slice none 0 0), 1, 24) := by kernel_rfl
/-- A slice of so many out of a block. -/
def kW (L : Nat) (p : Nat × Nat) : Value := .slice (some ⟨p.1, 0, none⟩) L p.2
def klr (D : List (List Int)) (Ps : List (Nat × Nat)) (tl : List Int) : List Res := (D.zip Ps).map fun q => .row 3 1 (kW (q.1.length + 5) q.2) (q.1.length + 5) (ints (q.1 ++ tl))
def klc (D : List (List Int)) (Ps : List (Nat × Nat)) : List Value := (D.zip Ps).map fun q => kW (q.1.length + 5) q.2
def nlF (l : List Nd) (Ps : List (Nat × Nat)) : List (Nd × Value) := (l.zip Ps).map fun q => (q.1, kW q.1.kids.length q.2)
def kidsL (l : List Nd) : List (List Int) := l.map Nd.kids
/-- What was lent. -/
def lres (x gN cN gF cF n m : Nat) (vK : Value) (NL : List (Nd × Value)) (FC : List Int) (D : List (List Int)) (Ps : List (Nat × Nat)) (tl : List Int) : List Res :=
  .blk x 59 [kW n (gN, cN), kW m (gF, cF), kW (n + 2) (gN, cN), kW (m + 5) (gF, cF), vK] :: .row 45 10 (kW (n + 2) (gN, cN)) (n + 2) (ndsC NL) :: .row 3 1 (kW (m + 5) (gF, cF)) (m + 5) (ints FC) :: .row 23 1 vK n (klc D Ps) :: klr D Ps tl
def nMark (k : Int) : Nd := { kind := k }
def marksN : List (Nd × Value) := [(nMark (-71), .slice none 0 0), (nMark (-72), .slice none 0 0)]
theorem kidsL_snoc (l : List Nd) (N : Nd) : kidsL (l ++ [N]) = kidsL l ++ [N.kids] := by unfold kidsL; rw [List.map_append]; rfl
theorem kidsL_len (l : List Nd) : (kidsL l).length = l.length := List.length_map _
theorem klr_snoc {D : List (List Int)} {Ps : List (Nat × Nat)} {d : List Int} {p : Nat × Nat} {tl : List Int} (h : Ps.length = D.length) : klr (D ++ [d]) (Ps ++ [p]) tl = klr D Ps tl ++ [.row 3 1 (kW (d.length + 5) p) (d.length + 5) (ints (d ++ tl))] := by
  unfold klr; rw [List.zip_append h.symm, List.map_append]; rfl
theorem klc_snoc {D : List (List Int)} {Ps : List (Nat × Nat)} {d : List Int} {p : Nat × Nat} (h : Ps.length = D.length) : klc (D ++ [d]) (Ps ++ [p]) = klc D Ps ++ [kW (d.length + 5) p] := by
  unfold klc; rw [List.zip_append h.symm, List.map_append]; rfl
theorem nlF_snoc {l : List Nd} {Ps : List (Nat × Nat)} {N : Nd} {p : Nat × Nat} (h : Ps.length = l.length) : nlF (l ++ [N]) (Ps ++ [p]) = nlF l Ps ++ [(N, kW N.kids.length p)] := by
  unfold nlF; rw [List.zip_append h.symm, List.map_append]; rfl
set_option maxRecDepth 100000 in
set_option maxHeartbeats 16000000 in
theorem lend_c (nodes : List Nd) (funcs : List Int) (nd fu : Value) (w : World) (h : TreeRd w nodes funcs nd fu) (hn : nodes.length ≤ 1000000) (hf : funcs.length ≤ 1000000) (he : ∀ n ∈ nodes, n.kids.length ≤ 1000000) :
    Calls Tryd.prog 26 #[.agg #[nd, fu]] w fun e w' => ∃ (x gN cN gF cF : Nat) (vK : Value) (Ps : List (Nat × Nat)), e = .returned (.pointer (some ⟨x, 0, none⟩)) ∧ Ps.length = nodes.length ∧
      Gives w w' (lres x gN cN gF cF nodes.length funcs.length vK (nlF nodes Ps ++ marksN) (funcs ++ marksL 5) (kidsL nodes) Ps (marksL 5)) := by
  obtain ⟨i1, hi1, hy0, hy1, hy2⟩ := info_parts infoNode
  obtain ⟨i2, hi2, hx0, hx1, hx2⟩ := info_parts infoRows
  obtain ⟨an, cn, rfl, hcn⟩ : ∃ an cn, nd = .slice an nodes.length cn ∧ nodes.length ≤ cn := by obtain ⟨_, _, ⟨a, c, h1, h2, _⟩, _⟩ := h.nds; exact ⟨a, c, h1, h2⟩
  obtain ⟨af, cf, rfl, hcf⟩ : ∃ af cf, fu = .slice af funcs.length cf ∧ funcs.length ≤ cf := by obtain ⟨a, c, h1, h2, _⟩ := h.funcs; exact ⟨a, c, h1, h2⟩
  have HT := Lib.hid h
  have HE := Lib.hid he
  have H1 := Lib.hid (((((Hs.start w).alloc [.slice an nodes.length cn, .slice af funcs.length cf] 25).alloc [.slice none 0 0, .slice none 0 0, .slice none 0 0, .slice none 0 0, .slice none 0 0] 59).nil 23 1).nil 45 10)
  clear h he
  go_enter Tryd.func26, Tryd.ntmps26
  go_upto_region 2 with fail
  obtain ⟨W0, hW0⟩ : ∃ W, W = (w.alloc (.cells #[.slice an nodes.length cn, .slice af funcs.length cf] 25)).alloc (.cells #[.slice none 0 0, .slice none 0 0, .slice none 0 0, .slice none 0 0, .slice none 0 0] 59) := ⟨_, rfl⟩
  obtain ⟨x, hx⟩ : ∃ x, x = w.heap.size + 1 := ⟨_, rfl⟩
  obtain ⟨bt, hbt⟩ : ∃ bt, bt = w.heap.size := ⟨_, rfl⟩
  have H2 : Hid (Hs (fun k => k < w.heap.size) w W0 [.row 45 10 (.slice none 0 0) 0 [], .row 23 1 (.slice none 0 0) 0 [], .blk x 59 [.slice none 0 0, .slice none 0 0, .slice none 0 0, .slice none 0 0, .slice none 0 0], .blk bt 25 [.slice an nodes.length cn, .slice af funcs.length cf]]) := Lib.hid (by
    have h := H1.out
    rw [size_alloc'] at h
    rw [hx, hbt, hW0]; exact h)
  rw [← hW0]
  rw [← hx]
  rw [← hbt]
  clear H1 hW0 hx
  go_wp2_with fail
  go_loopg [4] nodes.length (fun m v4 wr => ∃ (i : Nat) (vN vK : Value) (Ps : List (Nat × Nat)), i + m = nodes.length ∧ v4 = .int .i64 (i : Int) ∧ Ps.length = i ∧
    Hs (fun k => k < w.heap.size) w wr ([.row 45 10 vN i (ndsC (nlF (nodes.take i) Ps)), .row 23 1 vK i (klc (kidsL (nodes.take i)) Ps), .blk x 59 [.slice none 0 0, .slice none 0 0, vN, .slice none 0 0, vK], .blk bt 25 [.slice an nodes.length cn, .slice af funcs.length cf]] ++ klr (kidsL (nodes.take i)) Ps (marksL 5)))
  case atStart => exact ⟨0, _, _, [], by omega, rfl, rfl, H2.out⟩
  case round =>
  obtain ⟨i, vN, vK, Ps, him, rfl, hpl, hh⟩ := hrel
  obtain ⟨aN, cN, rfl, _, _⟩ := hh.form 0 rfl
  obtain ⟨aK, cK, rfl, _, _⟩ := hh.form 1 rfl
  have Hh := Lib.hid hh
  have HPl := Lib.hid hpl
  have HFr := Lib.hid (fr_of_kp hh.kp)
  have HBt := Lib.hid hbt
  have b0 := hh.cell 3 rfl 0 rfl
  have b1 := hh.cell 3 rfl 1 rfl
  have c2 := hh.cell 2 rfl 2 rfl
  have c4 := hh.cell 2 rfl 4 rfl
  clear hh hpl H2 hbt
  by_cases hlt : i < nodes.length
  case pos =>
    have hki : (i : Int) < (nodes.length : Int) := by omega
    have hk0 : (0 : Int) ≤ (i : Int) := by omega
    obtain ⟨g, off, ak, ck, rfl, hkr, x0, x1, x2, x3, x4, x5, x6, x7, x8, x9⟩ := node_at (HT.out.fr HFr.out) hlt
    have htk : nodes.take (i + 1) = nodes.take i ++ [nodes[i]] := by rw [List.take_add_one, List.getElem?_eq_getElem hlt]; rfl
    have hke := HE.out _ (List.getElem_mem hlt)
    have HTk := Lib.hid htk
    have HKr := Lib.hid hkr
    clear htk hkr
    generalize nodes[i] = N at x0 x1 x2 x3 x4 x5 x6 x7 x8 x9 hke HTk HKr
    have Hn := Lib.hid (Hh.out.alloc (ndC N (.slice ak N.kids.length ck)) 45)
    have HR2 := Lib.hid (HKr.out.fr ((Ch.refl _ wr).alloc (.cells (ndC N (.slice ak N.kids.length ck)).toArray 45)))
    go_wp2_with fail
    refine (numbers_c N.kids _ _ HR2.out hke).mono ?_
    rintro e w5 ⟨v5, rfl, hg5⟩
    have hh5 := hg5 _ _ _ Hn.out
    obtain ⟨a5, c5, rfl, hc5, hf5⟩ := hh5.form 0 rfl
    obtain ⟨g5, rfl, _⟩ := hf5 (Nat.succ_pos _)
    have H5 := Lib.hid hh5
    have n9 := hh5.cell 1 rfl 9 rfl
    replace c4 := hh5.cell 4 rfl 4 rfl
    have hi9 : i ≤ 1000000000 := by omega
    have H6 := Lib.hid (hh5.alloc [.slice (some ⟨g5, 0, none⟩) (N.kids.length + 5) c5] 23)
    clear hg5 hh5 hf5 Hn HR2 HKr x0 x1 x2 x3 x4 x5 x6 x7 x8 x9 b0 b1 c2
    go_wp2_with (at_builtin; go_must (refine Hs.push rfl _ _ 57 rfl 23 i2 _ 1 24 (by kernel_rfl) hi2 hx0 hx1 hx2 rfl (Nat.succ_pos _) (Nat.le_of_ble_eq_true rfl) 4 (.slice aK i cK) i (klc (kidsL (nodes.take i)) Ps) rfl 0 w5.heap.size [.slice (some ⟨g5, 0, none⟩) (N.kids.length + 5) c5] rfl rfl rfl rfl rfl hi9 H6.out ?_))
    intro v6 w6 hh6
    obtain ⟨a6, c6, rfl, _, _⟩ := hh6.form 4 rfl
    have e4 := hh6.cell 5 rfl 4 rfl
    have z4 := hh6.froz 5 rfl 4
    have H7 := Lib.hid (hh6.tail.set_ 4 rfl 4 (.slice a6 (i + 1) c6))
    clear hh6 H5 H6 c4 n9
    go_upto_region 8 with fail
    obtain ⟨W7, hW7⟩ : ∃ W, W = w6.setCell ⟨x, 4, none⟩ (.slice a6 (i + 1) c6) := ⟨_, rfl⟩
    have H8 : Hid (Hs (fun k => k < w.heap.size) w W7 (.row 3 1 (.slice (some ⟨g5, 0, none⟩) (N.kids.length + 5) c5) (N.kids.length + 5) (ints (N.kids ++ marksL 5)) :: .blk wr.heap.size 45 (ndC N (.slice ak N.kids.length ck)) :: ([.row 45 10 (.slice aN i cN) i (ndsC (nlF (nodes.take i) Ps)), .row 23 1 (.slice a6 (i + 1) c6) (i + 1) (klc (kidsL (nodes.take i)) Ps ++ [.slice (some ⟨g5, 0, none⟩) (N.kids.length + 5) c5]), .blk x 59 [.slice none 0 0, .slice none 0 0, .slice aN i cN, .slice none 0 0, .slice a6 (i + 1) c6], .blk bt 25 [.slice (some ⟨g, off, none⟩) nodes.length cn, .slice af funcs.length cf]] ++ klr (kidsL (nodes.take i)) Ps (marksL 5)))) := Lib.hid (by rw [hW7]; exact H7.out)
    rw [← hW7]
    clear hW7 H7 e4 z4
    have n9 := H8.out.cell 1 rfl 9 rfl
    have z9 := H8.out.froz 1 rfl 9
    go_wp2_with fail
    obtain ⟨W8, hW8⟩ : ∃ W, W = W7.setCell ⟨wr.heap.size, 9, none⟩ (.slice (some ⟨g5, 0, none⟩) N.kids.length c5) := ⟨_, rfl⟩
    have H9 : Hid (Hs (fun k => k < w.heap.size) w W8 (.row 3 1 (.slice (some ⟨g5, 0, none⟩) (N.kids.length + 5) c5) (N.kids.length + 5) (ints (N.kids ++ marksL 5)) :: .blk wr.heap.size 45 (ndC N (.slice (some ⟨g5, 0, none⟩) N.kids.length c5)) :: ([.row 45 10 (.slice aN i cN) i (ndsC (nlF (nodes.take i) Ps)), .row 23 1 (.slice a6 (i + 1) c6) (i + 1) (klc (kidsL (nodes.take i)) Ps ++ [.slice (some ⟨g5, 0, none⟩) (N.kids.length + 5) c5]), .blk x 59 [.slice none 0 0, .slice none 0 0, .slice aN i cN, .slice none 0 0, .slice a6 (i + 1) c6], .blk bt 25 [.slice (some ⟨g, off, none⟩) nodes.length cn, .slice af funcs.length cf]] ++ klr (kidsL (nodes.take i)) Ps (marksL 5)))) := Lib.hid (by rw [hW8]; exact H8.out.set_ 1 rfl 9 _)
    rw [← hW8]
    clear hW8 H8 n9 z9
    have d0 := H9.out.cell 1 rfl 0 rfl
    have d1 := H9.out.cell 1 rfl 1 rfl
    have d2 := H9.out.cell 1 rfl 2 rfl
    have d3 := H9.out.cell 1 rfl 3 rfl
    have d4 := H9.out.cell 1 rfl 4 rfl
    have d5 := H9.out.cell 1 rfl 5 rfl
    have d6 := H9.out.cell 1 rfl 6 rfl
    have d7 := H9.out.cell 1 rfl 7 rfl
    have d8 := H9.out.cell 1 rfl 8 rfl
    have d9 := H9.out.cell 1 rfl 9 rfl
    have c2 := H9.out.cell 4 rfl 2 rfl
    have Hn := Lib.hid (H9.out.alloc (ndC N (.slice (some ⟨g5, 0, none⟩) N.kids.length c5)) 45)
    refine Reg.wp_region_text (by kernel_rfl) (by kernel_rfl) ?_
    go_wp2_with (at_builtin; go_must (refine Hs.push rfl _ _ 22 rfl 45 i1 _ 10 104 (by kernel_rfl) hi1 hy0 hy1 hy2 rfl (Nat.succ_pos _) (Nat.le_of_ble_eq_true rfl) 3 (.slice aN i cN) i (ndsC (nlF (nodes.take i) Ps)) rfl 0 W8.heap.size (ndC N (.slice (some ⟨g5, 0, none⟩) N.kids.length c5)) rfl rfl rfl rfl rfl hi9 Hn.out.drew ?_))
    intro v9 w9 hh9
    obtain ⟨a9, c9, rfl, _, _⟩ := hh9.form 3 rfl
    have e2 := hh9.cell 5 rfl 2 rfl
    have z2 := hh9.froz 5 rfl 2
    have HA := Lib.hid (hh9.tail.set_ 4 rfl 2 (.slice a9 (i + 1) c9))
    clear hh9 Hn H9 d0 d1 d2 d3 d4 d5 d6 d7 d8 d9 c2
    go_wp2_with fail
    refine ⟨by kernel_rfl, ?_⟩
    go_wp2_with fail
    go_roundg (gk - 1)
    case measure => omega
    case rel =>
      have hlk : Ps.length = (nodes.take i).length := by rw [List.length_take, HPl.out]; omega
      refine ⟨i + 1, .slice a9 (i + 1) c9, .slice a6 (i + 1) c6, Ps ++ [(g5, c5)], by omega, by go_num, by rw [List.length_append, HPl.out]; rfl, ?_⟩
      rw [HTk.out, kidsL_snoc, klr_snoc (by rw [kidsL_len]; exact hlk), klc_snoc (by rw [kidsL_len]; exact hlk), nlF_snoc hlk, ndsC_app, ← List.append_assoc]
      have h1 := HA.out.sub ((List.sublist_cons_self _ _).cons_cons _)
      exact Hs.mid (l := [.row 45 10 (.slice a9 (i + 1) c9) (i + 1) (ndsC (nlF (nodes.take i) Ps) ++ ndC N (.slice (some ⟨g5, 0, none⟩) N.kids.length c5)), .row 23 1 (.slice a6 (i + 1) c6) (i + 1) (klc (kidsL (nodes.take i)) Ps ++ [.slice (some ⟨g5, 0, none⟩) (N.kids.length + 5) c5]), .blk x 59 [.slice none 0 0, .slice none 0 0, .slice a9 (i + 1) c9, .slice none 0 0, .slice a6 (i + 1) c6], .blk bt 25 [.slice (some ⟨g, off, none⟩) nodes.length cn, .slice af funcs.length cf]] ++ klr (kidsL (nodes.take i)) Ps (marksL 5)) (m := []) (by rw [List.append_nil]; exact h1)
  case neg =>
    have hki : ¬ (i : Int) < (nodes.length : Int) := by omega
    have hin : i = nodes.length := by omega
    have htk : nodes.take i = nodes := List.take_of_length_le (by omega)
    rw [htk] at Hh
    have HIn := Lib.hid hin
    have hi9 : i + 2 ≤ 1000000001 := by omega
    have Hn := Lib.hid (Hh.out.alloc (ndC (nMark (-71)) (.slice none 0 0) ++ ndC (nMark (-72)) (.slice none 0 0)) 45)
    clear htk hin
    go_wp2_with (at_builtin; go_must (refine Hs.pushN rfl _ _ 22 rfl 45 i1 _ 10 104 (by kernel_rfl) hi1 hy0 hy1 hy2 rfl (Nat.succ_pos _) (Nat.le_of_ble_eq_true rfl) 1 (.slice aN i cN) i (ndsC (nlF nodes Ps)) rfl 0 wr.heap.size 2 (ndC (nMark (-71)) (.slice none 0 0) ++ ndC (nMark (-72)) (.slice none 0 0)) rfl rfl rfl (by decide) rfl rfl hi9 Hn.out ?_))
    intro v9 w9 hh9
    obtain ⟨a9, c9, rfl, hc9, hf9⟩ := hh9.form 1 rfl
    obtain ⟨g9, rfl, _⟩ := hf9 (Nat.succ_pos _)
    have e2 := hh9.cell 3 rfl 2 rfl
    have z2 := hh9.froz 3 rfl 2
    have b0' := hh9.cell 4 rfl 0 rfl
    have b1' := hh9.cell 4 rfl 1 rfl
    have HA := Lib.hid (hh9.tail.set_ 2 rfl 2 (.slice (some ⟨g9, 0, none⟩) (i + 2) c9))
    clear hh9 Hn Hh b0 b1 c2 c4
    go_upto_region 11 with fail
    obtain ⟨W9, hW9⟩ : ∃ W, W = w9.setCell ⟨x, 2, none⟩ (.slice (some ⟨g9, 0, none⟩) (i + 2) c9) := ⟨_, rfl⟩
    have HB : Hid (Hs (fun k => k < w.heap.size) w W9 ([.row 45 10 (.slice (some ⟨g9, 0, none⟩) (i + 2) c9) (i + 2) (ndsC (nlF nodes Ps ++ marksN)), .row 23 1 (.slice aK i cK) i (klc (kidsL nodes) Ps), .blk x 59 [.slice none 0 0, .slice none 0 0, .slice (some ⟨g9, 0, none⟩) (i + 2) c9, .slice none 0 0, .slice aK i cK], .blk bt 25 [.slice an nodes.length cn, .slice af funcs.length cf]] ++ klr (kidsL nodes) Ps (marksL 5))) := Lib.hid (by
      have e : ndsC (nlF nodes Ps ++ marksN) = ndsC (nlF nodes Ps) ++ (ndC (nMark (-71)) (.slice none 0 0) ++ ndC (nMark (-72)) (.slice none 0 0)) := by rw [ndsC_app]; rfl
      rw [hW9, e]; exact HA.out)
    rw [← hW9]
    clear hW9 HA e2 z2 b0' b1'
    have b0 := HB.out.cell 3 rfl 0 rfl
    have b1 := HB.out.cell 3 rfl 1 rfl
    have hfr := fr_of_kp HB.out.kp
    go_wp2_with fail
    refine (numbers_c funcs _ _ (HT.out.funcs.fr hfr) hf).mono ?_
    rintro e w5 ⟨v5, rfl, hg5⟩
    have hh5 := hg5 _ _ _ HB.out
    obtain ⟨a5, c5, rfl, hc5, hf5⟩ := hh5.form 0 rfl
    obtain ⟨g5, rfl, _⟩ := hf5 (Nat.succ_pos _)
    have e3 := hh5.cell 3 rfl 3 rfl
    have z3 := hh5.froz 3 rfl 3
    have HC := Lib.hid (hh5.set_ 3 rfl 3 (.slice (some ⟨g5, 0, none⟩) (funcs.length + 5) c5))
    clear hg5 hh5 hf5 hfr b0 b1 HB
    go_upto_region 12 with fail
    obtain ⟨WC, hWC⟩ : ∃ W, W = w5.setCell ⟨x, 3, none⟩ (.slice (some ⟨g5, 0, none⟩) (funcs.length + 5) c5) := ⟨_, rfl⟩
    rw [← hWC] at HC ⊢
    clear hWC e3 z3
    have b0 := HC.out.cell 4 rfl 0 rfl
    have b1 := HC.out.cell 4 rfl 1 rfl
    have c0 := HC.out.cell 3 rfl 0 rfl
    have c1 := HC.out.cell 3 rfl 1 rfl
    have c2 := HC.out.cell 3 rfl 2 rfl
    have c3 := HC.out.cell 3 rfl 3 rfl
    have z0 := HC.out.froz 3 rfl 0
    have z1 := HC.out.froz 3 rfl 1
    refine Reg.wp_region_text (by kernel_rfl) (by kernel_rfl) ?_
    go_wp2_with fail
    refine ⟨by kernel_rfl, ?_⟩
    go_wp2_with fail
    go_ret
    refine ⟨x, g9, c9, g5, c5, .slice aK i cK, Ps, rfl, by rw [HPl.out, HIn.out], gives_of ?_⟩
    have h1 := (((HC.out.set_ 3 rfl 0 (.slice (some ⟨g9, 0, none⟩) i c9)).set_ 3 rfl 1 (.slice (some ⟨g5, 0, none⟩) funcs.length c5)).drew)
    have h2 := Hs.front (l := [.row 3 1 (.slice (some ⟨g5, 0, none⟩) (funcs.length + 5) c5) (funcs.length + 5) (ints (funcs ++ marksL 5)), .row 45 10 (.slice (some ⟨g9, 0, none⟩) (i + 2) c9) (i + 2) (ndsC (nlF nodes Ps ++ marksN)), .row 23 1 (.slice aK i cK) i (klc (kidsL nodes) Ps)]) h1
    have h3 := h2.perm (.cons _ (.swap _ _ _))
    have h4 := h3.sub ((((List.sublist_cons_self _ _).cons_cons _).cons_cons _).cons_cons _ |>.cons_cons _)
    rw [← HIn.out]
    exact h4
end Go.Proofs.YtllahgnpjodgmaaDoor

set_option linter.unusedVariables false
namespace Go.Proofs.YtllahgnpjodgmaaDoor
open Go Go.RowKit Mem Pm
/-- A part of a row's cells, from its beginning, under a shorter slice. -/
theorem rdS_part {A : Nat → Prop} {w0 w : World} {rs : List Res} (H : Hs A w0 w rs) (i : Nat) {e : TypeId} {size L n : Nat} {p : Nat × Nat} {ys zs : List Value} (hi : rs[i]? = some (.row e size (kW n p) n (ys ++ zs))) (hL : L ≤ n) : RdS w (kW L p) L ys := by
  obtain ⟨a, cap, he, hc, hg⟩ := H.form i hi
  injection he with e1 _ e2
  subst e2
  refine ⟨some ⟨p.1, 0, none⟩, p.2, rfl, by omega, fun hx => ⟨p.1, 0, rfl, fun j u hu => ?_⟩⟩
  rw [Nat.zero_add]
  exact H.rcell i hi (g := p.1) rfl j (by rw [List.getElem?_append_left (List.getElem?_eq_some_iff.1 hu).1]; exact hu)
theorem nlF_zip {l : List Nd} {Ps : List (Nat × Nat)} (h : Ps.length = l.length) : l.zip ((l.zip Ps).map fun q => kW q.1.kids.length q.2) = nlF l Ps := by
  unfold nlF
  induction l generalizing Ps with
  | nil => rfl
  | cons n l ih =>
    cases Ps with
    | nil => simp at h
    | cons p Ps =>
      show (n, kW n.kids.length p) :: _ = (n, kW n.kids.length p) :: _
      congr 1
      exact ih (by simpa using h)
theorem nlF_len {l : List Nd} {Ps : List (Nat × Nat)} (h : Ps.length = l.length) : (nlF l Ps).length = l.length := by unfold nlF; rw [List.length_map, List.length_zip]; omega
theorem nlF_get {l : List Nd} {Ps : List (Nat × Nat)} {i : Nat} {n : Nd} {p : Nat × Nat} (h1 : l[i]? = some n) (h2 : Ps[i]? = some p) : (nlF l Ps)[i]? = some (n, kW n.kids.length p) := by
  unfold nlF
  have hz : (l.zip Ps)[i]? = some (n, p) := List.getElem?_zip_eq_some.2 ⟨h1, h2⟩
  rw [List.getElem?_map, hz]; rfl
/-- What was lent reads as a tree. -/
theorem lent_read {A : Nat → Prop} {w0 w : World} {rs : List Res} {x gN cN gF cF n m : Nat} {vK : Value} {u : List Nd} {fu : List Int} {T2 : List (Nd × Value)} {tf tl : List Int} {Ps : List (Nat × Nat)} (hn : n = u.length) (hm : m = fu.length) (hp : Ps.length = u.length)
    (H : Hs A w0 w (lres x gN cN gF cF n m vK (nlF u Ps ++ T2) (fu ++ tf) (kidsL u) Ps tl ++ rs)) : TreeRd w u fu (kW n (gN, cN)) (kW m (gF, cF)) := by
  subst hn hm
  refine ⟨⟨(u.zip Ps).map fun q => kW q.1.kids.length q.2, by rw [List.length_map, List.length_zip]; omega, ?_, ?_⟩, ?_⟩
  · rw [nlF_zip hp]
    exact rdS_part H 1 (zs := ndsC T2) (n := u.length + 2) (by rw [← ndsC_app]; rfl) (by omega)
  · rw [nlF_zip hp]
    intro q hq
    obtain ⟨i, hi, rfl⟩ := List.getElem_of_mem hq
    have hiu : i < u.length := by rw [nlF_len hp] at hi; exact hi
    have hg := nlF_get (List.getElem?_eq_getElem hiu) (List.getElem?_eq_getElem (show i < Ps.length by omega))
    rw [List.getElem?_eq_getElem hi] at hg
    injection hg with hg
    rw [hg]
    have hr : (lres x gN cN gF cF u.length fu.length vK (nlF u Ps ++ T2) (fu ++ tf) (kidsL u) Ps tl ++ rs)[i + 4]? = some (.row 3 1 (kW ((u[i]).kids.length + 5) (Ps[i]'(by omega))) ((u[i]).kids.length + 5) (ints ((u[i]).kids ++ tl))) := by
      show (klr (kidsL u) Ps tl ++ rs)[i]? = _
      have hz : ((kidsL u).zip Ps)[i]? = some ((u[i]).kids, Ps[i]'(by omega)) := List.getElem?_zip_eq_some.2 ⟨by unfold kidsL; rw [List.getElem?_map, List.getElem?_eq_getElem hiu]; rfl, List.getElem?_eq_getElem (by omega)⟩
      have hk : (klr (kidsL u) Ps tl)[i]? = some (.row 3 1 (kW ((u[i]).kids.length + 5) (Ps[i]'(by omega))) ((u[i]).kids.length + 5) (ints ((u[i]).kids ++ tl))) := by
        unfold klr; rw [List.getElem?_map, hz]; rfl
      rw [List.getElem?_append_left (List.getElem?_eq_some_iff.1 hk).1]; exact hk
    rw [ints_app] at hr
    exact rdS_part H (i + 4) hr (by omega)
  · exact rdS_part H 2 (zs := ints tf) (n := fu.length + 5) (by rw [← ints_app]; rfl) (by omega)
/-- The rows of kids, one by one: how long, where, what. -/
def krow (q : Nat × (Nat × Nat) × List Int) : Res := .row 3 1 (kW q.1 q.2.1) q.1 (ints q.2.2)
def kcell (q : Nat × (Nat × Nat) × List Int) : Value := kW q.1 q.2.1
def klG (D : List (List Int)) (Ps : List (Nat × Nat)) (tl : List Int) : List (Nat × (Nat × Nat) × List Int) := (D.zip Ps).map fun q => (q.1.length + 5, q.2, q.1 ++ tl)
theorem klr_eq (D : List (List Int)) (Ps : List (Nat × Nat)) (tl : List Int) : klr D Ps tl = (klG D Ps tl).map krow := by unfold klr klG; rw [List.map_map]; rfl
theorem klc_eq (D : List (List Int)) (Ps : List (Nat × Nat)) (tl : List Int) : klc D Ps = (klG D Ps tl).map kcell := by unfold klc klG; rw [List.map_map]; rfl
def kst (x gN cN gF cF n m : Nat) (vK : Value) (NL : List (Nd × Value)) (FC : List Int) (KL : List (Nat × (Nat × Nat) × List Int)) (rs : List Res) : List Res :=
  .blk x 59 [kW n (gN, cN), kW m (gF, cF), kW (n + 2) (gN, cN), kW (m + 5) (gF, cF), vK] :: .row 45 10 (kW (n + 2) (gN, cN)) (n + 2) (ndsC NL) :: .row 3 1 (kW (m + 5) (gF, cF)) (m + 5) (ints FC) :: .row 23 1 vK n (KL.map kcell) :: (KL.map krow ++ rs)
theorem lres_kst (x gN cN gF cF n m : Nat) (vK : Value) (NL : List (Nd × Value)) (FC : List Int) (D : List (List Int)) (Ps : List (Nat × Nat)) (tl : List Int) (rs : List Res) :
    lres x gN cN gF cF n m vK NL FC D Ps tl ++ rs = kst x gN cN gF cF n m vK NL FC (klG D Ps tl) rs := by
  unfold lres kst
  rw [← klr_eq, ← klc_eq]; rfl
theorem kst_get {x gN cN gF cF n m : Nat} {vK : Value} {NL : List (Nd × Value)} {FC : List Int} {KL : List (Nat × (Nat × Nat) × List Int)} {rs : List Res} {i : Nat} {q : Nat × (Nat × Nat) × List Int} (h : KL[i]? = some q) :
    (kst x gN cN gF cF n m vK NL FC KL rs)[i + 4]? = some (krow q) := by
  show (KL.map krow ++ rs)[i]? = _
  have hk : (KL.map krow)[i]? = some (krow q) := by rw [List.getElem?_map, h]; rfl
  rw [List.getElem?_append_left (List.getElem?_eq_some_iff.1 hk).1]; exact hk
theorem kst_set {x gN cN gF cF n m : Nat} {vK : Value} {NL : List (Nd × Value)} {FC : List Int} {KL : List (Nat × (Nat × Nat) × List Int)} {rs : List Res} {i L : Nat} {p : Nat × Nat} {R R' : List Int} (h : KL[i]? = some (L, p, R)) :
    (kst x gN cN gF cF n m vK NL FC KL rs).set (i + 4) (.row 3 1 (kW L p) L (ints R')) = kst x gN cN gF cF n m vK NL FC (KL.set i (L, p, R')) rs := by
  have hi := (List.getElem?_eq_some_iff.1 h).1
  have e1 : (KL.set i (L, p, R')).map kcell = KL.map kcell := by
    rw [List.map_set]
    exact set_self (by rw [List.getElem?_map, h]; rfl)
  have e2 : (KL.map krow ++ rs).set i (.row 3 1 (kW L p) L (ints R')) = (KL.set i (L, p, R')).map krow ++ rs := by
    rw [List.set_append_left _ _ (by rw [List.length_map]; exact hi), List.map_set]; rfl
  unfold kst
  rw [e1, ← e2]; rfl
end Go.Proofs.YtllahgnpjodgmaaDoor
