/- quernlaw4's num, sameInts, node, same where both sides are alike. -/
import Derived.Test.YthodjlhjfaccpaaRp
set_option linter.unusedVariables false
namespace Go.Proofs.Ythodjlhjfaccpaa
open Go Go.RowKit Mem Pm

/-- A slice that reads as these cells. -/
def RdS (w : World) (v : Value) (n : Nat) (xs : List Value) : Prop := ∃ a cap, v = .slice a n cap ∧ n ≤ cap ∧ (xs ≠ [] → ∃ g off, a = some ⟨g, off, none⟩ ∧ ∀ j u, xs[j]? = some u → w.cell? ⟨g, off + j, none⟩ = some u)
theorem RdS.fr {w w' : World} {v : Value} {n : Nat} {xs : List Value} (h : RdS w v n xs) (hf : Fr w w') : RdS w' v n xs := by
  obtain ⟨a, cap, h1, h2, h3⟩ := h
  refine ⟨a, cap, h1, h2, fun hx => ?_⟩
  obtain ⟨g, off, h4, h5⟩ := h3 hx
  refine ⟨g, off, h4, fun j u hu => ?_⟩
  have h6 := h5 j u hu
  have hlt := block_lt_of_cell h6
  exact (World.cell?_of_block (hf.block g hlt id)).trans h6
theorem rdS_row {A : Nat → Prop} {w0 w : World} {rs : List Res} (h : Hs A w0 w rs) (i : Nat) {e : TypeId} {size n : Nat} {v : Value} {xs : List Value} (hi : rs[i]? = some (.row e size v n xs)) : RdS w v n xs := by
  obtain ⟨a, cap, rfl, hl, hg⟩ := h.form i hi
  refine ⟨a, cap, rfl, hl, fun hx => ?_⟩
  obtain ⟨g, h1, h2⟩ := h.rdRow i hi hx
  exact ⟨g, 0, h1, fun j u hu => by rw [Nat.zero_add]; exact h2 j u hu⟩

set_option maxRecDepth 100000 in
set_option maxHeartbeats 2000000 in
theorem num_c (e0 : Int) (w : World) : Calls Try.prog 15 #[.int .i64 e0] w fun e w' => e = .returned (.int .i64 e0) ∧ w = w' := by
  go_enter Try.func15, Try.ntmps15
  go_wp2_with fail
  go_ret
  exact ⟨rfl, rfl⟩

set_option maxRecDepth 100000 in
set_option maxHeartbeats 4000000 in
theorem sameInts_t (l : List Int) (v1 v2 : Value) (w : World) (h1 : RdS w v1 l.length (ints l)) (h2 : RdS w v2 l.length (ints l)) (hl : l.length ≤ 9223372036854775807) :
    Calls Try.prog 12 #[v1, v2] w fun e w' => e = .returned (.bool true) ∧ Fr w w' := by
  obtain ⟨a1, c1, rfl, hc1, h1⟩ := h1
  obtain ⟨a2, c2, rfl, hc2, h2⟩ := h2
  have H1 := Lib.hid h1
  have H2 := Lib.hid h2
  clear h1 h2
  go_enter Try.func12, Try.ntmps12
  go_wp2_with fail
  go_loopg [5] l.length (fun m i wr => Fr w wr ∧ ∃ k : Nat, k + m = l.length ∧ i = .int .i64 (k : Int))
  case atStart => exact ⟨Ch.refl _ _, 0, by omega, rfl⟩
  case round =>
    obtain ⟨hf, k, hk, rfl⟩ := hrel
    have Hf := Lib.hid hf
    clear hf
    by_cases hlt : k < l.length
    · have hx : (ints l)[k]? = some (.int .i64 l[k]) := ints_get (List.getElem?_eq_getElem hlt)
      have hne : ints l ≠ [] := fun h => by rw [h] at hx; cases hx
      obtain ⟨g1, o1, rfl, r1⟩ := H1.out hne
      obtain ⟨g2, o2, rfl, r2⟩ := H2.out hne
      have d1 := r1 k _ hx
      have d2 := r2 k _ hx
      have e1 : wr.cell? ⟨g1, o1 + k, none⟩ = some (.int .i64 l[k]) := (World.cell?_of_block (Hf.out.block g1 (block_lt_of_cell d1) id)).trans d1
      have e2 : wr.cell? ⟨g2, o2 + k, none⟩ = some (.int .i64 l[k]) := (World.cell?_of_block (Hf.out.block g2 (block_lt_of_cell d2) id)).trans d2
      have hki : (k : Int) < (l.length : Int) := by omega
      have hk0 : (0 : Int) ≤ (k : Int) := by omega
      generalize l[k] = x at e1 e2
      clear hx hne r1 r2 d1 d2
      go_wp2_with fail
      refine Reg.wp_region_text (by kernel_rfl) (by kernel_rfl) ?_
      go_wp2_with fail
      refine ⟨by kernel_rfl, ?_⟩
      go_wp2_with fail
      go_roundg (gk - 1)
      case measure => omega
      case rel => exact ⟨Hf.out.drew, k + 1, by omega, by go_num⟩
    · have hki : ¬ (k : Int) < (l.length : Int) := by omega
      go_wp2_with fail
      go_ret
      exact ⟨rfl, Hf.out⟩

set_option maxRecDepth 100000 in
set_option maxHeartbeats 4000000 in
theorem node_t (n : Nd) (v1 v2 : Value) (w : World) (h1 : RdS w v1 n.kids.length (ints n.kids)) (h2 : RdS w v2 n.kids.length (ints n.kids)) (hl : n.kids.length ≤ 9223372036854775807) :
    Calls Try.prog 22 #[ndV n v1, ndV n v2] w fun e w' => e = .returned (.bool true) ∧ Fr w w' := by
  obtain ⟨a1, c1, rfl, hc1, h1⟩ := h1
  obtain ⟨a2, c2, rfl, hc2, h2⟩ := h2
  have H1 := Lib.hid (show RdS w (.slice a1 n.kids.length c1) n.kids.length (ints n.kids) from ⟨a1, c1, rfl, hc1, h1⟩)
  have H2 := Lib.hid (show RdS w (.slice a2 n.kids.length c2) n.kids.length (ints n.kids) from ⟨a2, c2, rfl, hc2, h2⟩)
  have e0 : (n.kind == n.kind) = true := beq_self_eq_true _
  have e1 : (n.at_ == n.at_) = true := beq_self_eq_true _
  have e2 : (n.where_ == n.where_) = true := beq_self_eq_true _
  have e3 : (n.close == n.close) = true := beq_self_eq_true _
  have e4 : (n.decl == n.decl) = true := beq_self_eq_true _
  have e5 : (n.type == n.type) = true := beq_self_eq_true _
  have e6 : (n.op == n.op) = true := beq_self_eq_true _
  have e7 : (n.value == n.value) = true := beq_self_eq_true _
  have e8 : (n.name.toList == n.name.toList) = true := beq_self_eq_true _
  clear h1 h2
  unfold ndV
  go_enter Try.func22, Try.ntmps22
  go_wp2_with fail
  refine (sameInts_t n.kids _ _ _ (H1.out.fr (((Ch.refl _ _).alloc _).alloc _)) (H2.out.fr (((Ch.refl _ _).alloc _).alloc _)) hl).mono ?_
  rintro e w1 ⟨rfl, hf⟩
  have Hf := Lib.hid hf
  clear hf
  go_wp2_with fail
  go_ret
  exact ⟨rfl, (((Ch.refl _ _).alloc _).alloc _).trans Hf.out⟩

/-- A tree that reads so. -/
structure TreeRd (w : World) (nodes : List Nd) (funcs : List Int) (nd fu : Value) : Prop where
  nds : ∃ kvs : List Value, kvs.length = nodes.length ∧ RdS w nd nodes.length (ndsC (nodes.zip kvs)) ∧ ∀ x ∈ nodes.zip kvs, RdS w x.2 x.1.kids.length (ints x.1.kids)
  funcs : RdS w fu funcs.length (ints funcs)
theorem TreeRd.fr {w w' : World} {nodes : List Nd} {funcs : List Int} {nd fu : Value} (h : TreeRd w nodes funcs nd fu) (hf : Fr w w') : TreeRd w' nodes funcs nd fu := by
  obtain ⟨⟨kvs, h1, h2, h3⟩, h4⟩ := h
  exact ⟨⟨kvs, h1, h2.fr hf, fun x hx => (h3 x hx).fr hf⟩, h4.fr hf⟩
theorem treeRd_of {A : Nat → Prop} {w0 w : World} {nodes : List Nd} {funcs nest : List Int} {nd fu ne : Value} {kvs : List Value} {rest pre : List Res} (hk : kvs.length = nodes.length) (h : Hs A w0 w (pre ++ (treeRes nodes funcs nest nd fu ne kvs ++ rest))) :
    TreeRd w nodes funcs nd fu ∧ RdS w ne nest.length (ints nest) := by
  replace h := h.swap
  have h' : Hs A w0 w (treeRes nodes funcs nest nd fu ne kvs ++ (rest ++ pre)) := by rw [List.append_assoc] at h; exact h
  refine ⟨⟨⟨kvs, hk, rdS_row h' 0 rfl, fun x hx => ?_⟩, rdS_row h' 1 rfl⟩, rdS_row h' 2 rfl⟩
  obtain ⟨i, hi, he⟩ := List.getElem_of_mem hx
  have hm : (kidRows (nodes.zip kvs))[i]? = some (.row 3 1 x.2 x.1.kids.length (ints x.1.kids)) := by
    unfold kidRows
    rw [List.getElem?_map, List.getElem?_eq_getElem hi, he]; rfl
  have hl : i < (kidRows (nodes.zip kvs)).length := by unfold kidRows; rw [List.length_map]; exact hi
  exact rdS_row h' (i + 3) (by
    show ((_ :: _ :: _ :: kidRows (nodes.zip kvs)) ++ (rest ++ pre))[i + 3]? = _
    simp only [List.cons_append, List.getElem?_cons_succ]
    rw [List.getElem?_append_left hl]
    exact hm)
theorem rdS_cells {w : World} {v : Value} {n : Nat} {l : List (Nd × Value)} (h : RdS w v n (ndsC l)) (hl : l.length ≤ n) {i : Nat} {x : Nd} {kv : Value} (hx : l[i]? = some (x, kv)) :
    ∃ g off cap, v = .slice (some ⟨g, off, none⟩) n cap ∧ ∀ j u, j < 10 → (ndC x kv)[j]? = some u → w.cell? ⟨g, off + (i * 10 + j), none⟩ = some u := by
  obtain ⟨a, cap, rfl, _, h3⟩ := h
  have h0 := ndsC_get hx 0 (by omega)
  have hne : ndsC l ≠ [] := fun h => by rw [h] at h0; simp [ndC] at h0
  obtain ⟨g, off, rfl, h4⟩ := h3 hne
  exact ⟨g, off, cap, rfl, fun j u hj hu => h4 _ _ (by rw [ndsC_get hx j hj]; exact hu)⟩

set_option maxRecDepth 100000 in
set_option maxHeartbeats 4000000 in
theorem same_t (nodes : List Nd) (funcs : List Int) (nd1 fu1 nd2 fu2 : Value) (w : World) (h1 : TreeRd w nodes funcs nd1 fu1) (h2 : TreeRd w nodes funcs nd2 fu2) (hl : nodes.length ≤ 9223372036854775807) (hfl : funcs.length ≤ 9223372036854775807) (hkl : ∀ n ∈ nodes, n.kids.length ≤ 9223372036854775807) :
    Calls Try.prog 11 #[.agg #[nd1, fu1], .agg #[nd2, fu2]] w fun e w' => e = .returned (.bool true) ∧ Fr w w' := by
  have hw2 : Fr w ((w.alloc (.cells #[nd1, fu1] 35)).alloc (.cells #[nd2, fu2] 35)) := ((Ch.refl _ _).alloc _).alloc _
  have h1' := Lib.hid h1
  have h2' := Lib.hid h2
  have hfr := Lib.hid hw2
  have hb := ((Hs.start w).alloc [nd1, fu1] 35).alloc [nd2, fu2] 35
  simp only [size_alloc'] at hb
  have Hb := Lib.hid hb
  obtain ⟨kvs1, k1, r1, q1⟩ := h1.nds
  obtain ⟨kvs2, k2, r2, q2⟩ := h2.nds
  obtain ⟨a1, c1, rfl, hc1, _⟩ := r1
  obtain ⟨a2, c2, rfl, hc2, _⟩ := r2
  obtain ⟨b1, d1, rfl, hd1, _⟩ := h1.funcs
  obtain ⟨b2, d2, rfl, hd2, _⟩ := h2.funcs
  have Hkl := Lib.hid hkl
  clear h1 h2 hw2 hb k1 k2 q1 q2 hkl
  go_enter Try.func11, Try.ntmps11
  go_wp2_with fail
  refine (sameInts_t funcs _ _ _ (h1'.out.funcs.fr hfr.out) (h2'.out.funcs.fr hfr.out) hfl).mono ?_
  rintro e w1 ⟨rfl, hf⟩
  have Hf := Lib.hid (hfr.out.trans hf)
  have Hb1 := Lib.hid (Hb.out.ch0 hf)
  clear hf
  go_wp2_with fail
  generalize hB : w.heap.size = B at Hb1 ⊢
  generalize hB1 : B + 1 = B1 at Hb1 ⊢
  go_loopg [5] nodes.length (fun m i wr => Fr w1 wr ∧ ∃ k : Nat, k + m = nodes.length ∧ i = .int .i64 (k : Int))
  case atStart => exact ⟨Ch.refl _ _, 0, by omega, rfl⟩
  case round =>
    obtain ⟨hf, k, hk, rfl⟩ := hrel
    have HH := Lib.hid (Hb1.out.ch0 hf)
    have Hf1 := Lib.hid hf
    have s10 := HH.out.cell 1 rfl 0 rfl
    have s20 := HH.out.cell 0 rfl 0 rfl
    clear hf
    by_cases hlt : k < nodes.length
    · have Hfw := Hf.out.trans Hf1.out
      have T1 := h1'.out.fr Hfw
      have T2 := h2'.out.fr Hfw
      obtain ⟨kvs1, k1, r1, q1⟩ := T1.nds
      obtain ⟨kvs2, k2, r2, q2⟩ := T2.nds
      have hz1 : (nodes.zip kvs1)[k]? = some (nodes[k], kvs1[k]'(by omega)) := by rw [List.getElem?_eq_getElem (by rw [List.length_zip]; omega), List.getElem_zip]
      have hz2 : (nodes.zip kvs2)[k]? = some (nodes[k], kvs2[k]'(by omega)) := by rw [List.getElem?_eq_getElem (by rw [List.length_zip]; omega), List.getElem_zip]
      have y1 := q1 _ (List.mem_of_getElem? hz1)
      have y2 := q2 _ (List.mem_of_getElem? hz2)
      obtain ⟨g1, o1, cc1, he1, z1⟩ := rdS_cells r1 (by rw [List.length_zip]; omega) hz1
      obtain ⟨g2, o2, cc2, he2, z2⟩ := rdS_cells r2 (by rw [List.length_zip]; omega) hz2
      injection he1 with he1 _ he1'
      injection he2 with he2 _ he2'
      subst he1 he1' he2 he2'
      have hnk := Hkl.out _ (List.getElem_mem hlt)
      generalize nodes[k] = n at z1 z2 y1 y2 hnk
      generalize kvs1[k]'(by omega) = v1 at z1 y1
      generalize kvs2[k]'(by omega) = v2 at z2 y2
      have x10 : wr.cell? ⟨g1, o1 + k * 10, none⟩ = some (.int .i64 n.kind) := z1 0 _ (by omega) rfl
      have x11 : wr.cell? ⟨g1, o1 + k * 10 + 1, none⟩ = some (.int .i64 n.at_) := by rw [Nat.add_assoc]; exact z1 1 _ (by omega) rfl
      have x12 : wr.cell? ⟨g1, o1 + k * 10 + 2, none⟩ = some (.int .i64 n.where_) := by rw [Nat.add_assoc]; exact z1 2 _ (by omega) rfl
      have x13 : wr.cell? ⟨g1, o1 + k * 10 + 3, none⟩ = some (.int .i64 n.close) := by rw [Nat.add_assoc]; exact z1 3 _ (by omega) rfl
      have x14 : wr.cell? ⟨g1, o1 + k * 10 + 4, none⟩ = some (.int .i64 n.decl) := by rw [Nat.add_assoc]; exact z1 4 _ (by omega) rfl
      have x15 : wr.cell? ⟨g1, o1 + k * 10 + 5, none⟩ = some (.int .i64 n.type) := by rw [Nat.add_assoc]; exact z1 5 _ (by omega) rfl
      have x16 : wr.cell? ⟨g1, o1 + k * 10 + 6, none⟩ = some (.int .i64 n.op) := by rw [Nat.add_assoc]; exact z1 6 _ (by omega) rfl
      have x17 : wr.cell? ⟨g1, o1 + k * 10 + 7, none⟩ = some (.int .i64 n.value) := by rw [Nat.add_assoc]; exact z1 7 _ (by omega) rfl
      have x18 : wr.cell? ⟨g1, o1 + k * 10 + 8, none⟩ = some (.string n.name) := by rw [Nat.add_assoc]; exact z1 8 _ (by omega) rfl
      have x19 : wr.cell? ⟨g1, o1 + k * 10 + 9, none⟩ = some v1 := by rw [Nat.add_assoc]; exact z1 9 _ (by omega) rfl
      have x20 : wr.cell? ⟨g2, o2 + k * 10, none⟩ = some (.int .i64 n.kind) := z2 0 _ (by omega) rfl
      have x21 : wr.cell? ⟨g2, o2 + k * 10 + 1, none⟩ = some (.int .i64 n.at_) := by rw [Nat.add_assoc]; exact z2 1 _ (by omega) rfl
      have x22 : wr.cell? ⟨g2, o2 + k * 10 + 2, none⟩ = some (.int .i64 n.where_) := by rw [Nat.add_assoc]; exact z2 2 _ (by omega) rfl
      have x23 : wr.cell? ⟨g2, o2 + k * 10 + 3, none⟩ = some (.int .i64 n.close) := by rw [Nat.add_assoc]; exact z2 3 _ (by omega) rfl
      have x24 : wr.cell? ⟨g2, o2 + k * 10 + 4, none⟩ = some (.int .i64 n.decl) := by rw [Nat.add_assoc]; exact z2 4 _ (by omega) rfl
      have x25 : wr.cell? ⟨g2, o2 + k * 10 + 5, none⟩ = some (.int .i64 n.type) := by rw [Nat.add_assoc]; exact z2 5 _ (by omega) rfl
      have x26 : wr.cell? ⟨g2, o2 + k * 10 + 6, none⟩ = some (.int .i64 n.op) := by rw [Nat.add_assoc]; exact z2 6 _ (by omega) rfl
      have x27 : wr.cell? ⟨g2, o2 + k * 10 + 7, none⟩ = some (.int .i64 n.value) := by rw [Nat.add_assoc]; exact z2 7 _ (by omega) rfl
      have x28 : wr.cell? ⟨g2, o2 + k * 10 + 8, none⟩ = some (.string n.name) := by rw [Nat.add_assoc]; exact z2 8 _ (by omega) rfl
      have x29 : wr.cell? ⟨g2, o2 + k * 10 + 9, none⟩ = some v2 := by rw [Nat.add_assoc]; exact z2 9 _ (by omega) rfl
      have hki : (k : Int) < (nodes.length : Int) := by omega
      have hk0 : (0 : Int) ≤ (k : Int) := by omega
      clear z1 z2 hz1 hz2 r1 r2 q1 q2 T1 T2 k1 k2 Hfw
      dsimp only at y1 y2
      obtain ⟨av1, cv1, rfl, yy1, yz1⟩ := y1
      obtain ⟨av2, cv2, rfl, yy2, yz2⟩ := y2
      have Y1 := Lib.hid (show RdS wr (.slice av1 n.kids.length cv1) n.kids.length (ints n.kids) from ⟨av1, cv1, rfl, yy1, yz1⟩)
      have Y2 := Lib.hid (show RdS wr (.slice av2 n.kids.length cv2) n.kids.length (ints n.kids) from ⟨av2, cv2, rfl, yy2, yz2⟩)
      clear yz1 yz2
      go_wp2_with fail
      go_still_tail 10, (by kernel_rfl)
      change wpList _ _ _ _ _ (World.drew _)
      go_wp2_with fail
      refine (node_t n _ _ _ (Y1.out.fr (Ch.refl _ _).drew) (Y2.out.fr (Ch.refl _ _).drew) hnk).mono ?_
      rintro e w3 ⟨rfl, hf3⟩
      have Hf3 := Lib.hid hf3
      clear hf3
      go_wp2_with fail
      go_roundg (gk - 1)
      case measure => omega
      case rel => exact ⟨Hf1.out.trans ((Ch.refl _ _).drew.trans Hf3.out), k + 1, by omega, by go_num⟩
    · have hki : ¬ (k : Int) < (nodes.length : Int) := by omega
      go_wp2_with fail
      go_ret
      exact ⟨rfl, Hf.out.trans Hf1.out⟩
end Go.Proofs.Ythodjlhjfaccpaa
