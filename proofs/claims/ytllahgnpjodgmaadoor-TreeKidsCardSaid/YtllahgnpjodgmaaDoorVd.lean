/- quernlaw3.copied. -/
import Derived.Test.YtllahgnpjodgmaaDoorVb
set_option linter.unusedVariables false
namespace Go.Proofs.YtllahgnpjodgmaaDoor
open Go Go.RowKit Mem Pm
theorem rdS_add {w : World} {a : Option Addr} {n c : Nat} {xs : List Value} (h : RdS w (.slice a n c) n xs) (hn : xs.length = n) : 0 < n → ∃ d, a = some d ∧ ∀ j u, xs[j]? = some u → w.cell? (d.add j) = some u := by
  intro h0
  obtain ⟨a', c', he, _, hr⟩ := h
  injection he with he1 _ he2
  subst he1 he2
  obtain ⟨g, off, rfl, hc⟩ := hr (fun h => by rw [h] at hn; simp at hn; omega)
  refine ⟨_, rfl, fun j u hu => ?_⟩
  have hadd : (⟨g, off, none⟩ : Addr).add j = ⟨g, off + j, none⟩ := by unfold Addr.add; split <;> simp_all
  rw [hadd]; exact hc j u hu
theorem ints_all (l : List Int) : ((ints l).all fun u => u.oneCell') = true := by unfold ints; rw [List.all_map, List.all_eq_true]; intro x _; rfl
theorem ndsC_snoc {l : List Nd} {kvs : List Value} {n : Nd} {kv : Value} (h : kvs.length = l.length) : ndsC ((l ++ [n]).zip (kvs ++ [kv])) = ndsC (l.zip kvs) ++ ndC n kv := by
  rw [List.zip_append h.symm]
  unfold ndsC
  rw [List.flatMap_append]; simp
set_option maxRecDepth 100000 in
set_option maxHeartbeats 16000000 in
theorem copied_c (nodes : List Nd) (funcs : List Int) (nd fu : Value) (w : World) (h : TreeRd w nodes funcs nd fu) (hn : nodes.length ≤ 1000000) (hf : funcs.length ≤ 1000000) (he : ∀ n ∈ nodes, n.kids.length ≤ 1000000) :
    Calls Tryd.prog 19 #[.agg #[nd, fu]] w fun e w' => ∃ (vN vF : Value) (kvs : List Value), e = .returned (.agg #[vN, vF]) ∧ kvs.length = nodes.length ∧
      Gives w w' ([.row 45 10 vN nodes.length (ndsC (nodes.zip kvs)), .row 3 1 vF funcs.length (ints funcs)] ++ kidRows (nodes.zip kvs)) := by
  obtain ⟨i0, hi0, hz0, hz1, hz2⟩ := info_parts infoInt
  obtain ⟨i1, hi1, hy0, hy1, hy2⟩ := info_parts infoNode
  obtain ⟨an, cn, rfl, hcn⟩ : ∃ an cn, nd = .slice an nodes.length cn ∧ nodes.length ≤ cn := by obtain ⟨_, _, ⟨a, c, h1, h2, _⟩, _⟩ := h.nds; exact ⟨a, c, h1, h2⟩
  obtain ⟨af, cf, rfl, hcf⟩ : ∃ af cf, fu = .slice af funcs.length cf ∧ funcs.length ≤ cf := by obtain ⟨a, c, h1, h2, _⟩ := h.funcs; exact ⟨a, c, h1, h2⟩
  obtain ⟨x, hu⟩ := treeTy
  have HU := Lib.hid hu
  have HT := Lib.hid h
  have HE := Lib.hid he
  obtain ⟨b, hb⟩ : ∃ b, b = w.heap.size := ⟨_, rfl⟩
  have h1 := (((Hs.start w).alloc [.slice an nodes.length cn, .slice af funcs.length cf] 25).alloc [.slice none 0 0, .slice none 0 0] 25).alloc [.slice none 0 0, .slice none 0 0] 25
  simp only [size_alloc'] at h1
  have H1 := Lib.hid h1
  clear h he hu h1 hb
  go_enter Tryd.func19, Tryd.ntmps19
  go_wp2_with fail
  obtain ⟨g3, hg3⟩ : ∃ g, g = w.heap.size + 1 + 1 := ⟨_, rfl⟩
  rw [← hg3] at H1 ⊢
  obtain ⟨g2, hg2⟩ : ∃ g, g = w.heap.size + 1 := ⟨_, rfl⟩
  rw [← hg2] at H1 ⊢
  obtain ⟨g1, hg1⟩ : ∃ g, g = w.heap.size := ⟨_, rfl⟩
  have H2 : Hid (Hs (fun k => k < w.heap.size) w _ ([.blk g3 25 [.slice none 0 0, .slice none 0 0], .row 45 10 (.slice none 0 0) (0) ([]), .blk g1 25 [.slice an nodes.length cn, .slice af funcs.length cf], .blk g2 25 [.slice none 0 0, .slice none 0 0]] ++ kidRows (([] : List Nd).zip ([] : List Value)))) := Lib.hid (by
    have h := (H1.out.nil 45 10).perm ((List.Perm.swap _ _ _).trans (.cons _ (.cons _ (List.Perm.swap _ _ _))))
    rw [← hg1] at h
    rw [← hg1]
    exact h)
  rw [← hg1]
  clear H1
  go_loopg [4] nodes.length (fun m v4 wr => ∃ (i : Nat) (vN : Value) (kvs : List Value), i + m = nodes.length ∧ v4 = .int .i64 (i : Int) ∧ kvs.length = i ∧
    Hs (fun k => k < w.heap.size) w wr ([.blk g3 25 [vN, .slice none 0 0], .row 45 10 (vN) (i) (ndsC ((nodes.take i).zip kvs)), .blk g1 25 [.slice an nodes.length cn, .slice af funcs.length cf], .blk g2 25 [.slice none 0 0, .slice none 0 0]] ++ kidRows ((nodes.take i).zip kvs)))
  case atStart => exact ⟨0, _, [], by omega, rfl, rfl, by rw [← hg1] at H2 ⊢; exact H2.out⟩
  case round =>
  obtain ⟨i, vN, kvs, him, rfl, hkl, hh⟩ := hrel
  have Hh := Lib.hid hh
  have b0 := hh.cell 2 rfl 0 rfl
  have b1 := hh.cell 2 rfl 1 rfl
  have c0 := hh.cell 0 rfl 0 rfl
  have HFr := Lib.hid (fr_of_kp hh.kp)
  have HKl := Lib.hid hkl
  have n31 : g3 ≠ g1 := by have := hh.ne (i := 0) (j := 2) rfl rfl (by decide); intro h; exact this g3 rfl (by rw [h]; rfl)
  have n32 : g3 ≠ g2 := by have := hh.ne (i := 0) (j := 3) rfl rfl (by decide); intro h; exact this g3 rfl (by rw [h]; rfl)
  have n12 : g1 ≠ g2 := by have := hh.ne (i := 2) (j := 3) rfl rfl (by decide); intro h; exact this g1 rfl (by rw [h]; rfl)
  have l3 := block_lt_of_cell c0
  have l1 := block_lt_of_cell b0
  clear hh hkl H2 hg1 hg2 hg3
  by_cases hlt : i < nodes.length
  case pos =>
    have hki : (i : Int) < (nodes.length : Int) := by omega
    have hk0 : (0 : Int) ≤ (i : Int) := by omega
    obtain ⟨g, off, ak, ck, rfl, hkr, x0, x1, x2, x3, x4, x5, x6, x7, x8, x9⟩ := node_at HT.out hlt
    replace x0 := fr_cell HFr.out x0
    replace x1 := fr_cell HFr.out x1
    replace x2 := fr_cell HFr.out x2
    replace x3 := fr_cell HFr.out x3
    replace x4 := fr_cell HFr.out x4
    replace x5 := fr_cell HFr.out x5
    replace x6 := fr_cell HFr.out x6
    replace x7 := fr_cell HFr.out x7
    replace x8 := fr_cell HFr.out x8
    replace x9 := fr_cell HFr.out x9
    have hx : nodes[i]? = some nodes[i] := List.getElem?_eq_getElem hlt
    have htk : nodes.take (i + 1) = nodes.take i ++ [nodes[i]] := by rw [List.take_add_one, hx]; rfl
    have hke := HE.out _ (List.getElem_mem hlt)
    have HTk := Lib.hid htk
    have HKr := Lib.hid hkr
    clear hx htk hkr
    generalize nodes[i] = N at x0 x1 x2 x3 x4 x5 x6 x7 x8 x9 hke HTk HKr
    have Hn := Lib.hid (Hh.out.alloc (ndC N (.slice ak N.kids.length ck)) 45)
    have hk9 : N.kids.length ≤ 1000000000 := by omega
    have hr2 := HKr.out.fr (HFr.out.trans ((Ch.refl _ wr).alloc (.cells (ndC N (.slice ak N.kids.length ck)).toArray 45)))
    have HR2 := Lib.hid hr2
    clear hr2
    go_wp2_with (at_builtin; go_must (refine Hs.copy rfl _ _ 23 rfl 3 i0 _ 1 8 (by kernel_rfl) hi0 hz0 hz1 hz2 rfl (Nat.succ_pos _) (Nat.le_of_ble_eq_true rfl) ak N.kids.length ck (ints N.kids) rfl rfl (by rw [ints_len, Nat.mul_one]) (ints_all _) hk9 (rdS_add HR2.out (ints_len _)) Hn.out ?_))
    intro v5 w5 hh5
    obtain ⟨a5, c5, rfl, _, _⟩ := hh5.form 0 rfl
    have d9 := hh5.cell 1 rfl 9 rfl
    have z9 := hh5.froz 1 rfl 9
    have h6 := hh5.set_ 1 rfl 9 (.slice a5 N.kids.length c5)
    have H6 : Hid (Hs (fun k => k < w.heap.size) w (w5.setCell ⟨wr.heap.size, 9, none⟩ (.slice a5 N.kids.length c5)) (.row 3 1 (.slice a5 N.kids.length c5) N.kids.length (ints N.kids) :: .blk wr.heap.size 45 (ndC N (.slice a5 N.kids.length c5)) :: ([.blk g3 25 [vN, .slice none 0 0], .row 45 10 (vN) (i) (ndsC ((nodes.take i).zip kvs)), .blk g1 25 [.slice (some ⟨g, off, none⟩) nodes.length cn, .slice af funcs.length cf], .blk g2 25 [.slice none 0 0, .slice none 0 0]] ++ kidRows ((nodes.take i).zip kvs)))) := Lib.hid h6
    clear h6 hh5 Hn HR2 HKr x0 x1 x2 x3 x4 x5 x6 x7 x8 x9 b0 b1 c0
    go_upto_region 7 with fail
    obtain ⟨W6, hW6⟩ : ∃ W, W = w5.setCell ⟨wr.heap.size, 9, none⟩ (.slice a5 N.kids.length c5) := ⟨_, rfl⟩
    rw [← hW6] at H6 ⊢
    clear hW6 d9 z9
    have d0 := H6.out.cell 1 rfl 0 rfl
    have d1 := H6.out.cell 1 rfl 1 rfl
    have d2 := H6.out.cell 1 rfl 2 rfl
    have d3 := H6.out.cell 1 rfl 3 rfl
    have d4 := H6.out.cell 1 rfl 4 rfl
    have d5 := H6.out.cell 1 rfl 5 rfl
    have d6 := H6.out.cell 1 rfl 6 rfl
    have d7 := H6.out.cell 1 rfl 7 rfl
    have d8 := H6.out.cell 1 rfl 8 rfl
    have d9 := H6.out.cell 1 rfl 9 rfl
    have c0 := H6.out.cell 2 rfl 0 rfl
    have Hn := Lib.hid (H6.out.alloc (ndC N (.slice a5 N.kids.length c5)) 45)
    have hi9 : i ≤ 1000000000 := by omega
    go_wp2_with (at_builtin; go_must (refine Hs.push rfl _ _ 22 rfl 45 i1 _ 10 104 (by kernel_rfl) hi1 hy0 hy1 hy2 rfl (Nat.succ_pos _) (Nat.le_of_ble_eq_true rfl) 4 vN i (ndsC ((nodes.take i).zip kvs)) rfl 0 W6.heap.size (ndC N (.slice a5 N.kids.length c5)) rfl rfl rfl rfl rfl hi9 Hn.out ?_))
    intro v7 w7 hh7
    obtain ⟨a7, c7, rfl, _, _⟩ := hh7.form 4 rfl
    have e0 := hh7.cell 3 rfl 0 rfl
    have z0 := hh7.froz 3 rfl 0
    have H8 := Lib.hid (hh7.set_ 3 rfl 0 (.slice a7 (i + 1) c7))
    clear hh7 Hn H6 d0 d1 d2 d3 d4 d5 d6 d7 d8 d9 c0
    go_wp2_with fail
    go_roundg (gk - 1)
    case measure => omega
    case rel =>
      refine ⟨i + 1, .slice a7 (i + 1) c7, kvs ++ [.slice a5 N.kids.length c5], by omega, by go_num, by rw [List.length_append, HKl.out]; rfl, ?_⟩
      have hlk : kvs.length = (nodes.take i).length := by rw [List.length_take, HKl.out]; omega
      rw [HTk.out, ndsC_snoc hlk, kidRows_snoc hlk, ← List.append_assoc]
      have h1 := H8.out.tail
      have h2 : Hs (fun k => k < w.heap.size) w _ (.row 3 1 (.slice a5 N.kids.length c5) N.kids.length (ints N.kids) :: ([.blk g3 25 [.slice a7 (i + 1) c7, .slice none 0 0], .row 45 10 (.slice a7 (i + 1) c7) (i + 1) (ndsC ((nodes.take i).zip kvs) ++ ndC N (.slice a5 N.kids.length c5)), .blk g1 25 [.slice (some ⟨g, off, none⟩) nodes.length cn, .slice af funcs.length cf], .blk g2 25 [.slice none 0 0, .slice none 0 0]] ++ kidRows ((nodes.take i).zip kvs))) :=
        h1.sub ((List.sublist_cons_self _ _).cons_cons _)
      have h3 := Hs.mid (l := [.blk g3 25 [.slice a7 (i + 1) c7, .slice none 0 0], .row 45 10 (.slice a7 (i + 1) c7) (i + 1) (ndsC ((nodes.take i).zip kvs) ++ ndC N (.slice a5 N.kids.length c5)), .blk g1 25 [.slice (some ⟨g, off, none⟩) nodes.length cn, .slice af funcs.length cf], .blk g2 25 [.slice none 0 0, .slice none 0 0]] ++ kidRows ((nodes.take i).zip kvs)) (m := []) (by rw [List.append_nil]; exact h2)
      exact h3
  case neg =>
    have hki : ¬ (i : Int) < (nodes.length : Int) := by omega
    have htk : nodes.take i = nodes := List.take_of_length_le (by omega)
    have hin : i = nodes.length := by omega
    rw [htk] at Hh
    have HIn := Lib.hid hin
    have hf9 : funcs.length ≤ 1000000000 := by omega
    have HR2 := Lib.hid (HT.out.funcs.fr HFr.out)
    clear htk hin c0
    go_wp2_with (at_builtin; go_must (refine Hs.copy rfl _ _ 23 rfl 3 i0 _ 1 8 (by kernel_rfl) hi0 hz0 hz1 hz2 rfl (Nat.succ_pos _) (Nat.le_of_ble_eq_true rfl) af funcs.length cf (ints funcs) rfl rfl (by rw [ints_len, Nat.mul_one]) (ints_all _) hf9 (rdS_add HR2.out (ints_len _)) Hh.out ?_))
    intro v5 w5 hh5
    obtain ⟨a5, c5, rfl, _, _⟩ := hh5.form 0 rfl
    obtain ⟨a6, c6, rfl, _, _⟩ := hh5.form 2 rfl
    have e1 := hh5.cell 1 rfl 1 rfl
    have e0 := hh5.cell 1 rfl 0 rfl
    have z1 := hh5.froz 1 rfl 1
    have y0 := hh5.cell 4 rfl 0 rfl
    have y1 := hh5.cell 4 rfl 1 rfl
    have q0 := hh5.froz 4 rfl 0
    have q1 := hh5.froz 4 rfl 1
    have H8 := Lib.hid (((hh5.set_ 1 rfl 1 (.slice a5 funcs.length c5)).set_ 4 rfl 0 (.slice a6 i c6)).set_ 4 rfl 1 (.slice a5 funcs.length c5))
    have n23 : g2 ≠ g3 := fun h => n32 h.symm
    clear hh5 Hh HR2 b0 b1
    go_wp2_with fail
    have HB := (H8.out.get (i := 4) rfl).1
    refine bodyPost_ret (results_cell_row (p := 2) (ty := 25) rfl _ _ g2 25 #[.slice a6 i c6, .slice a5 funcs.length c5] (0, 0) _ rfl HB HU.out rfl (by kernel_rfl)) rfl ⟨.slice a6 i c6, .slice a5 funcs.length c5, kvs, rfl, by rw [HKl.out, HIn.out], gives_of ?_⟩
    have h := H8.out
    rw [← HIn.out]
    have h2 := Hs.front (l := [.row 3 1 (.slice a5 funcs.length c5) funcs.length (ints funcs), .blk g3 25 [.slice a6 i c6, .slice a5 funcs.length c5]]) h
    exact h2.sub (((List.sublist_append_right [_, _, _] (kidRows (nodes.zip kvs))).cons_cons _).cons_cons _)
end Go.Proofs.YtllahgnpjodgmaaDoor
