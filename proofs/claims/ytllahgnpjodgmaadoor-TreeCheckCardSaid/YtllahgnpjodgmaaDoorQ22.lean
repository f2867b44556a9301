/- quernlaw3.copied.
quernlaw3.slot, turn.
quernlaw3.alive. -/
import Derived.Test.YtllahgnpjodgmaaDoorQ21
import Derived.Laws.BytesArg
set_option linter.unusedVariables false
namespace Go.Proofs.YtllahgnpjodgmaaDoor
open Go Go.RowKit Mem Pm
theorem rdS_add {w : World} {a : Option Addr} {n c : Nat} {xs : List Value} (h : RdS w (.slice a n c) n xs) (hn : xs.length = n) : 0 < n → ∃ d, a = some d ∧ ∀ j u, xs[j]? = some u → w.cell? (d.add j) = some u := by
  intro h0
  obtain ⟨a', c', he, _, hr⟩ := h
  injection he with he1 _ he2
  subst he1 he2
  obtain ⟨g, off, rfl, hc⟩ := hr (fun h => by rw [h] at hn; simp at hn; omega)
  refine ⟨_, rfl, fun j u hu => ?_⟩
  have hadd : (⟨g, off, none⟩ : Addr).add j = ⟨g, off + j, none⟩ := by unfold Addr.add; split <;> simp_all
  rw [hadd]; exact hc j u hu
theorem ints_all (l : List Int) : ((ints l).all fun u => u.oneCell') = true := by unfold ints; rw [List.all_map, List.all_eq_true]; intro x _; rfl
theorem ndsC_snoc {l : List Nd} {kvs : List Value} {n : Nd} {kv : Value} (h : kvs.length = l.length) : ndsC ((l ++ [n]).zip (kvs ++ [kv])) = ndsC (l.zip kvs) ++ ndC n kv := by
  rw [List.zip_append h.symm]
  unfold ndsC
  rw [List.flatMap_append]; simp
set_option maxRecDepth 100000 in
set_option maxHeartbeats 16000000 in
theorem copied_c (nodes : List Nd) (funcs : List Int) (nd fu : Value) (w : World) (h : TreeRd w nodes funcs nd fu) (hn : nodes.length ≤ 1000000) (hf : funcs.length ≤ 1000000) (he : ∀ n ∈ nodes, n.kids.length ≤ 1000000) :
    Calls Tryd.prog 19 #[.agg #[nd, fu]] w fun e w' => ∃ (vN vF : Value) (kvs : List Value), e = .returned (.agg #[vN, vF]) ∧ kvs.length = nodes.length ∧
      Gives w w' ([.row 45 10 vN nodes.length (ndsC (nodes.zip kvs)), .row 3 1 vF funcs.length (ints funcs)] ++ kidRows (nodes.zip kvs)) := by
  obtain ⟨i0, hi0, hz0, hz1, hz2⟩ := info_parts infoInt
  obtain ⟨i1, hi1, hy0, hy1, hy2⟩ := info_parts infoNode
  obtain ⟨an, cn, rfl, hcn⟩ : ∃ an cn, nd = .slice an nodes.length cn ∧ nodes.length ≤ cn := by obtain ⟨_, _, ⟨a, c, h1, h2, _⟩, _⟩ := h.nds; exact ⟨a, c, h1, h2⟩
  obtain ⟨af, cf, rfl, hcf⟩ : ∃ af cf, fu = .slice af funcs.length cf ∧ funcs.length ≤ cf := by obtain ⟨a, c, h1, h2, _⟩ := h.funcs; exact ⟨a, c, h1, h2⟩
  obtain ⟨x, hu⟩ := treeTy
  have HU := Lib.hid hu
  have HT := Lib.hid h
  have HE := Lib.hid he
  obtain ⟨b, hb⟩ : ∃ b, b = w.heap.size := ⟨_, rfl⟩
  have h1 := (((Hs.start w).alloc [.slice an nodes.length cn, .slice af funcs.length cf] 25).alloc [.slice none 0 0, .slice none 0 0] 25).alloc [.slice none 0 0, .slice none 0 0] 25
  simp only [size_alloc'] at h1
  have H1 := Lib.hid h1
  clear h he hu h1 hb
  go_enter Tryd.func19, Tryd.ntmps19
  go_wp2_with fail
  obtain ⟨g3, hg3⟩ : ∃ g, g = w.heap.size + 1 + 1 := ⟨_, rfl⟩
  rw [← hg3] at H1 ⊢
  obtain ⟨g2, hg2⟩ : ∃ g, g = w.heap.size + 1 := ⟨_, rfl⟩
  rw [← hg2] at H1 ⊢
  obtain ⟨g1, hg1⟩ : ∃ g, g = w.heap.size := ⟨_, rfl⟩
  have H2 : Hid (Hs (fun k => k < w.heap.size) w _ ([.blk g3 25 [.slice none 0 0, .slice none 0 0], .row 45 10 (.slice none 0 0) (0) ([]), .blk g1 25 [.slice an nodes.length cn, .slice af funcs.length cf], .blk g2 25 [.slice none 0 0, .slice none 0 0]] ++ kidRows (([] : List Nd).zip ([] : List Value)))) := Lib.hid (by
    have h := (H1.out.nil 45 10).perm ((List.Perm.swap _ _ _).trans (.cons _ (.cons _ (List.Perm.swap _ _ _))))
    rw [← hg1] at h
    rw [← hg1]
    exact h)
  rw [← hg1]
  clear H1
  go_loopg [4] nodes.length (fun m v4 wr => ∃ (i : Nat) (vN : Value) (kvs : List Value), i + m = nodes.length ∧ v4 = .int .i64 (i : Int) ∧ kvs.length = i ∧
    Hs (fun k => k < w.heap.size) w wr ([.blk g3 25 [vN, .slice none 0 0], .row 45 10 (vN) (i) (ndsC ((nodes.take i).zip kvs)), .blk g1 25 [.slice an nodes.length cn, .slice af funcs.length cf], .blk g2 25 [.slice none 0 0, .slice none 0 0]] ++ kidRows ((nodes.take i).zip kvs)))
  case atStart => exact ⟨0, _, [], by omega, rfl, rfl, by rw [← hg1] at H2 ⊢; exact H2.out⟩
  case round =>
  obtain ⟨i, vN, kvs, him, rfl, hkl, hh⟩ := hrel
  have Hh := Lib.hid hh
  have b0 := hh.cell 2 rfl 0 rfl
  have b1 := hh.cell 2 rfl 1 rfl
  have c0 := hh.cell 0 rfl 0 rfl
  have HFr := Lib.hid (fr_of_kp hh.kp)
  have HKl := Lib.hid hkl
  have n31 : g3 ≠ g1 := by have := hh.ne (i := 0) (j := 2) rfl rfl (by decide); intro h; exact this g3 rfl (by rw [h]; rfl)
  have n32 : g3 ≠ g2 := by have := hh.ne (i := 0) (j := 3) rfl rfl (by decide); intro h; exact this g3 rfl (by rw [h]; rfl)
  have n12 : g1 ≠ g2 := by have := hh.ne (i := 2) (j := 3) rfl rfl (by decide); intro h; exact this g1 rfl (by rw [h]; rfl)
  have l3 := block_lt_of_cell c0
  have l1 := block_lt_of_cell b0
  clear hh hkl H2 hg1 hg2 hg3
  by_cases hlt : i < nodes.length
  case pos =>
    have hki : (i : Int) < (nodes.length : Int) := by omega
    have hk0 : (0 : Int) ≤ (i : Int) := by omega
    obtain ⟨g, off, ak, ck, rfl, hkr, x0, x1, x2, x3, x4, x5, x6, x7, x8, x9⟩ := node_at HT.out hlt
    replace x0 := fr_cell HFr.out x0
    replace x1 := fr_cell HFr.out x1
    replace x2 := fr_cell HFr.out x2
    replace x3 := fr_cell HFr.out x3
    replace x4 := fr_cell HFr.out x4
    replace x5 := fr_cell HFr.out x5
    replace x6 := fr_cell HFr.out x6
    replace x7 := fr_cell HFr.out x7
    replace x8 := fr_cell HFr.out x8
    replace x9 := fr_cell HFr.out x9
    have hx : nodes[i]? = some nodes[i] := List.getElem?_eq_getElem hlt
    have htk : nodes.take (i + 1) = nodes.take i ++ [nodes[i]] := by rw [List.take_add_one, hx]; rfl
    have hke := HE.out _ (List.getElem_mem hlt)
    have HTk := Lib.hid htk
    have HKr := Lib.hid hkr
    clear hx htk hkr
    generalize nodes[i] = N at x0 x1 x2 x3 x4 x5 x6 x7 x8 x9 hke HTk HKr
    have Hn := Lib.hid (Hh.out.alloc (ndC N (.slice ak N.kids.length ck)) 45)
    have hk9 : N.kids.length ≤ 1000000000 := by omega
    have hr2 := HKr.out.fr (HFr.out.trans ((Ch.refl _ wr).alloc (.cells (ndC N (.slice ak N.kids.length ck)).toArray 45)))
    have HR2 := Lib.hid hr2
    clear hr2
    go_wp2_with (at_builtin; go_must (refine Hs.copy rfl _ _ 23 rfl 3 i0 _ 1 8 (by kernel_rfl) hi0 hz0 hz1 hz2 rfl (Nat.succ_pos _) (Nat.le_of_ble_eq_true rfl) ak N.kids.length ck (ints N.kids) rfl rfl (by rw [ints_len, Nat.mul_one]) (ints_all _) hk9 (rdS_add HR2.out (ints_len _)) Hn.out ?_))
    intro v5 w5 hh5
    obtain ⟨a5, c5, rfl, _, _⟩ := hh5.form 0 rfl
    have d9 := hh5.cell 1 rfl 9 rfl
    have z9 := hh5.froz 1 rfl 9
    have h6 := hh5.set_ 1 rfl 9 (.slice a5 N.kids.length c5)
    have H6 : Hid (Hs (fun k => k < w.heap.size) w (w5.setCell ⟨wr.heap.size, 9, none⟩ (.slice a5 N.kids.length c5)) (.row 3 1 (.slice a5 N.kids.length c5) N.kids.length (ints N.kids) :: .blk wr.heap.size 45 (ndC N (.slice a5 N.kids.length c5)) :: ([.blk g3 25 [vN, .slice none 0 0], .row 45 10 (vN) (i) (ndsC ((nodes.take i).zip kvs)), .blk g1 25 [.slice (some ⟨g, off, none⟩) nodes.length cn, .slice af funcs.length cf], .blk g2 25 [.slice none 0 0, .slice none 0 0]] ++ kidRows ((nodes.take i).zip kvs)))) := Lib.hid h6
    clear h6 hh5 Hn HR2 HKr x0 x1 x2 x3 x4 x5 x6 x7 x8 x9 b0 b1 c0
    go_upto_region 7 with fail
    obtain ⟨W6, hW6⟩ : ∃ W, W = w5.setCell ⟨wr.heap.size, 9, none⟩ (.slice a5 N.kids.length c5) := ⟨_, rfl⟩
    rw [← hW6] at H6 ⊢
    clear hW6 d9 z9
    have d0 := H6.out.cell 1 rfl 0 rfl
    have d1 := H6.out.cell 1 rfl 1 rfl
    have d2 := H6.out.cell 1 rfl 2 rfl
    have d3 := H6.out.cell 1 rfl 3 rfl
    have d4 := H6.out.cell 1 rfl 4 rfl
    have d5 := H6.out.cell 1 rfl 5 rfl
    have d6 := H6.out.cell 1 rfl 6 rfl
    have d7 := H6.out.cell 1 rfl 7 rfl
    have d8 := H6.out.cell 1 rfl 8 rfl
    have d9 := H6.out.cell 1 rfl 9 rfl
    have c0 := H6.out.cell 2 rfl 0 rfl
    have Hn := Lib.hid (H6.out.alloc (ndC N (.slice a5 N.kids.length c5)) 45)
    have hi9 : i ≤ 1000000000 := by omega
    go_wp2_with (at_builtin; go_must (refine Hs.push rfl _ _ 22 rfl 45 i1 _ 10 104 (by kernel_rfl) hi1 hy0 hy1 hy2 rfl (Nat.succ_pos _) (Nat.le_of_ble_eq_true rfl) 4 vN i (ndsC ((nodes.take i).zip kvs)) rfl 0 W6.heap.size (ndC N (.slice a5 N.kids.length c5)) rfl rfl rfl rfl rfl hi9 Hn.out ?_))
    intro v7 w7 hh7
    obtain ⟨a7, c7, rfl, _, _⟩ := hh7.form 4 rfl
    have e0 := hh7.cell 3 rfl 0 rfl
    have z0 := hh7.froz 3 rfl 0
    have H8 := Lib.hid (hh7.set_ 3 rfl 0 (.slice a7 (i + 1) c7))
    clear hh7 Hn H6 d0 d1 d2 d3 d4 d5 d6 d7 d8 d9 c0
    go_wp2_with fail
    go_roundg (gk - 1)
    case measure => omega
    case rel =>
      refine ⟨i + 1, .slice a7 (i + 1) c7, kvs ++ [.slice a5 N.kids.length c5], by omega, by go_num, by rw [List.length_append, HKl.out]; rfl, ?_⟩
      have hlk : kvs.length = (nodes.take i).length := by rw [List.length_take, HKl.out]; omega
      rw [HTk.out, ndsC_snoc hlk, kidRows_snoc hlk, ← List.append_assoc]
      have h1 := H8.out.tail
      have h2 : Hs (fun k => k < w.heap.size) w _ (.row 3 1 (.slice a5 N.kids.length c5) N.kids.length (ints N.kids) :: ([.blk g3 25 [.slice a7 (i + 1) c7, .slice none 0 0], .row 45 10 (.slice a7 (i + 1) c7) (i + 1) (ndsC ((nodes.take i).zip kvs) ++ ndC N (.slice a5 N.kids.length c5)), .blk g1 25 [.slice (some ⟨g, off, none⟩) nodes.length cn, .slice af funcs.length cf], .blk g2 25 [.slice none 0 0, .slice none 0 0]] ++ kidRows ((nodes.take i).zip kvs))) :=
        h1.sub ((List.sublist_cons_self _ _).cons_cons _)
      have h3 := Hs.mid (l := [.blk g3 25 [.slice a7 (i + 1) c7, .slice none 0 0], .row 45 10 (.slice a7 (i + 1) c7) (i + 1) (ndsC ((nodes.take i).zip kvs) ++ ndC N (.slice a5 N.kids.length c5)), .blk g1 25 [.slice (some ⟨g, off, none⟩) nodes.length cn, .slice af funcs.length cf], .blk g2 25 [.slice none 0 0, .slice none 0 0]] ++ kidRows ((nodes.take i).zip kvs)) (m := []) (by rw [List.append_nil]; exact h2)
      exact h3
  case neg =>
    have hki : ¬ (i : Int) < (nodes.length : Int) := by omega
    have htk : nodes.take i = nodes := List.take_of_length_le (by omega)
    have hin : i = nodes.length := by omega
    rw [htk] at Hh
    have HIn := Lib.hid hin
    have hf9 : funcs.length ≤ 1000000000 := by omega
    have HR2 := Lib.hid (HT.out.funcs.fr HFr.out)
    clear htk hin c0
    go_wp2_with (at_builtin; go_must (refine Hs.copy rfl _ _ 23 rfl 3 i0 _ 1 8 (by kernel_rfl) hi0 hz0 hz1 hz2 rfl (Nat.succ_pos _) (Nat.le_of_ble_eq_true rfl) af funcs.length cf (ints funcs) rfl rfl (by rw [ints_len, Nat.mul_one]) (ints_all _) hf9 (rdS_add HR2.out (ints_len _)) Hh.out ?_))
    intro v5 w5 hh5
    obtain ⟨a5, c5, rfl, _, _⟩ := hh5.form 0 rfl
    obtain ⟨a6, c6, rfl, _, _⟩ := hh5.form 2 rfl
    have e1 := hh5.cell 1 rfl 1 rfl
    have e0 := hh5.cell 1 rfl 0 rfl
    have z1 := hh5.froz 1 rfl 1
    have y0 := hh5.cell 4 rfl 0 rfl
    have y1 := hh5.cell 4 rfl 1 rfl
    have q0 := hh5.froz 4 rfl 0
    have q1 := hh5.froz 4 rfl 1
    have H8 := Lib.hid (((hh5.set_ 1 rfl 1 (.slice a5 funcs.length c5)).set_ 4 rfl 0 (.slice a6 i c6)).set_ 4 rfl 1 (.slice a5 funcs.length c5))
    have n23 : g2 ≠ g3 := fun h => n32 h.symm
    clear hh5 Hh HR2 b0 b1
    go_wp2_with fail
    have HB := (H8.out.get (i := 4) rfl).1
    refine bodyPost_ret (results_cell_row (p := 2) (ty := 25) rfl _ _ g2 25 #[.slice a6 i c6, .slice a5 funcs.length c5] (0, 0) _ rfl HB HU.out rfl (by kernel_rfl)) rfl ⟨.slice a6 i c6, .slice a5 funcs.length c5, kvs, rfl, by rw [HKl.out, HIn.out], gives_of ?_⟩
    have h := H8.out
    rw [← HIn.out]
    have h2 := Hs.front (l := [.row 3 1 (.slice a5 funcs.length c5) funcs.length (ints funcs), .blk g3 25 [.slice a6 i c6, .slice a5 funcs.length c5]]) h
    exact h2.sub (((List.sublist_append_right [_, _, _] (kidRows (nodes.zip kvs))).cons_cons _).cons_cons _)
end Go.Proofs.YtllahgnpjodgmaaDoor

set_option linter.unusedVariables false
namespace Go.Proofs.YtllahgnpjodgmaaDoor
open Go Go.RowKit Mem Pm
def slotF (i n : Int) : Int := if i.tmod n < 0 then i.tmod n + n else i.tmod n
theorem slotF_range (i n : Int) (hn : 0 < n) : 0 ≤ slotF i n ∧ slotF i n < n := by
  unfold slotF
  have h1 := Int.lt_tmod_of_pos i hn
  have h2 := Int.tmod_lt_of_pos i hn
  split <;> omega
set_option maxRecDepth 100000 in
set_option maxHeartbeats 2000000 in
theorem slot_c (i n : Int) (hn : 0 < n) (hn2 : n ≤ 4000000000000000000) (w : World) : Calls Tryd.prog 20 #[.int .i64 i, .int .i64 n] w fun e w' => e = .returned (.int .i64 (slotF i n)) ∧ w = w' := by
  have h1 := Int.lt_tmod_of_pos i hn
  have h2 := Int.tmod_lt_of_pos i hn
  have hS : slotF i n = if i.tmod n < 0 then i.tmod n + n else i.tmod n := rfl
  have hn0 : ¬ n = 0 := by omega
  have hn3 : (n == 0) = false := beq_eq_false_iff_ne.2 hn0
  by_cases hr : i.tmod n < 0
  · have HS := Lib.hid (show slotF i n = i.tmod n + n by rw [hS, if_pos hr])
    clear hS
    go_enter Tryd.func20, Tryd.ntmps20
    go_wp2_with fail
    go_ret
    exact ⟨by rw [HS.out]; rfl, rfl⟩
  · have HS := Lib.hid (show slotF i n = i.tmod n by rw [hS, if_neg hr])
    clear hS
    go_enter Tryd.func20, Tryd.ntmps20
    go_wp2_with fail
    go_ret
    exact ⟨by rw [HS.out]; rfl, rfl⟩
theorem set_self {α : Type} {l : List α} {i : Nat} {a : α} (h : l[i]? = some a) : l.set i a = l := by
  apply List.ext_getElem?
  intro k
  by_cases hk : i = k
  · subst hk
    rw [List.getElem?_set_self (List.getElem?_eq_some_iff.1 h).1]; exact h.symm
  · rw [List.getElem?_set_ne hk]
theorem set_mid {α : Type} (x y : α) (B : List α) : ∀ A : List α, (A ++ x :: B).set A.length y = A ++ y :: B
  | [] => rfl
  | a :: A => by show a :: (A ++ x :: B).set A.length y = _; rw [set_mid x y B A]; rfl
theorem ints_set (l : List Int) (k : Nat) (u : Int) : (ints l).set k (.int .i64 u) = ints (l.set k u) := by unfold ints; rw [List.map_set]
theorem map_step {l : List Int} {k : Nat} (f : Int → Int) (h : k < l.length) : ((l.take k).map f ++ l.drop k).set k (f l[k]) = (l.take (k + 1)).map f ++ l.drop (k + 1) := by
  have hl : ((l.take k).map f).length = k := by rw [List.length_map, List.length_take]; omega
  have hd : l.drop k = l[k] :: l.drop (k + 1) := List.drop_eq_getElem_cons h
  rw [hd]
  have := set_mid l[k] (f l[k]) (l.drop (k + 1)) ((l.take k).map f)
  rw [hl] at this
  rw [this, List.take_add_one, List.getElem?_eq_getElem h, List.map_append]
  simp
def swp (i j x : Int) : Int := if x = i then j else if x = j then i else x
set_option maxRecDepth 100000 in
set_option maxHeartbeats 8000000 in
theorem turn_c {A : Nat → Prop} {w0 : World} (w : World) (rs : List Res) (l : List Int) (v : Value) (i j : Int) (kx : Nat) (hkx : rs[kx]? = some (.row 3 1 v l.length (ints l))) (H : Hs A w0 w rs) (hl : l.length ≤ 1000000000) :
    Calls Tryd.prog 23 #[v, .int .i64 i, .int .i64 j] w fun e w' => e = .returned (.tuple #[]) ∧ Hs A w0 w' (rs.set kx (.row 3 1 v l.length (ints (l.map (swp i j))))) := by
  obtain ⟨a, c, rfl, hc, hg⟩ := H.form kx hkx
  have hrs : rs.set kx (.row 3 1 (.slice a l.length c) l.length (ints ((l.take 0).map (swp i j) ++ l.drop 0))) = rs := by
    rw [List.take_zero, List.map_nil, List.nil_append, List.drop_zero]
    exact set_self hkx
  have H1 : Hid (Hs A w0 w (rs.set kx (.row 3 1 (.slice a l.length c) l.length (ints ((l.take 0).map (swp i j) ++ l.drop 0))))) := Lib.hid (by rw [hrs]; exact H)
  have hkl : kx < rs.length := (List.getElem?_eq_some_iff.1 hkx).1
  have HKl := Lib.hid hkl
  have hcl : (l.length : Int) ≤ (c : Int) := by omega
  clear H hrs hkl hkx
  go_enter Tryd.func23, Tryd.ntmps23
  go_wp2_with fail
  go_loopg [6] l.length (fun m v6 wr => ∃ k : Nat, k + m = l.length ∧ v6 = .int .i64 (k : Int) ∧ Hs A w0 wr (rs.set kx (.row 3 1 (.slice a l.length c) l.length (ints ((l.take k).map (swp i j) ++ l.drop k)))))
  case atStart => exact ⟨0, by omega, rfl, H1.out⟩
  case round =>
  obtain ⟨k, hk, rfl, hh⟩ := hrel
  have Hh := Lib.hid hh
  have hget : (rs.set kx (.row 3 1 (.slice a l.length c) l.length (ints ((l.take k).map (swp i j) ++ l.drop k))))[kx]? = some (.row 3 1 (.slice a l.length c) l.length (ints ((l.take k).map (swp i j) ++ l.drop k))) := List.getElem?_set_self HKl.out
  clear H1
  by_cases hlt : k < l.length
  case neg =>
    have hki : ¬ (k : Int) < (l.length : Int) := by omega
    have he : (l.take k).map (swp i j) ++ l.drop k = l.map (swp i j) := by rw [List.take_of_length_le (by omega), List.drop_eq_nil_of_le (by omega), List.append_nil]
    have HE := Lib.hid he
    clear he hget hh
    go_wp2_with fail
    go_end0
    refine ⟨rfl, ?_⟩
    have h := Hh.out
    rw [HE.out] at h
    exact h
  case pos =>
    have hki : (k : Int) < (l.length : Int) := by omega
    have hk0 : (0 : Int) ≤ (k : Int) := by omega
    have hx : ((l.take k).map (swp i j) ++ l.drop k)[k]? = some l[k] := by
      rw [List.getElem?_append_right (by rw [List.length_map, List.length_take]; omega), List.length_map, List.length_take, List.getElem?_drop]
      rw [show k + (k - min k l.length) = k by omega]
      exact List.getElem?_eq_getElem hlt
    have hix := ints_get hx
    obtain ⟨g, rfl, hcell⟩ := hh.rdRow kx hget (fun h => by rw [h] at hix; cases hix)
    have cx := hcell k _ hix
    have zx := hh.rfroz kx hget (g := g) rfl k
    have hms := map_step (swp i j) hlt
    have hset : ∀ u : Int, u = swp i j l[k] → Hs A w0 (wr.setCell ⟨g, k, none⟩ (.int .i64 u)) (rs.set kx (.row 3 1 (.slice (some ⟨g, 0, none⟩) l.length c) l.length (ints ((l.take (k + 1)).map (swp i j) ++ l.drop (k + 1))))) := by
      intro u hu
      subst hu
      have h := hh.rset kx hget (g := g) rfl k (.int .i64 (swp i j l[k]))
      rw [List.set_set, ints_set, hms] at h
      exact h
    have hsame : l[k] = swp i j l[k] → (l.take k).map (swp i j) ++ l.drop k = (l.take (k + 1)).map (swp i j) ++ l.drop (k + 1) := by
      intro h0
      rw [← hms, ← h0]
      exact (set_self hx).symm
    have HSet := Lib.hid hset
    have HSame := Lib.hid hsame
    clear hms hset hsame hget hh hix hcell hx
    generalize l[k] = x at cx HSet HSame
    cases e1 : (x == i) with
    | true =>
      have hs1 : j = swp i j x := by unfold swp; rw [if_pos (beq_iff_eq.1 e1)]
      have H2 := Lib.hid (HSet.out j hs1)
      clear hs1
      go_wp2_with fail
      go_roundg (gk - 1)
      case measure => omega
      case rel => exact ⟨k + 1, by omega, by go_num, H2.out⟩
    | false =>
      cases e2 : (x == j) with
      | true =>
        have hs1 : i = swp i j x := by unfold swp; rw [if_neg (beq_eq_false_iff_ne.1 e1), if_pos (beq_iff_eq.1 e2)]
        have H2 := Lib.hid (HSet.out i hs1)
        clear hs1
        go_wp2_with fail
        go_roundg (gk - 1)
        case measure => omega
        case rel => exact ⟨k + 1, by omega, by go_num, H2.out⟩
      | false =>
        have hs1 : x = swp i j x := by unfold swp; rw [if_neg (beq_eq_false_iff_ne.1 e1), if_neg (beq_eq_false_iff_ne.1 e2)]
        have H2 := Lib.hid (HSame.out hs1)
        clear hs1
        go_wp2_with fail
        go_roundg (gk - 1)
        case measure => omega
        case rel => exact ⟨k + 1, by omega, by go_num, by rw [← H2.out]; exact Hh.out⟩
end Go.Proofs.YtllahgnpjodgmaaDoor

set_option linter.unusedVariables false
namespace Go.Proofs.YtllahgnpjodgmaaDoor
open Go Go.RowKit Mem Pm
theorem rdS_blk {A : Nat → Prop} {w0 w : World} {rs : List Res} (h : Hs A w0 w rs) (i : Nat) {g n : Nat} {t : TypeId} {cs : List Value} (hi : rs[i]? = some (.blk g t cs)) : RdS w (sl g n) n cs :=
  ⟨_, _, rfl, Nat.le_refl _, fun _ => ⟨g, 0, rfl, fun j u hu => by rw [Nat.zero_add]; exact h.cell i hi j hu⟩⟩
def sampleRes (b : Nat) (cs : List Value) : List Res := [.blk (b + 6) 3 [.int .i64 5], .blk (b + 5) 45 cs, .blk (b + 4) 3 [.int .i64 4], .blk (b + 3) 3 [.int .i64 3], .blk (b + 2) 3 [.int .i64 2], .blk (b + 1) 3 [.int .i64 0, .int .i64 1]]
theorem sample_rd {A : Nat → Prop} {w0 w : World} {b : Nat} {rs : List Res} (l : List Nd) (hl : l = sampleN ∨ l = sampleM) (h : Hs A w0 w (sampleRes b (ndsC (l.zip [.slice none 0 0, .slice none 0 0, sl (b + 1) 2, sl (b + 2) 1, sl (b + 3) 1, sl (b + 4) 1])) ++ rs)) :
    TreeRd w l [5] (sl (b + 5) 6) (sl (b + 6) 1) := by
  have hn : RdS w (.slice none 0 0) 0 [] := ⟨_, _, rfl, Nat.le_refl _, fun h => absurd rfl h⟩
  rcases hl with rfl | rfl
  · refine ⟨⟨[.slice none 0 0, .slice none 0 0, sl (b + 1) 2, sl (b + 2) 1, sl (b + 3) 1, sl (b + 4) 1], rfl, rdS_blk h 1 rfl, ?_⟩, rdS_blk h 0 rfl⟩
    intro x hx
    simp only [sampleN, List.zip_cons_cons, List.zip_nil_left, List.mem_cons, List.not_mem_nil, or_false] at hx
    rcases hx with rfl | rfl | rfl | rfl | rfl | rfl
    · exact hn
    · exact hn
    · exact rdS_blk h 5 rfl
    · exact rdS_blk h 4 rfl
    · exact rdS_blk h 3 rfl
    · exact rdS_blk h 2 rfl
  · refine ⟨⟨[.slice none 0 0, .slice none 0 0, sl (b + 1) 2, sl (b + 2) 1, sl (b + 3) 1, sl (b + 4) 1], rfl, rdS_blk h 1 rfl, ?_⟩, rdS_blk h 0 rfl⟩
    intro x hx
    simp only [sampleM, List.zip_cons_cons, List.zip_nil_left, List.mem_cons, List.not_mem_nil, or_false] at hx
    rcases hx with rfl | rfl | rfl | rfl | rfl | rfl
    · exact hn
    · exact hn
    · exact rdS_blk h 5 rfl
    · exact rdS_blk h 4 rfl
    · exact rdS_blk h 3 rfl
    · exact rdS_blk h 2 rfl
theorem sample_small (l : List Nd) (hl : l = sampleN ∨ l = sampleM) : Small l [5] := by
  rcases hl with rfl | rfl
  · exact ⟨by decide, by decide, by decide⟩
  · exact ⟨by decide, by decide, by decide⟩
set_option maxRecDepth 100000 in
set_option maxHeartbeats 16000000 in
theorem alive_c (w : World) (htab : Tab w) : Calls Tryd.prog 12 #[] w fun e w' => e = .returned (.bool true) ∧ Fr w w' := by
  have HTab := Lib.hid htab
  clear htab
  go_enter Tryd.func12, Tryd.ntmps12
  go_wp2_with fail
  refine (sample_c _).mono ?_
  rintro e w1 ⟨b, rfl, hg⟩
  have H1 := Lib.hid ((hg _ _ _ (Hs.start w)).alloc [sl (b + 5) 6, sl (b + 6) 1] 25)
  clear hg
  have H2 := Lib.hid (H1.out.mid (l := sampleRes b (sampleC b)) (m := []))
  have T2 := Lib.hid (sample_rd (A := fun k => k < w.heap.size) sampleN (.inl rfl) H2.out)
  have HP := Lib.hid (tab_fr HTab.out (fr_of_kp H2.out.kp))
  have b0 := H2.out.cell 6 rfl 0 rfl
  have b1 := H2.out.cell 6 rfl 1 rfl
  clear H1
  unfold sl at b0 b1 ⊢
  go_wp2_with fail
  refine (print_c sampleN [5] _ _ _ T2.out (sample_small _ (.inl rfl)) HP.out (by decide) (by decide) (fun _ => by rw [sample_print]; decide)).mono ?_
  rintro e w2 (⟨hno, _⟩ | ⟨_, v, rfl, hg⟩)
  · exact absurd hno (by rw [sample_check]; simp)
  rw [sample_print] at hg
  have H3 := Lib.hid ((hg _ _ _ H2.out).mid (l := sampleRes b (sampleC b) ++ [.blk w1.heap.size 25 [sl (b + 5) 6, sl (b + 6) 1]]) (m := []))
  have T3 := Lib.hid (sample_rd (A := fun k => k < w.heap.size) sampleN (.inl rfl) H3.out)
  clear hg HP T2 H2 b0 b1
  have b0 := H3.out.cell 6 rfl 0 rfl
  have b1 := H3.out.cell 6 rfl 1 rfl
  unfold sl at b0 b1
  go_wp2_with fail
  refine (check_c sampleN [5] _ _ _ T3.out (sample_small _ (.inl rfl))).mono ?_
  rintro e w3 ⟨rfl, hf⟩
  rw [sample_check]
  have H4 := Lib.hid (H3.out.ch0 hf)
  have H5 := Lib.hid (H4.out.set_ 1 rfl 6 (.int .i64 1))
  have T5 := Lib.hid (sample_rd (A := fun k => k < w.heap.size) (w0 := w) (w := w3.setCell ⟨b + 5, 6, none⟩ (.int .i64 1)) (rs := [.blk w1.heap.size 25 [sl (b + 5) 6, sl (b + 6) 1], .row 5 1 v sampleS.length (bytesC sampleS)]) sampleM (.inr rfl) H5.out)
  replace b0 := fr_cell hf b0
  replace b1 := fr_cell hf b1
  have c6 := H4.out.cell 1 rfl 6 (u := .int .i64 0) rfl
  have z6 := H4.out.froz 1 rfl 6
  have hne : w1.heap.size ≠ b + 5 := by have := H4.out.ne (i := 6) (j := 1) rfl rfl (by decide); intro h; exact this w1.heap.size rfl (by rw [h]; rfl)
  have hne2 : b + 5 ≠ w1.heap.size := fun h => hne h.symm
  clear hf T3 H3 H4
  have i0 : (0 : Int) < 6 := by decide
  go_wp2_with fail
  refine (check_c sampleM [5] _ _ _ T5.out (sample_small _ (.inr rfl))).mono ?_
  rintro e w4 ⟨rfl, hf⟩
  rw [sample_not]
  have H6 := Lib.hid (H5.out.ch0 hf)
  have HFr := Lib.hid (fr_of_kp H6.out.kp)
  obtain ⟨av, cv, rfl, _, hgv⟩ := H6.out.form 7 rfl
  obtain ⟨gv, rfl, _⟩ := hgv (by decide)
  have hcv : ∀ i, i < 28 → w4.cell? ⟨gv, 0 + i, none⟩ = some (.int .u8 ((sampleS.map fun c => (c.toNat : Int)).getD i 0)) := by
    intro i hi
    rw [Nat.zero_add]
    obtain ⟨g', he, hc⟩ := H6.out.rdRow 7 rfl (by decide)
    injection he with he
    injection he with he1 _
    subst he1
    refine hc i _ ?_
    have hl : i < sampleS.length := hi
    unfold bytesC
    rw [List.getElem?_map, List.getElem?_eq_getElem hl, List.getD_eq_getElem?_getD, List.getElem?_map, List.getElem?_eq_getElem hl]
    rfl
  have hcon := run_convert_bytes_arg w4 30 5 (P := Tryd.prog) (by kernel_rfl) (by kernel_rfl) gv 0 28 cv (sampleS.map fun c => (c.toNat : Int)) rfl hcv 9 (by kernel_rfl)
  have hstr : strOfNums (sampleS.map fun c => (c.toNat : Int)) = ⟨#[102, 117, 110, 99, 32, 109, 97, 105, 110, 40, 41, 32, 123, 10, 9, 120, 32, 61, 32, 49, 32, 45, 32, 50, 59, 10, 125, 10]⟩ := by kernel_rfl
  rw [hstr] at hcon
  clear hf H5 T5 H6 hcv b0 b1 hstr
  have hl28 : sampleS.length = 28 := rfl
  rw [hl28]
  have e0 : errT true = 0 := rfl
  have e3 : errT false = 30 := rfl
  rw [e0, e3]
  go_wp2_with (first | (go_at_call 18; refine (num_c _ _).mono ?_; rintro e w' ⟨rfl, rfl⟩))
  go_ret
  exact ⟨rfl, HFr.out⟩
end Go.Proofs.YtllahgnpjodgmaaDoor
