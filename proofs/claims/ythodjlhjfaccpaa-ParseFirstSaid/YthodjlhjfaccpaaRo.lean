/- quernref4's node: what the call does. -/
import Derived.Test.YthodjlhjfaccpaaRa
set_option linter.unusedVariables false
namespace Go.Proofs.Ythodjlhjfaccpaa
open Go Go.RowKit Mem Pm Rf

theorem kidRows_snoc {l : List Nd} {kvs : List Value} {n : Nd} {kv : Value} (h : kvs.length = l.length) : kidRows ((l ++ [n]).zip (kvs ++ [kv])) = kidRows (l.zip kvs) ++ [.row 3 1 kv n.kids.length (ints n.kids)] := by
  rw [List.zip_append h.symm]
  simp [kidRows]
theorem ndsC_snoc {l : List Nd} {kvs : List Value} {n : Nd} {kv : Value} (h : kvs.length = l.length) : ndsC ((l ++ [n]).zip (kvs ++ [kv])) = ndsC (l.zip kvs) ++ ndC n kv := by
  rw [List.zip_append h.symm]
  simp [ndsC]

section
variable {A : Nat → Prop} {w0 w : World} {gs : Nat} {s : RS} {rest : List Res}
set_option maxRecDepth 100000 in
set_option maxHeartbeats 8000000 in
theorem node_c (h : RI A w0 w gs s rest) (hs : s.sz ≤ 999999000) (s' : RS) (hn : s.node = some s') : Calls Try.prog 37 #[.pointer (some ⟨gs, 0, none⟩)] w fun e w' => e = .returned (.tuple #[]) ∧ RI A w0 w' gs s' rest := by
  obtain ⟨nd, fu, ne, wa, ma, wt, kvs, hkv, h⟩ := h
  have hsl : s.marks.length ≤ 999999000 ∧ s.wait.length ≤ 999999000 ∧ s.nodes.length ≤ 999999000 ∧ s.funcs.length ≤ 999999000 := by unfold RS.sz at hs; omega
  obtain ⟨hml, hwl, hdl, hfl⟩ := hsl
  have hgs := (h.nin (i := 0) rfl rfl).1
  obtain ⟨n, f, r, hm⟩ : ∃ n f r, s.marks = (n, f) :: r := by
    unfold RS.node at hn
    cases hm : s.marks with
    | nil => rw [hm] at hn; cases hn
    | cons x r => exact ⟨x.1, x.2, r, rfl⟩
  have hf : f ≤ s.wait.length := by
    unfold RS.node at hn
    rw [hm] at hn
    dsimp only at hn
    by_cases hf : f ≤ s.wait.length
    · exact hf
    · rw [if_neg hf] at hn; cases hn
  have hml' : s.marks.length = r.length + 1 := by rw [hm]; rfl
  obtain ⟨am, cm, rfl, hcm, hg⟩ := h.form 5 rfl
  rw [hml'] at hg hcm
  obtain ⟨gm, rfl, hgm⟩ := hg (Nat.succ_pos _)
  obtain ⟨an, cn, rfl, _, _⟩ := h.form 1 rfl
  obtain ⟨aw, cw, rfl, hcw, hgw⟩ := h.form 6 rfl
  obtain ⟨af, cf, rfl, _, _⟩ := h.form 2 rfl
  have hgml := (h.nin (i := 5) rfl hgm).1
  have hi0 : (0 : Int) ≤ (s.marks.length : Int) - 1 := by omega
  have hi1 : (s.marks.length : Int) - 1 < (s.marks.length : Int) := by omega
  have hi2 : ((s.marks.length : Int) - 1).toNat = r.length := by omega
  have hi3 : (s.marks.length : Int) - 1 ≤ (s.marks.length : Int) := by omega
  have hi4 : (s.marks.length : Int) - 1 ≤ (cm : Int) := by omega
  have hxs : begsC s.marks = begsC r ++ begC (n, f) := by rw [hm]; simp [begsC]
  have hrl : (begsC r).length = r.length * 11 := begsC_len' r
  have bc : ∀ j u, (begC (n, f))[j]? = some u → w.cell? ⟨gm, r.length * 11 + j, none⟩ = some u := fun j u hu => h.rcell 5 rfl hgm _ (by rw [hxs, List.getElem?_append_right (by omega), hrl, Nat.add_sub_cancel_left]; exact hu)
  have b0 := bc 0 _ rfl
  have b1 := bc 1 _ rfl
  have b2 := bc 2 _ rfl
  have b3 := bc 3 _ rfl
  have b4 := bc 4 _ rfl
  have b5 := bc 5 _ rfl
  have b6 := bc 6 _ rfl
  have b7 := bc 7 _ rfl
  have b8 := bc 8 _ rfl
  have b9 := bc 9 _ rfl
  have b10 := bc 10 _ rfl
  rw [Nat.add_zero] at b0
  have c4 := h.cell 0 rfl 4 rfl
  have z4 := h.froz 0 rfl 4
  -- the mark is taken off the stack, the node lies in a box
  have hcut := h.cut 5 (k := r.length) rfl (by omega)
  have e1 : (begsC s.marks).take (r.length * 11) = begsC r := by rw [hxs, List.take_append_of_le_length (by omega), List.take_of_length_le (by omega)]
  simp only [List.set_cons_succ, List.set_cons_zero, RSt, List.cons_append] at hcut
  rw [e1] at hcut
  have h1 := ((hcut.set_ 0 rfl 4 (.slice (some ⟨gm, 0, none⟩) r.length cm)).alloc (begC (n, f)) 85).alloc (ndC n (.slice none 0 0)) 42
  simp only [size_alloc', size_setCell, List.set_cons_zero, List.set_cons_succ, begC, ndC, List.cons_append, List.nil_append] at h1
  have H1 := Lib.hid h1
  have Hkv := Lib.hid hkv
  have Hm := Lib.hid hm
  have Hn := Lib.hid hn
  have Hf := Lib.hid hf
  clear h hs hkv hxs hrl hm hgm hg hml' bc hn hcut e1 h1
  go_enter Try.func37, Try.ntmps37
  go_wp2_with fail
  generalize World.alloc (World.alloc _ _) _ = W at H1 ⊢
  generalize w.heap.size + 1 = B2 at H1 ⊢
  generalize w.heap.size = B1 at H1 ⊢
  obtain ⟨i0, hi0', hz0, hz1, hz2⟩ := info_parts infoInt
  obtain ⟨in_, hin, hnz0, hnz1, hnz2⟩ := info_parts infoNode
  clear b0 b1 b2 b3 b4 b5 b6 b7 b8 b9 b10 c4 z4 hgs hgml
  go_loopg [5] (s.wait.length - f) (fun m i wr => ∃ (k : Nat) (kv : Value), k + m = s.wait.length ∧ f ≤ k ∧ i = .int .i64 (k : Int) ∧
    Hs A w0 wr (.row 3 1 kv (k - f) (ints ((s.wait.drop f).take (k - f))) :: .blk B2 42 (ndC n kv) :: .blk B1 85 (begC (n, f)) ::
      (RSt gs { s with marks := r } (.slice an s.nodes.length cn) (.slice af s.funcs.length cf) ne wa (.slice (some ⟨gm, 0, none⟩) r.length cm) (.slice aw s.wait.length cw) kvs ++ rest)))
  case atStart =>
    refine ⟨f, .slice none 0 0, by have := Hf.out; omega, Nat.le_refl _, rfl, ?_⟩
    rw [Nat.sub_self]
    exact H1.out.nil 3 1
  case round =>
    obtain ⟨k, kv, hk, hfk, rfl, hh⟩ := hrel
    obtain ⟨ak, ck, rfl, _, _⟩ := hh.form 0 rfl
    have c5 := hh.cell 3 rfl 5 rfl
    by_cases hlt : k < s.wait.length
    · have hki : (k : Int) < (s.wait.length : Int) := by omega
      have hki0 : (0 : Int) ≤ (k : Int) := by omega
      obtain ⟨gw, rfl, hgw'⟩ := hgw (by omega)
      have hx : s.wait[k]? = some s.wait[k] := List.getElem?_eq_getElem hlt
      have cx := hh.rcell 9 rfl hgw' _ (ints_get hx)
      have cn9 := hh.cell 1 rfl 9 rfl
      have zn9 := hh.froz 1 rfl 9
      have hB2 := (hh.nin (i := 1) rfl rfl).1
      have hkl : k - f ≤ 1000000000 := by omega
      have Hx := Lib.hid (show (s.wait.drop f).take (k + 1 - f) = (s.wait.drop f).take (k - f) ++ [s.wait[k]] by
        rw [show k + 1 - f = (k - f) + 1 by omega, List.take_add_one, List.getElem?_drop, show f + (k - f) = k by omega, hx]; rfl)
      generalize s.wait[k] = x at cx Hx
      have Hh1 := Lib.hid (hh.drew.alloc [.int .i64 x] 3)
      clear hh hx
      go_wp2_with fail
      refine Reg.wp_region_text (by kernel_rfl) (by kernel_rfl) ?_
      go_wp2_with (at_builtin; go_must (refine Hs.push rfl _ _ 33 rfl 3 i0 _ 1 8 (by kernel_rfl) hi0' hz0 hz1 hz2 rfl (Nat.succ_pos _) (Nat.le_of_ble_eq_true rfl) 1 (.slice ak (k - f) ck) (k - f) (ints ((s.wait.drop f).take (k - f))) rfl 0 wr.heap.size [.int .i64 x] rfl rfl rfl rfl rfl hkl Hh1.out ?_))
      intro v1 w1 hh2
      obtain ⟨a2, cp2, rfl, _, _⟩ := hh2.form 1 rfl
      have cn9' := hh2.cell 2 rfl 9 rfl
      have zn9' := hh2.froz 2 rfl 9
      have Hh2 := Lib.hid hh2
      clear hh2 cn9 zn9 c5 cx
      go_wp2_with fail
      refine ⟨by kernel_rfl, ?_⟩
      go_wp2_with fail
      go_roundg (gk - 1)
      case measure => omega
      case rel =>
        refine ⟨k + 1, .slice a2 (k - f + 1) cp2, by omega, by omega, by go_num, ?_⟩
        have h3 := (Hh2.out.set_ 2 rfl 9 (.slice a2 (k - f + 1) cp2)).tail
        rw [Hx.out, show k + 1 - f = k - f + 1 by omega]
        have e : ints ((s.wait.drop f).take (k - f)) ++ [Value.int .i64 x] = ints ((s.wait.drop f).take (k - f) ++ [x]) := by simp [ints]
        rw [e] at h3
        exact h3
    · have hkl : k = s.wait.length := by omega
      subst hkl
      have htk : (s.wait.drop f).take (s.wait.length - f) = s.wait.drop f := List.take_of_length_le (by rw [List.length_drop]; omega)
      rw [htk] at hh
      generalize hL : s.wait.length - f = L at hh
      have hff : (f : Int) ≤ (s.wait.length : Int) := by omega
      have hff0 : (0 : Int) ≤ (f : Int) := by omega
      have hffc : (f : Int) ≤ (cw : Int) := by omega
      have c10 : wr.cell? ⟨B1, 10, none⟩ = some (.int .i64 (f : Int)) := hh.cell 2 rfl 10 rfl
      have z5 := hh.froz 3 rfl 5
      have hcut := hh.cut 9 (k := f) rfl hfk
      have e1 : (ints s.wait).take (f * 1) = ints (s.wait.take f) := by simp [ints]
      simp only [List.set_cons_succ, List.set_cons_zero, RSt, List.cons_append] at hcut
      rw [e1] at hcut
      have h2 := (hcut.set_ 3 rfl 5 (.slice aw f cw)).drew
      simp only [List.set_cons_succ, List.set_cons_zero] at h2
      have H2 := Lib.hid h2
      clear hh h2 hcut e1 htk
      go_wp2_with fail
      refine Reg.wp_region_text (by kernel_rfl) (by kernel_rfl) ?_
      go_wp2_with fail
      refine ⟨by kernel_rfl, ?_⟩
      generalize World.drew (World.setCell wr _ _) = W2 at H2 ⊢
      have c5 := H2.out.cell 3 rfl 5 rfl
      have c0 := H2.out.cell 3 rfl 0 rfl
      have hgs2 := (H2.out.nin (i := 3) rfl rfl).1
      have Hh3 := Lib.hid (H2.out.drew.alloc [.int .i64 (s.nodes.length : Int)] 3)
      clear c10 z5
      go_wp2_with fail
      refine Reg.wp_region_text (by kernel_rfl) (by kernel_rfl) ?_
      go_wp2_with (at_builtin; go_must (refine Hs.push rfl _ _ 33 rfl 3 i0 _ 1 8 (by kernel_rfl) hi0' hz0 hz1 hz2 rfl (Nat.succ_pos _) (Nat.le_of_ble_eq_true rfl) 10 (.slice aw f cw) f (ints (s.wait.take f)) rfl 0 W2.heap.size [.int .i64 (s.nodes.length : Int)] rfl rfl rfl rfl rfl (by omega) Hh3.out ?_))
      intro v1 w1 hh4
      obtain ⟨a2, cp2, rfl, _, _⟩ := hh4.form 10 rfl
      have c5' := hh4.cell 4 rfl 5 rfl
      have z5' := hh4.froz 4 rfl 5
      have h5 := (hh4.set_ 4 rfl 5 (.slice a2 (f + 1) cp2)).tail
      simp only [List.set_cons_succ, List.set_cons_zero] at h5
      have H5 := Lib.hid h5
      clear hh4 h5 c5 c0
      go_wp2_with fail
      refine ⟨by kernel_rfl, ?_⟩
      generalize World.setCell w1 _ _ = W3 at H5 ⊢
      have c0 := H5.out.cell 3 rfl 0 rfl
      have n0 := H5.out.cell 1 rfl 0 rfl
      have n1 := H5.out.cell 1 rfl 1 rfl
      have n2 := H5.out.cell 1 rfl 2 rfl
      have n3 := H5.out.cell 1 rfl 3 rfl
      have n4 := H5.out.cell 1 rfl 4 rfl
      have n5 := H5.out.cell 1 rfl 5 rfl
      have n6 := H5.out.cell 1 rfl 6 rfl
      have n7 := H5.out.cell 1 rfl 7 rfl
      have n8 := H5.out.cell 1 rfl 8 rfl
      have n9 := H5.out.cell 1 rfl 9 rfl
      have hB2 := (H5.out.nin (i := 1) rfl rfl).1
      have Hh6 := Lib.hid (H5.out.drew.alloc (ndC n (.slice ak L ck)) 42)
      clear c5' z5'
      go_wp2_with fail
      refine Reg.wp_region_text (by kernel_rfl) (by kernel_rfl) ?_
      go_wp2_with (at_builtin; go_must (refine Hs.push rfl _ _ 32 rfl 42 in_ _ 10 104 (by kernel_rfl) hin hnz0 hnz1 hnz2 rfl (Nat.succ_pos _) (Nat.le_of_ble_eq_true rfl) 5 (.slice an s.nodes.length cn) s.nodes.length (ndsC (s.nodes.zip kvs)) rfl 0 W3.heap.size (ndC n (.slice ak L ck)) rfl rfl rfl rfl rfl (by omega) Hh6.out ?_))
      intro v2 w2 hh7
      obtain ⟨a3, cp3, rfl, _, _⟩ := hh7.form 5 rfl
      have c0' := hh7.cell 4 rfl 0 rfl
      have z0' := hh7.froz 4 rfl 0
      have h8 := (hh7.set_ 4 rfl 0 (.slice a3 (s.nodes.length + 1) cp3)).tail
      simp only [List.set_cons_succ, List.set_cons_zero] at h8
      have H8 := Lib.hid h8
      clear hh7 h8 c0 n0 n1 n2 n3 n4 n5 n6 n7 n8 n9
      go_wp2_with fail
      refine ⟨by kernel_rfl, ?_⟩
      generalize World.setCell w2 _ _ = W4 at H8 ⊢
      have m0 := H8.out.cell 1 rfl 0 rfl
      have hL' : (s.wait.drop f).length = L := by rw [List.length_drop]; exact hL
      have HL := Lib.hid hL'
      by_cases hk1 : n.kind = 1
      · have q1 : (n.kind == 1) = true := beq_iff_eq.2 hk1
        have hs' : s' = { s with marks := r, nodes := s.nodes ++ [{ n with kids := s.wait.drop f }], funcs := s.funcs ++ [(s.nodes.length : Int)], wait := [] } := by
          have := Hn.out
          unfold RS.node at this
          rw [Hm.out] at this
          dsimp only at this
          rw [if_pos Hf.out, if_pos hk1] at this
          injection this with this
          exact this.symm
        have Hs' := Lib.hid hs'
        have c0 := H8.out.cell 3 rfl 0 rfl
        have c1 := H8.out.cell 3 rfl 1 rfl
        have hgs3 := (H8.out.nin (i := 3) rfl rfl).1
        have Hh9 := Lib.hid (H8.out.drew.alloc [.int .i64 (s.nodes.length : Int)] 3)
        clear hs' hL' hL hk1
        go_wp2_with fail
        refine Reg.wp_region_text (by kernel_rfl) (by kernel_rfl) ?_
        go_wp2_with (at_builtin; go_must (refine Hs.push rfl _ _ 33 rfl 3 i0 _ 1 8 (by kernel_rfl) hi0' hz0 hz1 hz2 rfl (Nat.succ_pos _) (Nat.le_of_ble_eq_true rfl) 6 (.slice af s.funcs.length cf) s.funcs.length (ints s.funcs) rfl 0 W4.heap.size [.int .i64 (s.nodes.length : Int)] rfl rfl rfl rfl rfl (by omega) Hh9.out ?_))
        intro v3 w3 hh10
        obtain ⟨a4, cp4, rfl, _, _⟩ := hh10.form 6 rfl
        have c1' := hh10.cell 4 rfl 1 rfl
        have z1' := hh10.froz 4 rfl 1
        have h11 := (hh10.set_ 4 rfl 1 (.slice a4 (s.funcs.length + 1) cp4)).tail
        simp only [List.set_cons_succ, List.set_cons_zero] at h11
        have H11 := Lib.hid h11
        clear hh10 h11 c0 c1
        go_wp2_with fail
        refine ⟨by kernel_rfl, ?_⟩
        generalize World.setCell w3 _ _ = W5 at H11 ⊢
        have c5 := H11.out.cell 3 rfl 5 rfl
        have z5 := H11.out.froz 3 rfl 5
        go_wp2_with fail
        go_end0
        have h12 := ((H11.out.set_ 3 rfl 5 (.slice none 0 0)).renil 9 rfl).sub (.cons_cons _ (.cons _ (.cons _ (.refl _))))
        simp only [List.set_cons_succ, List.set_cons_zero] at h12
        refine ⟨rfl, .slice a3 (s.nodes.length + 1) cp3, .slice a4 (s.funcs.length + 1) cp4, ne, wa, .slice (some ⟨gm, 0, none⟩) r.length cm, .slice none 0 0, kvs ++ [.slice ak L ck], ?_, ?_⟩
        · rw [Hs'.out, List.length_append, List.length_append, Hkv.out]; rfl
        · rw [Hs'.out]
          simp only [RSt, kidRows_snoc Hkv.out, ndsC_snoc Hkv.out, List.cons_append, List.append_assoc, List.nil_append]
          have h13 := Hs.mid (l := _ :: _ :: _ :: _ :: _ :: _ :: _ :: kidRows (s.nodes.zip kvs)) (m := rest) h12
          have e1 : (s.nodes ++ [({ n with kids := s.wait.drop f } : Nd)]).length = s.nodes.length + 1 := by simp
          have e2 : (s.funcs ++ [(s.nodes.length : Int)]).length = s.funcs.length + 1 := by simp
          have e3 : ints (s.funcs ++ [(s.nodes.length : Int)]) = ints s.funcs ++ [.int .i64 (s.nodes.length : Int)] := by simp [ints]
          rw [e1, e2, e3, HL.out]
          exact h13
      · have q1 : (n.kind == 1) = false := beq_eq_false_iff_ne.2 hk1
        have hs' : s' = { s with marks := r, nodes := s.nodes ++ [{ n with kids := s.wait.drop f }], wait := s.wait.take f ++ [(s.nodes.length : Int)] } := by
          have := Hn.out
          unfold RS.node at this
          rw [Hm.out] at this
          dsimp only at this
          rw [if_pos Hf.out, if_neg hk1] at this
          injection this with this
          exact this.symm
        have Hs' := Lib.hid hs'
        clear hs' hL' hL hk1
        go_wp2_with fail
        go_end0
        have h12 := H8.out.sub (.cons_cons _ (.cons _ (.cons _ (.refl _))))
        refine ⟨rfl, .slice a3 (s.nodes.length + 1) cp3, .slice af s.funcs.length cf, ne, wa, .slice (some ⟨gm, 0, none⟩) r.length cm, .slice a2 (f + 1) cp2, kvs ++ [.slice ak L ck], ?_, ?_⟩
        · rw [Hs'.out, List.length_append, List.length_append, Hkv.out]; rfl
        · rw [Hs'.out]
          simp only [RSt, kidRows_snoc Hkv.out, ndsC_snoc Hkv.out, List.cons_append, List.append_assoc, List.nil_append]
          have h13 := Hs.mid (l := _ :: _ :: _ :: _ :: _ :: _ :: _ :: kidRows (s.nodes.zip kvs)) (m := rest) h12
          have e1 : (s.nodes ++ [({ n with kids := s.wait.drop f } : Nd)]).length = s.nodes.length + 1 := by simp
          have e2 : (s.wait.take f ++ [(s.nodes.length : Int)]).length = f + 1 := by simp [Nat.min_eq_left Hf.out]
          have e3 : ints (s.wait.take f ++ [(s.nodes.length : Int)]) = ints (s.wait.take f) ++ [.int .i64 (s.nodes.length : Int)] := by simp [ints]
          rw [e1, e2, e3, HL.out]
          exact h13

set_option maxRecDepth 100000 in
set_option maxHeartbeats 8000000 in
theorem act_node (h : RI A w0 w gs s rest) (hs : s.sz ≤ 999999000) (next : Tok) (a : Int) (ha : 1000 ≤ a) (ha2 : a < 2000) (s' : RS) (hn : s.node = some s') : Calls Try.prog 25 #[.pointer (some ⟨gs, 0, none⟩), .int .i64 a, tokV next] w fun e w' => e = .returned (.tuple #[]) ∧ RI A w0 w' gs s' rest := by
  obtain ⟨nk, na, nv, nn⟩ := next
  have h' : RI A w0 (w.alloc (.cells #[.int .i64 nk, .int .i64 na, .int .i64 nv, .string nn] 48)) gs s rest := by
    obtain ⟨nd, fu, ne, wa, ma, wt, kvs, hkv, h⟩ := h
    exact ⟨nd, fu, ne, wa, ma, wt, kvs, hkv, h.alloc' _⟩
  have H' := Lib.hid h'
  obtain ⟨nd, fu, ne, wa, ma, wt, kvs, hkv, h⟩ := h
  have hml : s.marks.length ≤ 999999000 := by unfold RS.sz at hs; omega
  have hgs := (h.nin (i := 0) rfl rfl).1
  obtain ⟨am, cm, rfl, _, _⟩ := h.form 5 rfl
  have c4 := h.cell 0 rfl 4 rfl
  have e6000 : decide (6000 ≤ a) = false := decide_eq_false (by omega)
  have e5000 : decide (5000 ≤ a) = false := decide_eq_false (by omega)
  have e3000 : decide (3000 ≤ a) = false := decide_eq_false (by omega)
  have e2000 : decide (2000 ≤ a) = false := decide_eq_false (by omega)
  have e4000 : (a == 4000) = false := beq_eq_false_iff_ne.2 (by omega)
  have e4001 : (a == 4001) = false := beq_eq_false_iff_ne.2 (by omega)
  have e4002 : (a == 4002) = false := beq_eq_false_iff_ne.2 (by omega)
  have e4003 : (a == 4003) = false := beq_eq_false_iff_ne.2 (by omega)
  have e4004 : (a == 4004) = false := beq_eq_false_iff_ne.2 (by omega)
  have e4005 : (a == 4005) = false := beq_eq_false_iff_ne.2 (by omega)
  have e4006 : (a == 4006) = false := beq_eq_false_iff_ne.2 (by omega)
  have e4007 : (a == 4007) = false := beq_eq_false_iff_ne.2 (by omega)
  have e4008 : (a == 4008) = false := beq_eq_false_iff_ne.2 (by omega)
  have Hs0 := Lib.hid hs
  have Hn := Lib.hid hn
  clear h h' hs hkv hn
  unfold tokV
  go_enter Try.func25, Try.ntmps25
  go_wp2_with fail
  refine (node_c H'.out Hs0.out s' Hn.out).mono ?_
  rintro e w1 ⟨rfl, hr⟩
  have Hr := Lib.hid hr
  clear hr
  go_wp2_with fail
  go_end0
  exact ⟨rfl, Hr.out⟩
end
end Go.Proofs.Ythodjlhjfaccpaa
