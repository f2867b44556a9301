/- quernref3.walk: the numbers of the nodes, as the walk of a function comes to them.
The walk of a function comes to no number above its own. -/
import Derived.Test.YtllahgnpjodgmaaDoorQ10
import Derived.Test.YtllahgnpjodgmaaDoorQ9
set_option linter.unusedVariables false
namespace Go.Proofs.YtllahgnpjodgmaaDoor
open Go Go.RowKit Mem Pm
namespace Tm
variable {ks : Nat → List Nat}
/-- What is still to come of a node of which so many kids have been walked. -/
def rem (ks : Nat → List Nat) (p : Nat × Nat) : List Nat := ((ks p.1).drop p.2).flatMap (wrec ks) ++ [p.1]
def rems (ks : Nat → List Nat) (st : List (Nat × Nat)) : List Nat := st.flatMap (rem ks)
/-- The nodes that are open: each below the one that holds it. -/
def Open (ks : Nat → List Nat) (n f : Nat) : List (Nat × Nat) → Prop
  | [] => True
  | (i, j) :: r => r.length + i ≤ f ∧ j ≤ (ks i).length ∧ i < n ∧ Open ks n f r
theorem rem_pos (p : Nat × Nat) : 0 < (rem ks p).length := by unfold rem; simp
theorem rems_ge : ∀ st : List (Nat × Nat), st.length ≤ (rems ks st).length
  | [] => Nat.zero_le _
  | p :: r => by
    have h1 := rems_ge r
    have h2 := rem_pos (ks := ks) p
    show r.length + 1 ≤ (rem ks p ++ rems ks r).length
    rw [List.length_append]; omega
theorem rems_done {i : Nat} {r : List (Nat × Nat)} : rems ks ((i, (ks i).length) :: r) = i :: rems ks r := by
  show rem ks (i, (ks i).length) ++ rems ks r = _
  unfold rem
  rw [List.drop_length]; rfl
theorem rems_kid (hl : ∀ i, ∀ k ∈ ks i, k < i) {i j : Nat} {r : List (Nat × Nat)} (hj : j < (ks i).length) : rems ks (((ks i)[j], 0) :: (i, j + 1) :: r) = rems ks ((i, j) :: r) := by
  show rem ks ((ks i)[j], 0) ++ (rem ks (i, j + 1) ++ rems ks r) = rem ks (i, j) ++ rems ks r
  have h1 : rem ks ((ks i)[j], 0) = wrec ks (ks i)[j] := by unfold rem; rw [List.drop_zero, ← wrec_eq hl]
  have h2 : rem ks (i, j) = wrec ks (ks i)[j] ++ rem ks (i, j + 1) := by
    unfold rem
    rw [List.drop_eq_getElem_cons hj, List.flatMap_cons, List.append_assoc]
  rw [h1, h2, List.append_assoc]
end Tm
/-- The two lists of the walk, the top last. -/
def stN (st : List (Nat × Nat)) : List Int := (st.map fun p => (p.1 : Int)).reverse
def stP (st : List (Nat × Nat)) : List Int := (st.map fun p => (p.2 : Int)).reverse
theorem stN_len (st : List (Nat × Nat)) : (stN st).length = st.length := by simp [stN]
theorem stP_len (st : List (Nat × Nat)) : (stP st).length = st.length := by simp [stP]
theorem stN_cons (p : Nat × Nat) (r : List (Nat × Nat)) : stN (p :: r) = stN r ++ [(p.1 : Int)] := by simp [stN]
theorem stP_cons (p : Nat × Nat) (r : List (Nat × Nat)) : stP (p :: r) = stP r ++ [(p.2 : Int)] := by simp [stP]
theorem ints_app (a b : List Int) : ints (a ++ b) = ints a ++ ints b := by simp [ints]

set_option maxRecDepth 100000 in
set_option maxHeartbeats 16000000 in
theorem walk_c (nodes : List Nd) (funcs : List Int) (nd fu : Value) (f : Nat) (w : World) (h : TreeRd w nodes funcs nd fu) (hn : nodes.length ≤ 100000000) (hf : f < nodes.length)
    (hlow : ∀ i, ∀ k ∈ (nodes.getD i {}).kids, 0 ≤ k ∧ k < (i : Int)) (hkl : ∀ n ∈ nodes, n.kids.length ≤ 9223372036854775807) :
    Calls Tryd.prog 42 #[.agg #[nd, fu], .int .i64 (f : Int)] w fun e w' => ∃ a c, e = .returned (.slice a ((Tm.wrec (Tm.kidsOf nodes) f).take (nodes.length + 1)).length c) ∧
      Gives w w' [.row 3 1 (.slice a ((Tm.wrec (Tm.kidsOf nodes) f).take (nodes.length + 1)).length c) ((Tm.wrec (Tm.kidsOf nodes) f).take (nodes.length + 1)).length (ints (Tm.IO ((Tm.wrec (Tm.kidsOf nodes) f).take (nodes.length + 1))))] := by
  obtain ⟨an, cn, rfl, hcn⟩ : ∃ an cn, nd = .slice an nodes.length cn ∧ nodes.length ≤ cn := by obtain ⟨_, _, ⟨a, c, h1, h2, _⟩, _⟩ := h.nds; exact ⟨a, c, h1, h2⟩
  obtain ⟨af, cf, rfl, hcf⟩ : ∃ af cf, fu = .slice af funcs.length cf ∧ funcs.length ≤ cf := by obtain ⟨a, c, h1, h2, _⟩ := h.funcs; exact ⟨a, c, h1, h2⟩
  obtain ⟨i0, hi0, hz0, hz1, hz2⟩ := info_parts infoInt
  have hl : ∀ i, ∀ k ∈ Tm.kidsOf nodes i, k < i := by
    intro i k hk
    obtain ⟨x, hx, rfl⟩ := List.mem_map.1 (by rw [← Tm.kidsOf_eq]; exact hk)
    have := hlow i x hx
    omega
  have HT := Lib.hid h
  have HLow := Lib.hid hlow
  have HL := Lib.hid hl
  have HKl := Lib.hid hkl
  obtain ⟨ks, hks⟩ : ∃ ks, ks = Tm.kidsOf nodes := ⟨_, rfl⟩
  have HKs := Lib.hid hks
  rw [← hks] at HL ⊢
  have h1 := (((Hs.start w).alloc [.slice an nodes.length cn, .slice af funcs.length cf] 25).alloc [.int .i64 (f : Int)] 3).alloc [.int .i64 0] 3
  simp only [size_alloc'] at h1
  have h2 := ((h1.asRow 0 rfl 1 1 rfl (by decide)).asRow 1 rfl 1 1 rfl (by decide)).nil 3 1
  have H2 := Lib.hid h2
  generalize hTT : (Tm.wrec ks f).take (nodes.length + 1) = T
  have HTT := Lib.hid hTT
  clear h hlow hl hkl h1 h2 hks hTT
  go_enter Tryd.func42, Tryd.ntmps42
  go_wp2_with fail
  generalize World.alloc (World.alloc (World.alloc w _) _) _ = W0 at H2 ⊢
  go_loopg [5, 6, 7] (2 * (Tm.wrec ks f).length - 1) (fun m v5 v6 v7 wr => ∃ (st : List (Nat × Nat)) (O : List Nat), m = 2 * (Tm.rems ks st).length - st.length ∧ O ++ Tm.rems ks st = Tm.wrec ks f ∧ O.length ≤ nodes.length ∧ Tm.Open ks nodes.length f st ∧
    Hs (fun k => k < w.heap.size) w wr [.row 3 1 v5 O.length (ints (Tm.IO O)), .row 3 1 v7 st.length (ints (stP st)), .row 3 1 v6 st.length (ints (stN st)), .blk w.heap.size 25 [.slice an nodes.length cn, .slice af funcs.length cf]])
  case atStart =>
    refine ⟨[(f, 0)], [], ?_, ?_, Nat.zero_le _, ⟨by simp, Nat.zero_le _, hf, trivial⟩, ?_⟩
    · have : Tm.rems ks [(f, 0)] = Tm.wrec ks f := by
        show Tm.rem ks (f, 0) ++ [] = _
        rw [List.append_nil]
        unfold Tm.rem
        rw [List.drop_zero, ← Tm.wrec_eq HL.out]
      rw [this]; rfl
    · show Tm.rem ks (f, 0) ++ [] = _
      rw [List.append_nil]
      unfold Tm.rem
      rw [List.drop_zero, ← Tm.wrec_eq HL.out]
    · exact H2.out
  case round =>
  obtain ⟨st, O, hm, hO, hOl, hop, hh⟩ := hrel
  have HO := Lib.hid hO
  have Hop := Lib.hid hop
  have Hh := Lib.hid hh
  have Hm := Lib.hid hm
  obtain ⟨a5, c5, rfl, _, _⟩ := hh.form 0 rfl
  obtain ⟨a7, c7, rfl, hc7, hg7⟩ := hh.form 1 rfl
  obtain ⟨a6, c6, rfl, hc6, hg6⟩ := hh.form 2 rfl
  have bt0 : wr.cell? ⟨w.heap.size, 0, none⟩ = some (.slice an nodes.length cn) := hh.cell 3 rfl 0 rfl
  have hfx := fr_of_kp hh.kp
  have HFx := Lib.hid hfx
  clear hm hO hop hfx
  cases st with
  | nil =>
    have hOe : O = Tm.wrec ks f := by have := HO.out; simpa [Tm.rems] using this
    have hfin : T = O := by rw [← HTT.out, ← hOe]; exact List.take_of_length_le (by omega)
    have HFin := Lib.hid hfin
    have H5 := Lib.hid (gives_of (hh.sub (List.singleton_sublist.2 (List.mem_cons_self ..))))
    clear hOe hfin hh bt0 hg6 hg7
    have hz : ¬ (0 : Int) < (([] : List (Nat × Nat)).length : Int) := by decide
    go_wp2_with fail
    go_ret
    rw [HFin.out]
    exact ⟨a5, c5, rfl, H5.out⟩
  | cons p r =>
    obtain ⟨i, j⟩ := p
    have hsl : ((i, j) :: r).length = r.length + 1 := rfl
    obtain ⟨hop1, hop2, hop3, hop4⟩ := Hop.out
    obtain ⟨g6, rfl, hgo6⟩ := hg6 (by simp)
    obtain ⟨g7, rfl, hgo7⟩ := hg7 (by simp)
    have HG6 := Lib.hid hgo6
    have HG7 := Lib.hid hgo7
    have HOp4 := Lib.hid hop4
    have hsN : (stN ((i, j) :: r))[r.length]? = some (i : Int) := by rw [stN_cons, List.getElem?_append_right (by rw [stN_len]; exact Nat.le_refl _), stN_len, Nat.sub_self]; rfl
    have hsP : (stP ((i, j) :: r))[r.length]? = some (j : Int) := by rw [stP_cons, List.getElem?_append_right (by rw [stP_len]; exact Nat.le_refl _), stP_len, Nat.sub_self]; rfl
    have x6 := hh.rcell 2 rfl hgo6 r.length (ints_get hsN)
    have x7 := hh.rcell 1 rfl hgo7 r.length (ints_get hsP)
    have z7 := hh.rfroz 1 rfl hgo7 r.length
    obtain ⟨gn, on, ak, ck, rfl, hkr, _, _, _, _, _, _, _, _, _, y9⟩ := node_at HT.out hop3
    have y9' := fr_cell HFx.out y9
    have hkl := HKl.out _ (List.getElem_mem hop3)
    have hgd : nodes.getD i {} = nodes[i] := Tm.getD_get hop3
    have hkids : (nodes[i]).kids = Tm.IO (ks i) := by
      rw [HKs.out, ← hgd]
      exact Tm.kids_IO fun k hk => (HLow.out i k hk).1
    have hkidl : (nodes[i]).kids.length = (ks i).length := by rw [hkids, Tm.IO_len]
    have HKids := Lib.hid hkids
    have HKidl := Lib.hid hkidl
    have HKr := Lib.hid hkr
    generalize (nodes[i]) = N at y9' hkl HKids HKidl HKr
    obtain ⟨L, hL⟩ : ∃ L, L = ((i, j) :: r).length := ⟨_, rfl⟩
    have hLr : L = r.length + 1 := hL
    have Hh2 : Hid (Hs (fun k => k < w.heap.size) w wr [.row 3 1 (.slice a5 O.length c5) O.length (ints (Tm.IO O)), .row 3 1 (.slice (some ⟨g7, 0, none⟩) L c7) L (ints (stP ((i, j) :: r))), .row 3 1 (.slice (some ⟨g6, 0, none⟩) L c6) L (ints (stN ((i, j) :: r))), .blk w.heap.size 25 [.slice (some ⟨gn, on, none⟩) nodes.length cn, .slice af funcs.length cf]]) := Lib.hid (by rw [hL]; exact hh)
    rw [← hL] at hc6 hc7 ⊢
    have i1 : (0 : Int) < (L : Int) := by omega
    have i2 : (0 : Int) ≤ (L : Int) - 1 := by omega
    have i3 : (L : Int) - 1 < (L : Int) := by omega
    have i4 : ((L : Int) - 1).toNat = r.length := by omega
    have i5 : 1 ≤ L := by omega
    have i6 : (i : Int) < (nodes.length : Int) := by omega
    have i7 : (0 : Int) ≤ (i : Int) := by omega
    have i8 : (L : Int) - 1 ≤ (c6 : Int) := by omega
    have i9 : (L : Int) - 1 ≤ (c7 : Int) := by omega
    have i10 : (L : Int) ≤ 100000001 := by omega
    have i11 : (j : Int) ≤ 9223372036854775806 ∨ True := .inr trivial
    have HLr := Lib.hid hLr
    clear hsl hop1 hop4 hg6 hg7 hgo6 hgo7 hsN hsP y9 hgd hkids hkidl hkr hL hLr hh i11
    by_cases hjk : j = N.kids.length
    · have q1 : ((j : Int) == (N.kids.length : Int)) = true := beq_iff_eq.2 (by omega)
      have HJk := Lib.hid hjk
      clear hjk
      have Hn1 := Lib.hid (Hh2.out.drew.alloc [.int .i64 (i : Int)] 3)
      have hOb : O.length ≤ 1000000000 := by omega
      go_wp2_with fail
      refine Reg.wp_region_text (by kernel_rfl) (by kernel_rfl) ?_
      go_wp2_with fail
      refine ⟨by kernel_rfl, ?_⟩
      go_wp2_with (at_builtin; go_must (refine Hs.push rfl _ _ 23 rfl 3 i0 _ 1 8 (by kernel_rfl) hi0 hz0 hz1 hz2 rfl (Nat.succ_pos _) (Nat.le_of_ble_eq_true rfl) 1 (.slice a5 O.length c5) O.length (ints (Tm.IO O)) rfl 0 wr.heap.size [.int .i64 (i : Int)] rfl rfl rfl rfl rfl hOb Hn1.out ?_))
      intro v1 w1 hh4
      obtain ⟨a1, c1, rfl, _, _⟩ := hh4.form 1 rfl
      have H4 := Lib.hid hh4.tail
      have ht0 : w1.cell? ⟨w.heap.size, 0, none⟩ = some (.slice (some ⟨gn, on, none⟩) nodes.length cn) := hh4.cell 4 rfl 0 rfl
      have hrj : Tm.rems ks ((i, j) :: r) = i :: Tm.rems ks r := by
        have : j = (ks i).length := by rw [← HKidl.out]; exact HJk.out
        rw [this, Tm.rems_done]
      have hO2 : (O ++ [i]) ++ Tm.rems ks r = Tm.wrec ks f := by rw [← HO.out, hrj, List.append_assoc]; rfl
      have hm2 : gk = 2 * ((Tm.rems ks r).length + 1) - (r.length + 1) := by rw [Hm.out, hrj]; rfl
      have hge := Tm.rems_ge (ks := ks) r
      have HO2 := Lib.hid hO2
      have HM2 := Lib.hid hm2
      have HGe := Lib.hid hge
      clear hh4 hrj hO2 hm2 hge bt0 x6 x7 z7 y9'
      by_cases hbig : nodes.length < O.length + 1
      · have hbi : (nodes.length : Int) < (O.length : Int) + 1 := by omega
        have hfin : T = O ++ [i] := by
          rw [← HTT.out, ← HO2.out, List.take_append_of_le_length (by simp; omega)]
          exact List.take_of_length_le (by simp; omega)
        have HFin := Lib.hid hfin
        have hOL : (O ++ [i]).length = O.length + 1 := by simp
        have H5 : Hid (Gives w w1 [.row 3 1 (.slice a1 (O ++ [i]).length c1) (O ++ [i]).length (ints (Tm.IO (O ++ [i])))]) := Lib.hid (by
          have := gives_of (H4.out.sub (List.singleton_sublist.2 (List.mem_cons_self ..)))
          rw [hOL, Tm.IO_append, ints_app]
          exact this)
        clear hfin hOL
        go_wp2_with fail
        go_ret
        rw [HFin.out]
        exact ⟨a1, c1, by simp, H5.out⟩
      · have hbi : ¬ (nodes.length : Int) < (O.length : Int) + 1 := by omega
        go_wp2_with fail
        go_roundg (gk - 1)
        case measure => have := HM2.out; have := HGe.out; omega
        case rel =>
          refine ⟨r, O ++ [i], by have := HM2.out; have := HGe.out; omega, HO2.out, by simp; omega, HOp4.out, ?_⟩
          have h4 := (H4.out.cut 1 rfl (k := r.length) (by have := HLr.out; omega)).cut 2 rfl (k := r.length) (by have := HLr.out; omega)
          have e0 : (O ++ [i]).length = O.length + 1 := by simp
          have e1 : (ints (stP ((i, j) :: r))).take (r.length * 1) = ints (stP r) := by
            rw [stP_cons, ints_app, Nat.mul_one]
            have : (ints (stP r)).length = r.length := by rw [ints_len, stP_len]
            rw [← this, List.take_left]
          have e2 : (ints (stN ((i, j) :: r))).take (r.length * 1) = ints (stN r) := by
            rw [stN_cons, ints_app, Nat.mul_one]
            have : (ints (stN r)).length = r.length := by rw [ints_len, stN_len]
            rw [← this, List.take_left]
          simp only [List.set_cons_succ, List.set_cons_zero] at h4
          rw [e1, e2] at h4
          rw [e0, Tm.IO_append, ints_app]
          exact h4
    · have hjle := Hop.out.2.1
      have hjl : j < (ks i).length := by have := HKidl.out; omega
      have q1 : ((j : Int) == (N.kids.length : Int)) = false := beq_eq_false_iff_ne.2 (by omega)
      have q2 : (j : Int) < (N.kids.length : Int) := by have := HKidl.out; omega
      have q3 : (0 : Int) ≤ (j : Int) := by omega
      have hki : N.kids[j]? = some (((ks i)[j] : Nat) : Int) := by
        rw [HKids.out]
        unfold Tm.IO
        rw [List.getElem?_map, List.getElem?_eq_getElem hjl]; rfl
      have hkl2 : (ks i)[j] < i := HL.out i _ (List.getElem_mem hjl)
      obtain ⟨gk', ok', rfl, ck1⟩ := rdS_int HKr.out hki
      have ck2 := fr_cell HFx.out ck1
      have hrem := Tm.rems_kid HL.out (r := r) hjl
      have HRem := Lib.hid hrem
      have Hjl := Lib.hid hjl
      have Hkl2 := Lib.hid hkl2
      generalize (ks i)[j] = k at ck2 HRem Hkl2
      have HJ := Lib.hid hjk
      have Hn1 := Lib.hid (Hh2.out.drew.drew.alloc [.int .i64 (k : Int)] 3)
      have hLb : L ≤ 1000000000 := by omega
      clear hjk hki hkl2 ck1 hrem hjle hjl
      go_wp2_with fail
      refine Reg.wp_region_text (by kernel_rfl) (by kernel_rfl) ?_
      go_wp2_with fail
      refine ⟨by kernel_rfl, ?_⟩
      go_wp2_with fail
      refine Reg.wp_region_text (by kernel_rfl) (by kernel_rfl) ?_
      go_wp2_with (at_builtin; go_must (refine Hs.push rfl _ _ 23 rfl 3 i0 _ 1 8 (by kernel_rfl) hi0 hz0 hz1 hz2 rfl (Nat.succ_pos _) (Nat.le_of_ble_eq_true rfl) 3 (.slice (some ⟨g6, 0, none⟩) L c6) L (ints (stN ((i, j) :: r))) rfl 0 wr.heap.size [.int .i64 (k : Int)] rfl rfl rfl rfl rfl hLb Hn1.out ?_))
      intro v3 w3 hh3
      obtain ⟨a3, c3, rfl, _, _⟩ := hh3.form 3 rfl
      have hsP : (stP ((i, j) :: r))[r.length]? = some (j : Int) := by rw [stP_cons, List.getElem?_append_right (by rw [stP_len]; exact Nat.le_refl _), stP_len, Nat.sub_self]; rfl
      have hg7' : (Value.slice (some ⟨g7, 0, none⟩) L c7).ownBlock = some g7 := rfl
      have b7 := hh3.rcell 2 rfl hg7' r.length (ints_get hsP)
      have d7 := hh3.rfroz 2 rfl hg7' r.length
      have H3 := Lib.hid (hh3.tail.rset 1 rfl hg7' r.length (.int .i64 ((j : Int) + 1)))
      have j1 : (j : Int) + 1 ≤ 9223372036854775807 := by have := Hjl.out; have := HKidl.out; omega
      have j2 : (-9223372036854775808 : Int) ≤ (j : Int) + 1 := by omega
      clear hh3 hsP bt0 x6 x7 z7 y9' ck2
      go_wp2_with fail
      refine ⟨by kernel_rfl, ?_⟩
      go_upto_region 15 with fail
      generalize w3.setCell _ _ = w4 at H3 ⊢
      have Hn2 := Lib.hid (H3.out.alloc [.int .i64 0] 3)
      go_wp2_with (at_builtin; go_must (refine Hs.push rfl _ _ 23 rfl 3 i0 _ 1 8 (by kernel_rfl) hi0 hz0 hz1 hz2 rfl (Nat.succ_pos _) (Nat.le_of_ble_eq_true rfl) 2 (.slice (some ⟨g7, 0, none⟩) L c7) L ((ints (stP ((i, j) :: r))).set r.length (.int .i64 ((j : Int) + 1))) rfl 0 w4.heap.size [.int .i64 0] rfl rfl rfl rfl rfl hLb Hn2.out ?_))
      intro v5 w5 hh5
      obtain ⟨a8, c8, rfl, _, _⟩ := hh5.form 2 rfl
      have H5 := Lib.hid hh5.tail
      clear hh5
      go_wp2_with fail
      go_roundg (gk - 1)
      case measure => have := Hm.out; have := Tm.rems_ge (ks := ks) ((i, j) :: r); simp only [List.length_cons] at *; omega
      case rel =>
        have e0 : (ints (stP ((i, j) :: r))).set r.length (.int .i64 ((j : Int) + 1)) ++ [.int .i64 0] = ints (stP ((k, 0) :: (i, j + 1) :: r)) := by
          have : (ints (stP r)).length = r.length := by rw [ints_len, stP_len]
          have hs : ∀ (a b : List Value) (x : Value), a.length = r.length → (a ++ b).set r.length x = a ++ b.set 0 x := by
            intro a b x h
            rw [List.set_append, if_neg (by omega), h, Nat.sub_self]
          rw [stP_cons (k, 0), stP_cons, stP_cons, ints_app, ints_app, ints_app, hs _ _ _ this]
          rfl
        have e1 : ints (stN ((i, j) :: r)) ++ [.int .i64 (k : Int)] = ints (stN ((k, 0) :: (i, j + 1) :: r)) := by
          rw [stN_cons (k, 0), stN_cons (i, j + 1), stN_cons (i, j), ints_app _ [((k, 0) : Nat × Nat).1]]
          rfl
        have hop := Hop.out
        have hL := HLr.out
        have hkj := Hjl.out
        have hki := Hkl2.out
        obtain ⟨o1, o2, o3, o4⟩ := hop
        refine ⟨(k, 0) :: (i, j + 1) :: r, O, ?_, ?_, hOl, ⟨?_, Nat.zero_le _, by omega, o1, hkj, o3, o4⟩, ?_⟩
        · rw [HRem.out]; have := Hm.out; simp only [List.length_cons] at *; omega
        · rw [HRem.out]; exact HO.out
        · show r.length + 1 + k ≤ f; omega
        · have eL : ((k, 0) :: (i, j + 1) :: r).length = L + 1 := by rw [hL]; rfl
          rw [eL, ← e0, ← e1]
          exact H5.out
end Go.Proofs.YtllahgnpjodgmaaDoor

namespace Go.Proofs.YtllahgnpjodgmaaDoor
namespace Tm
theorem wrec_le {ks : Nat → List Nat} (hl : ∀ i, ∀ k ∈ ks i, k < i) : ∀ f x, x ∈ wrec ks f → x ≤ f := by
  intro f
  induction f using Nat.strongRecOn with
  | ind f ih =>
    intro x hx
    rw [wrec_eq hl] at hx
    rcases List.mem_append.1 hx with h | h
    · obtain ⟨k, hk, h2⟩ := List.mem_flatMap.1 h
      have := hl f k hk
      have := ih k this x h2
      omega
    · have := List.mem_singleton.1 h
      omega
end Tm
end Go.Proofs.YtllahgnpjodgmaaDoor
