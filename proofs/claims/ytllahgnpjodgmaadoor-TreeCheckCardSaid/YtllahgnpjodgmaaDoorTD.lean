/- quernref3.walk: the numbers of the nodes, as the walk of a function comes to them.
quernref3.Check. -/
import Derived.Test.YtllahgnpjodgmaaDoorT8
import Derived.Test.YtllahgnpjodgmaaDoorTA
import Derived.Test.YtllahgnpjodgmaaDoorTB
import Derived.Test.YtllahgnpjodgmaaDoorTm
import Derived.Deep.DeepCutAuto
set_option linter.unusedVariables false
namespace Go.Proofs.YtllahgnpjodgmaaDoor
open Go Go.RowKit Mem Pm
namespace Tm
variable {ks : Nat → List Nat}
/-- What is still to come of a node of which so many kids have been walked. -/
def rem (ks : Nat → List Nat) (p : Nat × Nat) : List Nat := ((ks p.1).drop p.2).flatMap (wrec ks) ++ [p.1]
def rems (ks : Nat → List Nat) (st : List (Nat × Nat)) : List Nat := st.flatMap (rem ks)
/-- The nodes that are open: each below the one that holds it. -/
def Open (ks : Nat → List Nat) (n f : Nat) : List (Nat × Nat) → Prop
  | [] => True
  | (i, j) :: r => r.length + i ≤ f ∧ j ≤ (ks i).length ∧ i < n ∧ Open ks n f r
theorem rem_pos (p : Nat × Nat) : 0 < (rem ks p).length := by unfold rem; simp
theorem rems_ge : ∀ st : List (Nat × Nat), st.length ≤ (rems ks st).length
  | [] => Nat.zero_le _
  | p :: r => by
    have h1 := rems_ge r
    have h2 := rem_pos (ks := ks) p
    show r.length + 1 ≤ (rem ks p ++ rems ks r).length
    rw [List.length_append]; omega
theorem rems_done {i : Nat} {r : List (Nat × Nat)} : rems ks ((i, (ks i).length) :: r) = i :: rems ks r := by
  show rem ks (i, (ks i).length) ++ rems ks r = _
  unfold rem
  rw [List.drop_length]; rfl
theorem rems_kid (hl : ∀ i, ∀ k ∈ ks i, k < i) {i j : Nat} {r : List (Nat × Nat)} (hj : j < (ks i).length) : rems ks (((ks i)[j], 0) :: (i, j + 1) :: r) = rems ks ((i, j) :: r) := by
  show rem ks ((ks i)[j], 0) ++ (rem ks (i, j + 1) ++ rems ks r) = rem ks (i, j) ++ rems ks r
  have h1 : rem ks ((ks i)[j], 0) = wrec ks (ks i)[j] := by unfold rem; rw [List.drop_zero, ← wrec_eq hl]
  have h2 : rem ks (i, j) = wrec ks (ks i)[j] ++ rem ks (i, j + 1) := by
    unfold rem
    rw [List.drop_eq_getElem_cons hj, List.flatMap_cons, List.append_assoc]
  rw [h1, h2, List.append_assoc]
end Tm
/-- The two lists of the walk, the top last. -/
def stN (st : List (Nat × Nat)) : List Int := (st.map fun p => (p.1 : Int)).reverse
def stP (st : List (Nat × Nat)) : List Int := (st.map fun p => (p.2 : Int)).reverse
theorem stN_len (st : List (Nat × Nat)) : (stN st).length = st.length := by simp [stN]
theorem stP_len (st : List (Nat × Nat)) : (stP st).length = st.length := by simp [stP]
theorem stN_cons (p : Nat × Nat) (r : List (Nat × Nat)) : stN (p :: r) = stN r ++ [(p.1 : Int)] := by simp [stN]
theorem stP_cons (p : Nat × Nat) (r : List (Nat × Nat)) : stP (p :: r) = stP r ++ [(p.2 : Int)] := by simp [stP]
theorem ints_app (a b : List Int) : ints (a ++ b) = ints a ++ ints b := by simp [ints]

set_option maxRecDepth 100000 in
set_option maxHeartbeats 16000000 in
theorem walk_c (nodes : List Nd) (funcs : List Int) (nd fu : Value) (f : Nat) (w : World) (h : TreeRd w nodes funcs nd fu) (hn : nodes.length ≤ 100000000) (hf : f < nodes.length)
    (hlow : ∀ i, ∀ k ∈ (nodes.getD i {}).kids, 0 ≤ k ∧ k < (i : Int)) (hkl : ∀ n ∈ nodes, n.kids.length ≤ 9223372036854775807) :
    Calls Tryd.prog 42 #[.agg #[nd, fu], .int .i64 (f : Int)] w fun e w' => ∃ a c, e = .returned (.slice a ((Tm.wrec (Tm.kidsOf nodes) f).take (nodes.length + 1)).length c) ∧
      Gives w w' [.row 3 1 (.slice a ((Tm.wrec (Tm.kidsOf nodes) f).take (nodes.length + 1)).length c) ((Tm.wrec (Tm.kidsOf nodes) f).take (nodes.length + 1)).length (ints (Tm.IO ((Tm.wrec (Tm.kidsOf nodes) f).take (nodes.length + 1))))] := by
  obtain ⟨an, cn, rfl, hcn⟩ : ∃ an cn, nd = .slice an nodes.length cn ∧ nodes.length ≤ cn := by obtain ⟨_, _, ⟨a, c, h1, h2, _⟩, _⟩ := h.nds; exact ⟨a, c, h1, h2⟩
  obtain ⟨af, cf, rfl, hcf⟩ : ∃ af cf, fu = .slice af funcs.length cf ∧ funcs.length ≤ cf := by obtain ⟨a, c, h1, h2, _⟩ := h.funcs; exact ⟨a, c, h1, h2⟩
  obtain ⟨i0, hi0, hz0, hz1, hz2⟩ := info_parts infoInt
  have hl : ∀ i, ∀ k ∈ Tm.kidsOf nodes i, k < i := by
    intro i k hk
    obtain ⟨x, hx, rfl⟩ := List.mem_map.1 (by rw [← Tm.kidsOf_eq]; exact hk)
    have := hlow i x hx
    omega
  have HT := Lib.hid h
  have HLow := Lib.hid hlow
  have HL := Lib.hid hl
  have HKl := Lib.hid hkl
  obtain ⟨ks, hks⟩ : ∃ ks, ks = Tm.kidsOf nodes := ⟨_, rfl⟩
  have HKs := Lib.hid hks
  rw [← hks] at HL ⊢
  have h1 := (((Hs.start w).alloc [.slice an nodes.length cn, .slice af funcs.length cf] 25).alloc [.int .i64 (f : Int)] 3).alloc [.int .i64 0] 3
  simp only [size_alloc'] at h1
  have h2 := ((h1.asRow 0 rfl 1 1 rfl (by decide)).asRow 1 rfl 1 1 rfl (by decide)).nil 3 1
  have H2 := Lib.hid h2
  generalize hTT : (Tm.wrec ks f).take (nodes.length + 1) = T
  have HTT := Lib.hid hTT
  clear h hlow hl hkl h1 h2 hks hTT
  go_enter Tryd.func42, Tryd.ntmps42
  go_wp2_with fail
  generalize World.alloc (World.alloc (World.alloc w _) _) _ = W0 at H2 ⊢
  go_loopg [5, 6, 7] (2 * (Tm.wrec ks f).length - 1) (fun m v5 v6 v7 wr => ∃ (st : List (Nat × Nat)) (O : List Nat), m = 2 * (Tm.rems ks st).length - st.length ∧ O ++ Tm.rems ks st = Tm.wrec ks f ∧ O.length ≤ nodes.length ∧ Tm.Open ks nodes.length f st ∧
    Hs (fun k => k < w.heap.size) w wr [.row 3 1 v5 O.length (ints (Tm.IO O)), .row 3 1 v7 st.length (ints (stP st)), .row 3 1 v6 st.length (ints (stN st)), .blk w.heap.size 25 [.slice an nodes.length cn, .slice af funcs.length cf]])
  case atStart =>
    refine ⟨[(f, 0)], [], ?_, ?_, Nat.zero_le _, ⟨by simp, Nat.zero_le _, hf, trivial⟩, ?_⟩
    · have : Tm.rems ks [(f, 0)] = Tm.wrec ks f := by
        show Tm.rem ks (f, 0) ++ [] = _
        rw [List.append_nil]
        unfold Tm.rem
        rw [List.drop_zero, ← Tm.wrec_eq HL.out]
      rw [this]; rfl
    · show Tm.rem ks (f, 0) ++ [] = _
      rw [List.append_nil]
      unfold Tm.rem
      rw [List.drop_zero, ← Tm.wrec_eq HL.out]
    · exact H2.out
  case round =>
  obtain ⟨st, O, hm, hO, hOl, hop, hh⟩ := hrel
  have HO := Lib.hid hO
  have Hop := Lib.hid hop
  have Hh := Lib.hid hh
  have Hm := Lib.hid hm
  obtain ⟨a5, c5, rfl, _, _⟩ := hh.form 0 rfl
  obtain ⟨a7, c7, rfl, hc7, hg7⟩ := hh.form 1 rfl
  obtain ⟨a6, c6, rfl, hc6, hg6⟩ := hh.form 2 rfl
  have bt0 : wr.cell? ⟨w.heap.size, 0, none⟩ = some (.slice an nodes.length cn) := hh.cell 3 rfl 0 rfl
  have hfx := fr_of_kp hh.kp
  have HFx := Lib.hid hfx
  clear hm hO hop hfx
  cases st with
  | nil =>
    have hOe : O = Tm.wrec ks f := by have := HO.out; simpa [Tm.rems] using this
    have hfin : T = O := by rw [← HTT.out, ← hOe]; exact List.take_of_length_le (by omega)
    have HFin := Lib.hid hfin
    have H5 := Lib.hid (gives_of (hh.sub (List.singleton_sublist.2 (List.mem_cons_self ..))))
    clear hOe hfin hh bt0 hg6 hg7
    have hz : ¬ (0 : Int) < (([] : List (Nat × Nat)).length : Int) := by decide
    go_wp2_with fail
    go_ret
    rw [HFin.out]
    exact ⟨a5, c5, rfl, H5.out⟩
  | cons p r =>
    obtain ⟨i, j⟩ := p
    have hsl : ((i, j) :: r).length = r.length + 1 := rfl
    obtain ⟨hop1, hop2, hop3, hop4⟩ := Hop.out
    obtain ⟨g6, rfl, hgo6⟩ := hg6 (by simp)
    obtain ⟨g7, rfl, hgo7⟩ := hg7 (by simp)
    have HG6 := Lib.hid hgo6
    have HG7 := Lib.hid hgo7
    have HOp4 := Lib.hid hop4
    have hsN : (stN ((i, j) :: r))[r.length]? = some (i : Int) := by rw [stN_cons, List.getElem?_append_right (by rw [stN_len]; exact Nat.le_refl _), stN_len, Nat.sub_self]; rfl
    have hsP : (stP ((i, j) :: r))[r.length]? = some (j : Int) := by rw [stP_cons, List.getElem?_append_right (by rw [stP_len]; exact Nat.le_refl _), stP_len, Nat.sub_self]; rfl
    have x6 := hh.rcell 2 rfl hgo6 r.length (ints_get hsN)
    have x7 := hh.rcell 1 rfl hgo7 r.length (ints_get hsP)
    have z7 := hh.rfroz 1 rfl hgo7 r.length
    obtain ⟨gn, on, ak, ck, rfl, hkr, _, _, _, _, _, _, _, _, _, y9⟩ := node_at HT.out hop3
    have y9' := fr_cell HFx.out y9
    have hkl := HKl.out _ (List.getElem_mem hop3)
    have hgd : nodes.getD i {} = nodes[i] := Tm.getD_get hop3
    have hkids : (nodes[i]).kids = Tm.IO (ks i) := by
      rw [HKs.out, ← hgd]
      exact Tm.kids_IO fun k hk => (HLow.out i k hk).1
    have hkidl : (nodes[i]).kids.length = (ks i).length := by rw [hkids, Tm.IO_len]
    have HKids := Lib.hid hkids
    have HKidl := Lib.hid hkidl
    have HKr := Lib.hid hkr
    generalize (nodes[i]) = N at y9' hkl HKids HKidl HKr
    obtain ⟨L, hL⟩ : ∃ L, L = ((i, j) :: r).length := ⟨_, rfl⟩
    have hLr : L = r.length + 1 := hL
    have Hh2 : Hid (Hs (fun k => k < w.heap.size) w wr [.row 3 1 (.slice a5 O.length c5) O.length (ints (Tm.IO O)), .row 3 1 (.slice (some ⟨g7, 0, none⟩) L c7) L (ints (stP ((i, j) :: r))), .row 3 1 (.slice (some ⟨g6, 0, none⟩) L c6) L (ints (stN ((i, j) :: r))), .blk w.heap.size 25 [.slice (some ⟨gn, on, none⟩) nodes.length cn, .slice af funcs.length cf]]) := Lib.hid (by rw [hL]; exact hh)
    rw [← hL] at hc6 hc7 ⊢
    have i1 : (0 : Int) < (L : Int) := by omega
    have i2 : (0 : Int) ≤ (L : Int) - 1 := by omega
    have i3 : (L : Int) - 1 < (L : Int) := by omega
    have i4 : ((L : Int) - 1).toNat = r.length := by omega
    have i5 : 1 ≤ L := by omega
    have i6 : (i : Int) < (nodes.length : Int) := by omega
    have i7 : (0 : Int) ≤ (i : Int) := by omega
    have i8 : (L : Int) - 1 ≤ (c6 : Int) := by omega
    have i9 : (L : Int) - 1 ≤ (c7 : Int) := by omega
    have i10 : (L : Int) ≤ 100000001 := by omega
    have i11 : (j : Int) ≤ 9223372036854775806 ∨ True := .inr trivial
    have HLr := Lib.hid hLr
    clear hsl hop1 hop4 hg6 hg7 hgo6 hgo7 hsN hsP y9 hgd hkids hkidl hkr hL hLr hh i11
    by_cases hjk : j = N.kids.length
    · have q1 : ((j : Int) == (N.kids.length : Int)) = true := beq_iff_eq.2 (by omega)
      have HJk := Lib.hid hjk
      clear hjk
      have Hn1 := Lib.hid (Hh2.out.drew.alloc [.int .i64 (i : Int)] 3)
      have hOb : O.length ≤ 1000000000 := by omega
      go_wp2_with fail
      refine Reg.wp_region_text (by kernel_rfl) (by kernel_rfl) ?_
      go_wp2_with fail
      refine ⟨by kernel_rfl, ?_⟩
      go_wp2_with (at_builtin; go_must (refine Hs.push rfl _ _ 23 rfl 3 i0 _ 1 8 (by kernel_rfl) hi0 hz0 hz1 hz2 rfl (Nat.succ_pos _) (Nat.le_of_ble_eq_true rfl) 1 (.slice a5 O.length c5) O.length (ints (Tm.IO O)) rfl 0 wr.heap.size [.int .i64 (i : Int)] rfl rfl rfl rfl rfl hOb Hn1.out ?_))
      intro v1 w1 hh4
      obtain ⟨a1, c1, rfl, _, _⟩ := hh4.form 1 rfl
      have H4 := Lib.hid hh4.tail
      have ht0 : w1.cell? ⟨w.heap.size, 0, none⟩ = some (.slice (some ⟨gn, on, none⟩) nodes.length cn) := hh4.cell 4 rfl 0 rfl
      have hrj : Tm.rems ks ((i, j) :: r) = i :: Tm.rems ks r := by
        have : j = (ks i).length := by rw [← HKidl.out]; exact HJk.out
        rw [this, Tm.rems_done]
      have hO2 : (O ++ [i]) ++ Tm.rems ks r = Tm.wrec ks f := by rw [← HO.out, hrj, List.append_assoc]; rfl
      have hm2 : gk = 2 * ((Tm.rems ks r).length + 1) - (r.length + 1) := by rw [Hm.out, hrj]; rfl
      have hge := Tm.rems_ge (ks := ks) r
      have HO2 := Lib.hid hO2
      have HM2 := Lib.hid hm2
      have HGe := Lib.hid hge
      clear hh4 hrj hO2 hm2 hge bt0 x6 x7 z7 y9'
      by_cases hbig : nodes.length < O.length + 1
      · have hbi : (nodes.length : Int) < (O.length : Int) + 1 := by omega
        have hfin : T = O ++ [i] := by
          rw [← HTT.out, ← HO2.out, List.take_append_of_le_length (by simp; omega)]
          exact List.take_of_length_le (by simp; omega)
        have HFin := Lib.hid hfin
        have hOL : (O ++ [i]).length = O.length + 1 := by simp
        have H5 : Hid (Gives w w1 [.row 3 1 (.slice a1 (O ++ [i]).length c1) (O ++ [i]).length (ints (Tm.IO (O ++ [i])))]) := Lib.hid (by
          have := gives_of (H4.out.sub (List.singleton_sublist.2 (List.mem_cons_self ..)))
          rw [hOL, Tm.IO_append, ints_app]
          exact this)
        clear hfin hOL
        go_wp2_with fail
        go_ret
        rw [HFin.out]
        exact ⟨a1, c1, by simp, H5.out⟩
      · have hbi : ¬ (nodes.length : Int) < (O.length : Int) + 1 := by omega
        go_wp2_with fail
        go_roundg (gk - 1)
        case measure => have := HM2.out; have := HGe.out; omega
        case rel =>
          refine ⟨r, O ++ [i], by have := HM2.out; have := HGe.out; omega, HO2.out, by simp; omega, HOp4.out, ?_⟩
          have h4 := (H4.out.cut 1 rfl (k := r.length) (by have := HLr.out; omega)).cut 2 rfl (k := r.length) (by have := HLr.out; omega)
          have e0 : (O ++ [i]).length = O.length + 1 := by simp
          have e1 : (ints (stP ((i, j) :: r))).take (r.length * 1) = ints (stP r) := by
            rw [stP_cons, ints_app, Nat.mul_one]
            have : (ints (stP r)).length = r.length := by rw [ints_len, stP_len]
            rw [← this, List.take_left]
          have e2 : (ints (stN ((i, j) :: r))).take (r.length * 1) = ints (stN r) := by
            rw [stN_cons, ints_app, Nat.mul_one]
            have : (ints (stN r)).length = r.length := by rw [ints_len, stN_len]
            rw [← this, List.take_left]
          simp only [List.set_cons_succ, List.set_cons_zero] at h4
          rw [e1, e2] at h4
          rw [e0, Tm.IO_append, ints_app]
          exact h4
    · have hjle := Hop.out.2.1
      have hjl : j < (ks i).length := by have := HKidl.out; omega
      have q1 : ((j : Int) == (N.kids.length : Int)) = false := beq_eq_false_iff_ne.2 (by omega)
      have q2 : (j : Int) < (N.kids.length : Int) := by have := HKidl.out; omega
      have q3 : (0 : Int) ≤ (j : Int) := by omega
      have hki : N.kids[j]? = some (((ks i)[j] : Nat) : Int) := by
        rw [HKids.out]
        unfold Tm.IO
        rw [List.getElem?_map, List.getElem?_eq_getElem hjl]; rfl
      have hkl2 : (ks i)[j] < i := HL.out i _ (List.getElem_mem hjl)
      obtain ⟨gk', ok', rfl, ck1⟩ := rdS_int HKr.out hki
      have ck2 := fr_cell HFx.out ck1
      have hrem := Tm.rems_kid HL.out (r := r) hjl
      have HRem := Lib.hid hrem
      have Hjl := Lib.hid hjl
      have Hkl2 := Lib.hid hkl2
      generalize (ks i)[j] = k at ck2 HRem Hkl2
      have HJ := Lib.hid hjk
      have Hn1 := Lib.hid (Hh2.out.drew.drew.alloc [.int .i64 (k : Int)] 3)
      have hLb : L ≤ 1000000000 := by omega
      clear hjk hki hkl2 ck1 hrem hjle hjl
      go_wp2_with fail
      refine Reg.wp_region_text (by kernel_rfl) (by kernel_rfl) ?_
      go_wp2_with fail
      refine ⟨by kernel_rfl, ?_⟩
      go_wp2_with fail
      refine Reg.wp_region_text (by kernel_rfl) (by kernel_rfl) ?_
      go_wp2_with (at_builtin; go_must (refine Hs.push rfl _ _ 23 rfl 3 i0 _ 1 8 (by kernel_rfl) hi0 hz0 hz1 hz2 rfl (Nat.succ_pos _) (Nat.le_of_ble_eq_true rfl) 3 (.slice (some ⟨g6, 0, none⟩) L c6) L (ints (stN ((i, j) :: r))) rfl 0 wr.heap.size [.int .i64 (k : Int)] rfl rfl rfl rfl rfl hLb Hn1.out ?_))
      intro v3 w3 hh3
      obtain ⟨a3, c3, rfl, _, _⟩ := hh3.form 3 rfl
      have hsP : (stP ((i, j) :: r))[r.length]? = some (j : Int) := by rw [stP_cons, List.getElem?_append_right (by rw [stP_len]; exact Nat.le_refl _), stP_len, Nat.sub_self]; rfl
      have hg7' : (Value.slice (some ⟨g7, 0, none⟩) L c7).ownBlock = some g7 := rfl
      have b7 := hh3.rcell 2 rfl hg7' r.length (ints_get hsP)
      have d7 := hh3.rfroz 2 rfl hg7' r.length
      have H3 := Lib.hid (hh3.tail.rset 1 rfl hg7' r.length (.int .i64 ((j : Int) + 1)))
      have j1 : (j : Int) + 1 ≤ 9223372036854775807 := by have := Hjl.out; have := HKidl.out; omega
      have j2 : (-9223372036854775808 : Int) ≤ (j : Int) + 1 := by omega
      clear hh3 hsP bt0 x6 x7 z7 y9' ck2
      go_wp2_with fail
      refine ⟨by kernel_rfl, ?_⟩
      go_upto_region 15 with fail
      generalize w3.setCell _ _ = w4 at H3 ⊢
      have Hn2 := Lib.hid (H3.out.alloc [.int .i64 0] 3)
      go_wp2_with (at_builtin; go_must (refine Hs.push rfl _ _ 23 rfl 3 i0 _ 1 8 (by kernel_rfl) hi0 hz0 hz1 hz2 rfl (Nat.succ_pos _) (Nat.le_of_ble_eq_true rfl) 2 (.slice (some ⟨g7, 0, none⟩) L c7) L ((ints (stP ((i, j) :: r))).set r.length (.int .i64 ((j : Int) + 1))) rfl 0 w4.heap.size [.int .i64 0] rfl rfl rfl rfl rfl hLb Hn2.out ?_))
      intro v5 w5 hh5
      obtain ⟨a8, c8, rfl, _, _⟩ := hh5.form 2 rfl
      have H5 := Lib.hid hh5.tail
      clear hh5
      go_wp2_with fail
      go_roundg (gk - 1)
      case measure => have := Hm.out; have := Tm.rems_ge (ks := ks) ((i, j) :: r); simp only [List.length_cons] at *; omega
      case rel =>
        have e0 : (ints (stP ((i, j) :: r))).set r.length (.int .i64 ((j : Int) + 1)) ++ [.int .i64 0] = ints (stP ((k, 0) :: (i, j + 1) :: r)) := by
          have : (ints (stP r)).length = r.length := by rw [ints_len, stP_len]
          have hs : ∀ (a b : List Value) (x : Value), a.length = r.length → (a ++ b).set r.length x = a ++ b.set 0 x := by
            intro a b x h
            rw [List.set_append, if_neg (by omega), h, Nat.sub_self]
          rw [stP_cons (k, 0), stP_cons, stP_cons, ints_app, ints_app, ints_app, hs _ _ _ this]
          rfl
        have e1 : ints (stN ((i, j) :: r)) ++ [.int .i64 (k : Int)] = ints (stN ((k, 0) :: (i, j + 1) :: r)) := by
          rw [stN_cons (k, 0), stN_cons (i, j + 1), stN_cons (i, j), ints_app _ [((k, 0) : Nat × Nat).1]]
          rfl
        have hop := Hop.out
        have hL := HLr.out
        have hkj := Hjl.out
        have hki := Hkl2.out
        obtain ⟨o1, o2, o3, o4⟩ := hop
        refine ⟨(k, 0) :: (i, j + 1) :: r, O, ?_, ?_, hOl, ⟨?_, Nat.zero_le _, by omega, o1, hkj, o3, o4⟩, ?_⟩
        · rw [HRem.out]; have := Hm.out; simp only [List.length_cons] at *; omega
        · rw [HRem.out]; exact HO.out
        · show r.length + 1 + k ≤ f; omega
        · have eL : ((k, 0) :: (i, j + 1) :: r).length = L + 1 := by rw [hL]; rfl
          rw [eL, ← e0, ← e1]
          exact H5.out
end Go.Proofs.YtllahgnpjodgmaaDoor

set_option linter.unusedVariables false
namespace Go.Proofs.YtllahgnpjodgmaaDoor
open Go Go.RowKit Mem Pm
theorem scan_step {nodes : List Nd} {m i total : Nat} {N : Nd} (hN : nodes.getD i {} = N) : Tm.scan nodes (m + 1) i total = (decide (total + N.kids.length ≤ nodes.length) && N.kids.all (fun k => decide (0 ≤ k) && decide (k < (i : Int))) &&
      Tm.kidsOk N.kind (N.kids.map (Tm.kindOf nodes)) && Tm.fields N && Tm.scan nodes m (i + 1) (total + N.kids.length)) := by rw [← hN]; rfl
theorem ref_none {nodes : List Nd} {funcs : List Int} (h : Tm.scan nodes nodes.length 0 0 = false) : Tm.refCheck nodes funcs = false := by unfold Tm.refCheck; rw [h]; rfl

set_option maxRecDepth 100000 in
set_option maxHeartbeats 16000000 in
theorem refCheck_c (nodes : List Nd) (funcs : List Int) (nd fu : Value) (w : World) (h : TreeRd w nodes funcs nd fu) (hs : Small nodes funcs) (hkb : ∀ n ∈ nodes, n.kids.length ≤ 1000000000) :
    Calls Tryd.prog 27 #[.agg #[nd, fu]] w fun e w' => e = .returned (.int .i64 (errT (Tm.refCheck nodes funcs))) ∧ Fr w w' := by
  obtain ⟨an, cn, rfl, hcn⟩ : ∃ an cn, nd = .slice an nodes.length cn ∧ nodes.length ≤ cn := by obtain ⟨_, _, ⟨a, c, h1, h2, _⟩, _⟩ := h.nds; exact ⟨a, c, h1, h2⟩
  obtain ⟨af, cf, rfl, hcf⟩ : ∃ af cf, fu = .slice af funcs.length cf ∧ funcs.length ≤ cf := by obtain ⟨a, c, h1, h2, _⟩ := h.funcs; exact ⟨a, c, h1, h2⟩
  have HT := Lib.hid h
  have HS := Lib.hid hs
  have HKb := Lib.hid hkb
  have H1 := Lib.hid ((Hs.start w).alloc [.slice an nodes.length cn, .slice af funcs.length cf] 25)
  have hnl : nodes.length ≤ 9223372036854775807 := by have := hs.nl; omega
  have hfl : funcs.length ≤ 9223372036854775807 := hs.fl
  obtain ⟨G, hG⟩ : ∃ G : Bool, G = Tm.refCheck nodes funcs := ⟨_, rfl⟩
  rw [← hG]
  have HG := Lib.hid hG
  clear h hs hG hkb
  go_enter Tryd.func27, Tryd.ntmps27
  go_wp2_with fail
  generalize World.alloc w _ = W0 at H1 ⊢
  obtain ⟨gt, hgt⟩ : ∃ gt, gt = w.heap.size := ⟨_, rfl⟩
  rw [← hgt]
  have H1 : Hid (Hs (fun k => k < w.heap.size) w W0 [.blk gt 25 [.slice an nodes.length cn, .slice af funcs.length cf]]) := Lib.hid (by rw [hgt]; exact H1.out)
  clear hgt
  go_loopg [3, 4] nodes.length (fun m v3 v4 wr => ∃ i total : Nat, i + m = nodes.length ∧ v4 = .int .i64 (i : Int) ∧ v3 = .int .i64 (total : Int) ∧ total ≤ nodes.length ∧ (∀ j, j < i → ∀ k ∈ (nodes.getD j {}).kids, 0 ≤ k ∧ k < (j : Int)) ∧
    Tm.scan nodes m i total = Tm.scan nodes nodes.length 0 0 ∧ Hs (fun k => k < w.heap.size) w wr [.blk gt 25 [.slice an nodes.length cn, .slice af funcs.length cf]])
  case atStart => exact ⟨0, 0, by omega, rfl, rfl, Nat.zero_le _, (fun j h => absurd h (Nat.not_lt_zero _)), rfl, H1.out⟩
  case round =>
  obtain ⟨i, total, him, rfl, rfl, htot, hlow, hsc, hh⟩ := hrel
  have HLow := Lib.hid hlow
  have HSc := Lib.hid hsc
  have Hh := Lib.hid hh
  have b0 := hh.cell 0 rfl 0 rfl
  have b1 := hh.cell 0 rfl 1 rfl
  have HFr := Lib.hid (fr_of_kp hh.kp)
  clear hlow hsc hh
  by_cases hlt : i < nodes.length
  case pos =>
    have hki : (i : Int) < (nodes.length : Int) := by omega
    have hk0 : (0 : Int) ≤ (i : Int) := by omega
    obtain ⟨g, off, ak, ck, rfl, hkr, x0, x1, x2, x3, x4, x5, x6, x7, x8, x9⟩ := node_at HT.out hlt
    have X9w := Lib.hid x9
    replace x9 := fr_cell HFr.out x9
    have HX := Lib.hid (And.intro x0 (And.intro x1 (And.intro x2 (And.intro x3 (And.intro x4 (And.intro x5 (And.intro x6 (And.intro x7 x8))))))))
    have hkb := HKb.out _ (List.getElem_mem hlt)
    have hnb := HS.out.each _ (List.getElem_mem hlt)
    have hgd : nodes.getD i {} = nodes[i] := Tm.getD_get hlt
    have hgs := scan_step (m := gk - 1) (total := total) hgd
    rw [show gk - 1 + 1 = gk by omega] at hgs
    have HGd := Lib.hid hgd
    have HGs := Lib.hid hgs
    have HKr := Lib.hid hkr
    have HNb := Lib.hid hnb
    clear hgd hgs hkr hnb x0 x1 x2 x3 x4 x5 x6 x7 x8
    generalize nodes[i] = N at *
    have hki2 : (i : Int) ≤ 100000000 := by have := HS.out.nl; omega
    have hT2 : (total : Int) ≤ 100000000 := by have := HS.out.nl; omega
    have hNk : (N.kids.length : Int) ≤ 9223372036854775807 := by have := HNb.out.1; omega
    have nofin : Tm.scan nodes gk i total = false → errT G = 30 := by
      intro h0
      rw [HG.out, ref_none (by rw [← HSc.out]; exact h0)]
      rfl
    have NF := Lib.hid nofin
    clear nofin
    have hNk2 : (N.kids.length : Int) ≤ 1000000000 := by omega
    by_cases hbig : nodes.length < total + N.kids.length
    · have hb1 : (nodes.length : Int) < (total : Int) + (N.kids.length : Int) := by omega
      have HF := Lib.hid (NF.out (by rw [HGs.out, decide_eq_false (by omega)]; rfl))
      go_wp2_with fail
      go_ret
      exact ⟨by rw [HF.out]; rfl, HFr.out⟩
    · have hb1 : ¬ (nodes.length : Int) < (total : Int) + (N.kids.length : Int) := by omega
      obtain ⟨wo, rfl⟩ : ∃ wo : World, wo = wr := ⟨_, rfl⟩
      obtain ⟨ko, rfl⟩ : ∃ ko : Nat, ko = gk := ⟨_, rfl⟩
      go_wp2_with fail
      go_loopg [5] N.kids.length (fun m v5 wx => ∃ j : Nat, j + m = N.kids.length ∧ v5 = .int .i64 (j : Int) ∧ wx = wo ∧ (N.kids.take j).all (fun k => decide (0 ≤ k) && decide (k < (i : Int))) = true)
      case atStart => exact ⟨0, by omega, rfl, rfl, rfl⟩
      case round =>
      obtain ⟨j, hj, rfl, rfl, hall⟩ := hrel
      have HAll := Lib.hid hall
      clear hall
      by_cases hjl : j < N.kids.length
      case pos =>
        have hji : (j : Int) < (N.kids.length : Int) := by omega
        have hj0 : (0 : Int) ≤ (j : Int) := by omega
        have hx : N.kids[j]? = some N.kids[j] := List.getElem?_eq_getElem hjl
        have hin : N.kids[j] ∈ N.kids := List.getElem_mem hjl
        obtain ⟨gk', ok', rfl, cx⟩ := rdS_int (HKr.out.fr HFr.out) hx
        have htk : (N.kids.take (j + 1)).all (fun k => decide (0 ≤ k) && decide (k < (i : Int))) = (decide (0 ≤ N.kids[j]) && decide (N.kids[j] < (i : Int))) := by
          rw [List.take_add_one, hx, List.all_append, HAll.out]; simp
        have HTk := Lib.hid htk
        have HIn := Lib.hid hin
        clear hx htk hin
        generalize N.kids[j] = x at cx HTk HIn
        by_cases hx0 : x < 0
        · have hx1 : decide (x < 0) = true := decide_eq_true hx0
          have HF := Lib.hid (NF.out (by
            rw [HGs.out, (List.all_eq_false.2 ⟨x, HIn.out, by simp; omega⟩ : N.kids.all _ = false)]; simp))
          go_wp2_with fail
          go_ret
          exact ⟨by rw [HF.out]; rfl, HFr.out⟩
        · by_cases hxi : (i : Int) ≤ x
          · have HF := Lib.hid (NF.out (by
              rw [HGs.out, (List.all_eq_false.2 ⟨x, HIn.out, by simp; omega⟩ : N.kids.all _ = false)]; simp))
            go_wp2_with fail
            go_ret
            exact ⟨by rw [HF.out]; rfl, HFr.out⟩
          · go_wp2_with fail
            go_roundg (gk - 1)
            case measure => omega
            case rel => exact ⟨j + 1, by omega, by go_num, rfl, by rw [HTk.out]; simp; omega⟩
      case neg =>
        have hj2 : ¬ (j : Int) < (N.kids.length : Int) := by omega
        have hall : N.kids.all (fun k => decide (0 ≤ k) && decide (k < (i : Int))) = true := by
          have := HAll.out
          rwa [List.take_of_length_le (by omega)] at this
        have HA := Lib.hid hall
        clear hall
        go_upto_region 14 with fail
        obtain ⟨x0, x1, x2, x3, x4, x5, x6, x7, x8⟩ := HX.out
        replace x0 := fr_cell HFr.out x0
        replace x1 := fr_cell HFr.out x1
        replace x2 := fr_cell HFr.out x2
        replace x3 := fr_cell HFr.out x3
        replace x4 := fr_cell HFr.out x4
        replace x5 := fr_cell HFr.out x5
        replace x6 := fr_cell HFr.out x6
        replace x7 := fr_cell HFr.out x7
        replace x8 := fr_cell HFr.out x8
        have hin : ∀ x ∈ N.kids, 0 ≤ x ∧ x < (nodes.length : Int) := fun x hx => by
          have := List.all_eq_true.1 HA.out x hx
          simp only [Bool.and_eq_true, decide_eq_true_eq] at this
          omega
        have HIn := Lib.hid hin
        have hnn := HNb.out.2
        have hn1 := HNb.out.1
        have Hd := Lib.hid Hh.out.drew
        have hTr := HT.out.fr (HFr.out.drew)
        have HTr := Lib.hid hTr
        have HKr2 := Lib.hid (HKr.out.fr (HFr.out.drew))
        clear hin hTr
        refine Reg.wp_region_text (by kernel_rfl) (by kernel_rfl) ?_
        go_wp2_with fail
        refine (rKids_c nodes funcs _ _ _ HTr.out N ak ck HKr2.out HIn.out hn1 hnl).mono ?_
        rintro e w2 ⟨rfl, hf2⟩
        have H2 := Lib.hid (Hd.out.ch0 hf2)
        have h20 := H2.out.cell 0 rfl 0 rfl
        have hfr2 := fr_of_kp H2.out.kp
        obtain ⟨x0, x1, x2, x3, x4, x5, x6, x7, x8⟩ := HX.out
        replace x0 := fr_cell hfr2 x0
        replace x1 := fr_cell hfr2 x1
        replace x2 := fr_cell hfr2 x2
        replace x3 := fr_cell hfr2 x3
        replace x4 := fr_cell hfr2 x4
        replace x5 := fr_cell hfr2 x5
        replace x6 := fr_cell hfr2 x6
        replace x7 := fr_cell hfr2 x7
        replace x8 := fr_cell hfr2 x8
        have x9' := fr_cell (HFr.out.drew.trans hf2) X9w.out
        have HF2 := Lib.hid hfr2
        clear hf2 hfr2 x9
        cases hko : Tm.kidsOk N.kind (N.kids.map (Tm.kindOf nodes)) with
        | false =>
          have HF := Lib.hid (NF.out (by rw [HGs.out, hko]; simp))
          go_wp2_with fail
          refine ⟨by kernel_rfl, ?_⟩
          go_wp2_with fail
          go_ret
          exact ⟨by rw [HF.out]; rfl, HF2.out⟩
        | true =>
          go_wp2_with fail
          refine (rFields_c N _ hnn _).mono ?_
          rintro e w3 ⟨rfl, hf3⟩
          have H3 := Lib.hid (H2.out.ch0 hf3)
          clear hf3
          cases hfo : Tm.fields N with
          | false =>
            have HF := Lib.hid (NF.out (by rw [HGs.out, hfo]; simp))
            go_wp2_with fail
            refine ⟨by kernel_rfl, ?_⟩
            go_wp2_with fail
            go_ret
            exact ⟨by rw [HF.out]; rfl, fr_of_kp H3.out.kp⟩
          | true =>
            go_wp2_with fail
            refine ⟨by kernel_rfl, ?_⟩
            go_wp2_with fail
            go_roundg (ko - 1)
            case measure => omega
            case rel =>
              refine ⟨i + 1, total + N.kids.length, by omega, by go_num, by go_num, by omega, ?_, ?_, H3.out⟩
              · intro j hj k hk
                by_cases hji : j = i
                · subst hji
                  rw [HGd.out] at hk
                  have := List.all_eq_true.1 HA.out k hk
                  simp only [Bool.and_eq_true, decide_eq_true_eq] at this
                  exact this
                · exact HLow.out j (by omega) k hk
              · rw [← HSc.out, HGs.out, hko, hfo, HA.out, decide_eq_true (by omega)]; simp
  case neg =>
    have hin : i = nodes.length := by omega
    subst hin
    have hk : gk = 0 := by omega
    subst hk
    have hsc1 : Tm.scan nodes nodes.length 0 0 = true := by rw [← HSc.out]; rfl
    have hG2 : G = decide (Tm.tops nodes funcs 0 = some nodes.length) := by rw [HG.out]; unfold Tm.refCheck; rw [hsc1]; rfl
    have HG2 := Lib.hid hG2
    have hl1 : ∀ j, ∀ k ∈ (nodes.getD j {}).kids, 0 ≤ k ∧ k < (j : Int) := by
      intro j k hk
      by_cases hj : j < nodes.length
      · exact HLow.out j hj k hk
      · rw [List.getD_eq_getElem?_getD, List.getElem?_eq_none (by omega)] at hk; cases hk
    have HL1 := Lib.hid hl1
    clear hsc1 hG2 hl1 him
    have hno : ¬ ((nodes.length : Int) < (nodes.length : Int)) := by omega
    obtain ⟨ro, rfl⟩ : ∃ ro : World, ro = wr := ⟨_, rfl⟩
    go_wp2_with fail
    go_loopg [8, 9] funcs.length (fun m v8 v9 wx => ∃ i at_ : Nat, i + m = funcs.length ∧ v9 = .int .i64 (i : Int) ∧ v8 = .int .i64 (at_ : Int) ∧ at_ ≤ nodes.length ∧ Tm.tops nodes (funcs.drop i) at_ = Tm.tops nodes funcs 0 ∧
      Hs (fun k => k < w.heap.size) w wx [.blk gt 25 [.slice an nodes.length cn, .slice af funcs.length cf]])
    case atStart => exact ⟨0, 0, by omega, rfl, rfl, by omega, rfl, Hh.out⟩
    case round =>
    obtain ⟨i, at_, hi, rfl, rfl, hat, htop, hh⟩ := hrel
    have b0 := hh.cell 0 rfl 0 rfl
    have b1 := hh.cell 0 rfl 1 rfl
    have HFr := Lib.hid (fr_of_kp hh.kp)
    have Hh2 := Lib.hid hh
    have HTop := Lib.hid htop
    clear hh htop
    by_cases hlt2 : i < funcs.length
    case neg =>
      have hj2 : ¬ (i : Int) < (funcs.length : Int) := by omega
      have hto : Tm.tops nodes funcs 0 = some at_ := by rw [← HTop.out, List.drop_eq_nil_of_le (by omega)]; rfl
      have hGv : G = decide (at_ = nodes.length) := by rw [HG2.out, hto]; simp
      have HGv := Lib.hid hGv
      clear hto hGv
      by_cases he : at_ = nodes.length
      · have he2 : ((at_ : Int) == (nodes.length : Int)) = true := beq_iff_eq.2 (by omega)
        have HE := Lib.hid he
        clear he
        go_wp2_with fail
        go_ret
        exact ⟨by rw [HGv.out, decide_eq_true HE.out]; rfl, HFr.out⟩
      · have he2 : ((at_ : Int) == (nodes.length : Int)) = false := beq_eq_false_iff_ne.2 (by omega)
        have HE := Lib.hid he
        clear he
        go_wp2_with fail
        go_ret
        exact ⟨by rw [HGv.out, decide_eq_false HE.out]; rfl, HFr.out⟩
    case pos =>
    have hj2 : (i : Int) < (funcs.length : Int) := by omega
    have hj3 : (0 : Int) ≤ (i : Int) := by omega
    have hx : funcs[i]? = some funcs[i] := List.getElem?_eq_getElem hlt2
    obtain ⟨gf, off, rfl, cx⟩ := rdS_int (HT.out.fr HFr.out).funcs hx
    have hdr : funcs.drop i = funcs[i] :: funcs.drop (i + 1) := List.drop_eq_getElem_cons hlt2
    have HDr := Lib.hid hdr
    clear hx hdr
    generalize funcs[i] = f at cx HDr
    have bad : ¬ (0 ≤ f ∧ f < (nodes.length : Int) ∧ Tm.kindOf nodes f = 1) → errT G = 30 := by
      intro hno
      have : Tm.tops nodes funcs 0 = none := by
        rw [← HTop.out, HDr.out]
        unfold Tm.tops
        rw [if_neg (fun h => hno ⟨h.1, h.2.1, h.2.2.1⟩)]
      rw [HG2.out, this]; rfl
    have Bad := Lib.hid bad
    clear bad
    by_cases hf0 : f < 0
    · have q0 : decide (f < 0) = true := decide_eq_true hf0
      have HF := Lib.hid (Bad.out (by omega))
      go_wp2_with fail
      go_ret
      exact ⟨by rw [HF.out]; rfl, HFr.out⟩
    by_cases hfn : (nodes.length : Int) ≤ f
    · have q0 : decide ((nodes.length : Int) ≤ f) = true := decide_eq_true hfn
      have HF := Lib.hid (Bad.out (by omega))
      go_wp2_with fail
      go_ret
      exact ⟨by rw [HF.out]; rfl, HFr.out⟩
    obtain ⟨fn, rfl⟩ : ∃ fn : Nat, f = (fn : Int) := ⟨f.toNat, by omega⟩
    have hfl2 : fn < nodes.length := by omega
    have hf2 : (fn : Int) < (nodes.length : Int) := by omega
    have hf3 : (0 : Int) ≤ (fn : Int) := by omega
    obtain ⟨g2, off2, ak2, ck2, rfl, _, y0, _⟩ := node_at HT.out hfl2
    have y0' := fr_cell HFr.out y0
    have hkd : Tm.kindOf nodes (fn : Int) = (nodes[fn]).kind := by
      show (nodes.getD ((fn : Int)).toNat {}).kind = _
      rw [Int.toNat_natCast, Tm.getD_get hfl2]
    rw [← hkd] at y0'
    clear y0 hkd
    by_cases hk1 : Tm.kindOf nodes (fn : Int) = 1
    case neg =>
      have q1 : (Tm.kindOf nodes (fn : Int) == 1) = false := beq_eq_false_iff_ne.2 hk1
      have HF := Lib.hid (Bad.out (fun h => hk1 h.2.2))
      clear hk1
      generalize Tm.kindOf nodes (fn : Int) = kd at y0' q1
      go_wp2_with fail
      go_ret
      exact ⟨by rw [HF.out]; rfl, HFr.out⟩
    rw [hk1] at y0'
    have Hk1 := Lib.hid hk1
    clear hk1
    have HTr := Lib.hid (HT.out.fr HFr.out)
    go_wp2_with fail
    refine (walk_c nodes funcs _ _ fn _ HTr.out HS.out.nl hfl2 HL1.out (fun n hn => (HS.out.each n hn).1)).mono ?_
    rintro e w2 ⟨al, cl, rfl, hgv⟩
    obtain ⟨TT, hTT⟩ : ∃ TT, TT = (Tm.wrec (Tm.kidsOf nodes) fn).take (nodes.length + 1) := ⟨_, rfl⟩
    rw [← hTT] at hgv ⊢
    have H2 := Lib.hid (hgv _ _ _ Hh2.out)
    have hle : ∀ x ∈ TT, x ≤ fn := by
      intro x hx
      rw [hTT] at hx
      refine Tm.wrec_le (ks := Tm.kidsOf nodes) (fun i k hk => ?_) fn x (List.mem_of_mem_take hx)
      rw [Tm.kidsOf_eq] at hk
      obtain ⟨y, hy, rfl⟩ := List.mem_map.1 hk
      have := HL1.out i y hy
      omega
    have hTl : TT.length ≤ nodes.length + 1 := by rw [hTT, List.length_take]; omega
    have hstep : TT = List.range' at_ TT.length → Tm.tops nodes (funcs.drop (i + 1)) (at_ + TT.length) = Tm.tops nodes funcs 0 := by
      intro h0
      rw [← HTop.out, HDr.out]
      conv => rhs; unfold Tm.tops
      rw [if_pos ⟨by omega, by omega, Hk1.out, by rw [Int.toNat_natCast, ← hTT]; exact h0⟩, Int.toNat_natCast, ← hTT]
    have hbad2 : TT ≠ List.range' at_ TT.length → errT G = 30 := by
      intro h0
      have : Tm.tops nodes funcs 0 = none := by
        rw [← HTop.out, HDr.out]
        unfold Tm.tops
        rw [if_neg (fun h => h0 (by have := h.2.2.2; rw [Int.toNat_natCast, ← hTT] at this; exact this))]
      rw [HG2.out, this]; rfl
    have HLe := Lib.hid hle
    have HStep := Lib.hid hstep
    have HBad2 := Lib.hid hbad2
    have hnl3 : nodes.length ≤ 100000000 := HS.out.nl
    have hcl : TT.length ≤ cl := by
      obtain ⟨_, _, h1, h2, _⟩ := H2.out.form 0 rfl
      injection h1 with _ _ h3
      omega
    clear hTT hgv hle hstep hbad2 Bad Hh2 HTop HDr Hk1 y0' b0 b1 cx
    have b0 := H2.out.cell 1 rfl 0 rfl
    have b1 := H2.out.cell 1 rfl 1 rfl
    have HFr2 := Lib.hid (fr_of_kp H2.out.kp)
    obtain ⟨wo, rfl⟩ : ∃ wo : World, wo = wr := ⟨_, rfl⟩
    obtain ⟨ko, rfl⟩ : ∃ ko : Nat, ko = gk := ⟨_, rfl⟩
    go_wp2_with fail
    go_loopg [8, 12] TT.length (fun m v8 v12 wx => ∃ j : Nat, j + m = TT.length ∧ v12 = .int .i64 (j : Int) ∧ v8 = .int .i64 ((at_ : Int) + (j : Int)) ∧ wx = w2 ∧ TT.take j = List.range' at_ j)
    case atStart => exact ⟨0, by omega, rfl, by go_num, rfl, rfl⟩
    case round =>
    obtain ⟨j, hj, rfl, rfl, rfl, htk⟩ := hrel
    have HTk := Lib.hid htk
    clear htk
    by_cases hjl : j < TT.length
    case pos =>
      have hji : (j : Int) < (TT.length : Int) := by omega
      have hj0 : (0 : Int) ≤ (j : Int) := by omega
      have hx : TT[j]? = some TT[j] := List.getElem?_eq_getElem hjl
      have hin : TT[j] ∈ TT := List.getElem_mem hjl
      have hxle := HLe.out _ hin
      have hix : (ints (Tm.IO TT))[j]? = some (.int .i64 (TT[j] : Int)) := by unfold ints Tm.IO; rw [List.getElem?_map, List.getElem?_map, hx]; rfl
      obtain ⟨gx, rfl, hcx⟩ := H2.out.rdRow 0 rfl (fun h => by rw [h] at hix; cases hix)
      have cx := hcx j _ hix
      have htk2 : TT.take (j + 1) = List.range' at_ j ++ [TT[j]] := by rw [List.take_add_one, hx, HTk.out]; rfl
      have hno : TT[j] ≠ at_ + j → TT ≠ List.range' at_ TT.length := by
        intro h1 h2
        apply h1
        have h4 : (List.range' at_ TT.length)[j]? = some (at_ + 1 * j) := List.getElem?_range' hjl
        rw [← h2, hx] at h4
        injection h4 with h4
        omega
      have HTk2 := Lib.hid htk2
      have HNo := Lib.hid hno
      clear hx hin hix hcx htk2 hno
      generalize TT[j] = x at cx HTk2 HNo hxle
      by_cases hxe : x = at_ + j
      · have q0 : ((x : Int) != (at_ : Int) + (j : Int)) = false := bne_eq_false_iff_eq.2 (by omega)
        have HXe := Lib.hid hxe
        have hbd : (at_ : Int) + (j : Int) ≤ 100000000 := by omega
        clear hxe
        go_wp2_with fail
        go_roundg (gk - 1)
        case measure => omega
        case rel => exact ⟨j + 1, by omega, by go_num, by go_num, rfl, by rw [HTk2.out, HXe.out, List.range'_concat]; simp⟩
      · have q0 : ((x : Int) != (at_ : Int) + (j : Int)) = true := bne_iff_ne.2 (by omega)
        have HF := Lib.hid (HBad2.out (HNo.out hxe))
        clear hxe
        have hbd : (at_ : Int) + (j : Int) ≤ 300000000 := by omega
        go_wp2_with fail
        go_ret
        exact ⟨by rw [HF.out]; rfl, HFr2.out⟩
    case neg =>
      have hji : ¬ (j : Int) < (TT.length : Int) := by omega
      have hTr : TT = List.range' at_ TT.length := by
        have h1 : j = TT.length := by omega
        have := HTk.out
        rw [h1, List.take_length] at this
        exact this
      have hat2 : at_ + TT.length ≤ nodes.length := by
        rcases Nat.eq_zero_or_pos TT.length with h0 | h0
        · omega
        · have : at_ + (TT.length - 1) ∈ TT := by
            rw [hTr]
            simp only [List.length_range']
            exact List.mem_range'_1.2 ⟨by omega, by omega⟩
          have := HLe.out _ this
          omega
      have hjj : j = TT.length := by omega
      have HTr2 := Lib.hid hTr
      have HJJ := Lib.hid hjj
      clear hTr hjj
      go_wp2_with fail
      go_roundg (ko - 1)
      case measure => omega
      case rel => exact ⟨i + 1, at_ + TT.length, by omega, by go_num, by rw [HJJ.out]; go_num, hat2, HStep.out HTr2.out, H2.out.tail⟩
end Go.Proofs.YtllahgnpjodgmaaDoor
