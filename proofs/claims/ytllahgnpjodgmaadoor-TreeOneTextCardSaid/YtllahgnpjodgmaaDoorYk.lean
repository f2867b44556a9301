/- quernlaw3.alike. -/
import Derived.Test.YtllahgnpjodgmaaDoorYa
import Derived.Test.YtllahgnpjodgmaaDoorVa
set_option linter.unusedVariables false
namespace Go.Proofs.YtllahgnpjodgmaaDoor
open Go Go.RowKit Mem Pm
/-- The same, places and types aside. -/
def Like (a b : List Nd) (fa fb : List Int) : Prop := a.map Rb.bare = b.map Rb.bare ∧ fa = fb
theorem bneT {a b : Int} (h : a ≠ b) : (a != b) = true := bne_iff_ne.2 h
theorem bneF {a b : Int} (h : a = b) : (a != b) = false := by subst h; exact bne_self_eq_false _
theorem no_iff {P : Prop} (h : ¬ P) : false = true ↔ P := ⟨(fun h => by cases h), fun h' => absurd h' h⟩
theorem like_no {a b : List Nd} {fa fb : List Int} (i : Nat) {x y : Nd} (hx : a[i]? = some x) (hy : b[i]? = some y) (h : Rb.bare x ≠ Rb.bare y) : false = true ↔ Like a b fa fb := by
  refine no_iff fun he => h ?_
  have := congrArg (fun l => l[i]?) he.1
  simp only [List.getElem?_map, hx, hy] at this
  simpa using this
theorem ba_inj {a b : ByteArray} (h : a.toList = b.toList) : a = b := by
  rw [ByteArray.toList_eq, ByteArray.toList_eq] at h
  obtain ⟨a⟩ := a
  obtain ⟨b⟩ := b
  exact congrArg ByteArray.mk (Array.toList_inj.1 h)
/-- What alike answers. -/
def LikeR (a b : List Nd) (fa fb : List Int) (w : World) (e : Ending) (w' : World) : Prop := ∃ x, e = .returned (.bool x) ∧ (x = true ↔ Like a b fa fb) ∧ Fr w w'
theorem list_eq_of {α : Type} {a b : List α} (hl : a.length = b.length) (h : ∀ j, j < a.length → a[j]? = b[j]?) : a = b := by
  apply List.ext_getElem?
  intro j
  rcases Nat.lt_or_ge j a.length with hj | hj
  · exact h j hj
  · rw [List.getElem?_eq_none hj, List.getElem?_eq_none (by omega)]
set_option maxRecDepth 100000 in
set_option maxHeartbeats 16000000 in
theorem alike_c (nodes nodes' : List Nd) (funcs funcs' : List Int) (nd fu nd' fu' : Value) (w : World) (h : TreeRd w nodes funcs nd fu) (h' : TreeRd w nodes' funcs' nd' fu') (hn : nodes.length ≤ 1000000) (hf : funcs.length ≤ 1000000) (he : ∀ n ∈ nodes, n.kids.length ≤ 1000000) :
    Calls Tryd.prog 22 #[.agg #[nd, fu], .agg #[nd', fu']] w fun e w' => LikeR nodes nodes' funcs funcs' w e w' := by
  obtain ⟨an, cn, rfl, hcn⟩ : ∃ an cn, nd = .slice an nodes.length cn ∧ nodes.length ≤ cn := by obtain ⟨_, _, ⟨a, c, h1, h2, _⟩, _⟩ := h.nds; exact ⟨a, c, h1, h2⟩
  obtain ⟨af, cf, rfl, hcf⟩ : ∃ af cf, fu = .slice af funcs.length cf ∧ funcs.length ≤ cf := by obtain ⟨a, c, h1, h2, _⟩ := h.funcs; exact ⟨a, c, h1, h2⟩
  obtain ⟨bn, dn, rfl, hdn⟩ : ∃ an cn, nd' = .slice an nodes'.length cn ∧ nodes'.length ≤ cn := by obtain ⟨_, _, ⟨a, c, h1, h2, _⟩, _⟩ := h'.nds; exact ⟨a, c, h1, h2⟩
  obtain ⟨bf, df, rfl, hdf⟩ : ∃ af cf, fu' = .slice af funcs'.length cf ∧ funcs'.length ≤ cf := by obtain ⟨a, c, h1, h2, _⟩ := h'.funcs; exact ⟨a, c, h1, h2⟩
  have HT := Lib.hid h
  have HU := Lib.hid h'
  have HE := Lib.hid he
  have H1 := Lib.hid (((Hs.start w).alloc [.slice an nodes.length cn, .slice af funcs.length cf] 25).alloc [.slice bn nodes'.length dn, .slice bf funcs'.length df] 25)
  clear h h' he
  go_enter Tryd.func22, Tryd.ntmps22
  by_cases hl : nodes.length = nodes'.length
  case neg =>
    have q1 : ((nodes.length : Int) != (nodes'.length : Int)) = true := bneT (by omega)
    have q2 : false = true ↔ Like nodes nodes' funcs funcs' := no_iff fun h => hl (by have := congrArg List.length h.1; simpa using this)
    have Q2 := Lib.hid q2
    have HF := Lib.hid (fr_of_kp H1.out.kp)
    clear q2
    go_wp2_with fail
    go_ret
    exact ⟨_, rfl, Q2.out, HF.out⟩
  have Hl := Lib.hid hl
  have q1 : ((nodes.length : Int) != (nodes'.length : Int)) = false := bneF (by omega)
  clear hl
  by_cases hfl : funcs.length = funcs'.length
  case neg =>
    have q3 : ((funcs.length : Int) != (funcs'.length : Int)) = true := bneT (by omega)
    have q2 : false = true ↔ Like nodes nodes' funcs funcs' := no_iff fun h => hfl (by rw [h.2])
    have Q2 := Lib.hid q2
    have HF := Lib.hid (fr_of_kp H1.out.kp)
    clear q2
    go_wp2_with fail
    go_ret
    exact ⟨_, rfl, Q2.out, HF.out⟩
  have Hfl := Lib.hid hfl
  have q3 : ((funcs.length : Int) != (funcs'.length : Int)) = false := bneF (by omega)
  clear hfl
  go_upto_region 3 with fail
  obtain ⟨W1, hW1⟩ : ∃ W, W = (w.alloc (.cells #[.slice an nodes.length cn, .slice af funcs.length cf] 25)).alloc (.cells #[.slice bn nodes'.length dn, .slice bf funcs'.length df] 25) := ⟨_, rfl⟩
  obtain ⟨ta, hta⟩ : ∃ ta, ta = w.heap.size := ⟨_, rfl⟩
  obtain ⟨tb, htb⟩ : ∃ tb, tb = w.heap.size + 1 := ⟨_, rfl⟩
  have H2 : Hid (Hs (fun k => k < w.heap.size) w W1 [.blk tb 25 [.slice bn nodes'.length dn, .slice bf funcs'.length df], .blk ta 25 [.slice an nodes.length cn, .slice af funcs.length cf]]) := Lib.hid (by
    have h := H1.out
    rw [size_alloc'] at h
    rw [hW1, hta, htb]; exact h)
  rw [← hW1]
  rw [← htb, ← hta]
  clear hW1 H1 htb hta q1 q3
  go_wp2_with fail
  go_loopg [5] nodes.length (fun m v5 wr => ∃ i : Nat, i + m = nodes.length ∧ v5 = .int .i64 (i : Int) ∧ Hid (∀ j, j < i → (nodes[j]?).map Rb.bare = (nodes'[j]?).map Rb.bare) ∧ Hs (fun k => k < w.heap.size) w wr [.blk tb 25 [.slice bn nodes'.length dn, .slice bf funcs'.length df], .blk ta 25 [.slice an nodes.length cn, .slice af funcs.length cf]])
  case atStart => exact ⟨0, by omega, rfl, Lib.hid (fun j hj => by omega), H2.out⟩
  case round =>
  obtain ⟨i, him, rfl, HS, hh⟩ := hrel
  have Hh := Lib.hid hh
  have a0 := hh.cell 1 rfl 0 rfl
  have a1 := hh.cell 1 rfl 1 rfl
  have b0 := hh.cell 0 rfl 0 rfl
  have b1 := hh.cell 0 rfl 1 rfl
  have HFr := Lib.hid (fr_of_kp hh.kp)
  clear hh H2
  by_cases hlt : i < nodes.length
  case pos =>
    have hki : (i : Int) < (nodes.length : Int) := by omega
    have hlt' : i < nodes'.length := by rw [← Hl.out]; exact hlt
    have hki2 : (i : Int) < (nodes'.length : Int) := by omega
    have hk0 : (0 : Int) ≤ (i : Int) := by omega
    obtain ⟨g, off, ak, ck, rfl, hkr, x0, x1, x2, x3, x4, x5, x6, x7, x8, x9⟩ := node_at (HT.out.fr HFr.out) hlt
    obtain ⟨g', off', ak', ck', rfl, hkr', y0, y1, y2, y3, y4, y5, y6, y7, y8, y9⟩ := node_at (HU.out.fr HFr.out) hlt'
    have hX : nodes[i]? = some nodes[i] := List.getElem?_eq_getElem hlt
    have hY : nodes'[i]? = some nodes'[i] := List.getElem?_eq_getElem hlt'
    have hke := HE.out _ (List.getElem_mem hlt)
    generalize nodes[i] = X at x0 x1 x2 x3 x4 x5 x6 x7 x8 x9 hkr hX hke
    generalize nodes'[i] = Y at y0 y1 y2 y3 y4 y5 y6 y7 y8 y9 hkr' hY
    have HX := Lib.hid hX
    have HY := Lib.hid hY
    have HKr := Lib.hid hkr
    have HKr' := Lib.hid hkr'
    clear hX hY hkr hkr'
    obtain ⟨k0, k1, k2, k3, k4, k5, k6, k7, kn, ks⟩ := X
    obtain ⟨l0, l1, l2, l3, l4, l5, l6, l7, ln, ls⟩ := Y
    dsimp only at x0 x1 x2 x3 x4 x5 x6 x7 x8 x9 y0 y1 y2 y3 y4 y5 y6 y7 y8 y9 hke
    have HG := Lib.hid ((Hh.out.alloc [.int .i64 k0, .int .i64 k1, .int .i64 k2, .int .i64 k3, .int .i64 k4, .int .i64 k5, .int .i64 k6, .int .i64 k7, .string kn, .slice ak ks.length ck] 45).alloc [.int .i64 l0, .int .i64 l1, .int .i64 l2, .int .i64 l3, .int .i64 l4, .int .i64 l5, .int .i64 l6, .int .i64 l7, .string ln, .slice ak' ls.length ck'] 45)
    have t1 := block_lt_of_cell b0
    have t2 := block_lt_of_cell a0
    have t3 := block_lt_of_cell y0
    go_upto_region 8 with fail
    obtain ⟨W2, hW2⟩ : ∃ W, W = (wr.alloc (.cells #[.int .i64 k0, .int .i64 k1, .int .i64 k2, .int .i64 k3, .int .i64 k4, .int .i64 k5, .int .i64 k6, .int .i64 k7, .string kn, .slice ak ks.length ck] 45)).alloc (.cells #[.int .i64 l0, .int .i64 l1, .int .i64 l2, .int .i64 l3, .int .i64 l4, .int .i64 l5, .int .i64 l6, .int .i64 l7, .string ln, .slice ak' ls.length ck'] 45) := ⟨_, rfl⟩
    obtain ⟨c, hc⟩ : ∃ c, c = wr.heap.size := ⟨_, rfl⟩
    obtain ⟨d, hd⟩ : ∃ d, d = wr.heap.size + 1 := ⟨_, rfl⟩
    have H3 : Hid (Hs (fun k => k < w.heap.size) w W2 [.blk d 45 [.int .i64 l0, .int .i64 l1, .int .i64 l2, .int .i64 l3, .int .i64 l4, .int .i64 l5, .int .i64 l6, .int .i64 l7, .string ln, .slice ak' ls.length ck'], .blk c 45 [.int .i64 k0, .int .i64 k1, .int .i64 k2, .int .i64 k3, .int .i64 k4, .int .i64 k5, .int .i64 k6, .int .i64 k7, .string kn, .slice ak ks.length ck], .blk tb 25 [.slice (some ⟨g', off', none⟩) nodes'.length dn, .slice bf funcs'.length df], .blk ta 25 [.slice (some ⟨g, off, none⟩) nodes.length cn, .slice af funcs.length cf]]) := Lib.hid (by
      have h := HG.out
      rw [size_alloc'] at h
      rw [hW2, hc, hd]; exact h)
    rw [← hW2]
    rw [← hd, ← hc]
    replace HKr := Lib.hid (HKr.out.fr (show Fr wr W2 by rw [hW2]; exact ((Ch.refl _ _).alloc _).alloc _))
    replace HKr' := Lib.hid (HKr'.out.fr (show Fr wr W2 by rw [hW2]; exact ((Ch.refl _ _).alloc _).alloc _))
    clear hW2 hc hd HG Hh a0 a1 b0 b1 x0 x1 x2 x3 x4 x5 x6 x7 x8 x9 y0 y1 y2 y3 y4 y5 y6 y7 y8 y9 t1 t2 t3
    have HF := Lib.hid (fr_of_kp H3.out.kp)
    have x0 := H3.out.cell 1 rfl 0 rfl
    have x4 := H3.out.cell 1 rfl 4 rfl
    have x6 := H3.out.cell 1 rfl 6 rfl
    have x7 := H3.out.cell 1 rfl 7 rfl
    have x8 := H3.out.cell 1 rfl 8 rfl
    have x9 := H3.out.cell 1 rfl 9 rfl
    have y0 := H3.out.cell 0 rfl 0 rfl
    have y4 := H3.out.cell 0 rfl 4 rfl
    have y6 := H3.out.cell 0 rfl 6 rfl
    have y7 := H3.out.cell 0 rfl 7 rfl
    have y8 := H3.out.cell 0 rfl 8 rfl
    have y9 := H3.out.cell 0 rfl 9 rfl
    by_cases e0 : k0 = l0
    case neg =>
      have Q := Lib.hid (like_no (fa := funcs) (fb := funcs') i HX.out HY.out (fun h => e0 (congrArg Nd.kind h)))
      have z0 : (k0 != l0) = true := bneT e0
      clear e0
      go_wp2_with fail
      go_ret
      exact ⟨_, rfl, Q.out, HF.out⟩
    subst e0
    by_cases e1 : k4 = l4
    case neg =>
      have Q := Lib.hid (like_no (fa := funcs) (fb := funcs') i HX.out HY.out (fun h => e1 (congrArg Nd.decl h)))
      have z0 : (k4 != l4) = true := bneT e1
      clear e1
      go_wp2_with fail
      go_ret
      exact ⟨_, rfl, Q.out, HF.out⟩
    subst e1
    by_cases e2 : k6 = l6
    case neg =>
      have Q := Lib.hid (like_no (fa := funcs) (fb := funcs') i HX.out HY.out (fun h => e2 (congrArg Nd.op h)))
      have z0 : (k6 != l6) = true := bneT e2
      clear e2
      go_wp2_with fail
      go_ret
      exact ⟨_, rfl, Q.out, HF.out⟩
    subst e2
    by_cases e3 : k7 = l7
    case neg =>
      have Q := Lib.hid (like_no (fa := funcs) (fb := funcs') i HX.out HY.out (fun h => e3 (congrArg Nd.value h)))
      have z0 : (k7 != l7) = true := bneT e3
      clear e3
      go_wp2_with fail
      go_ret
      exact ⟨_, rfl, Q.out, HF.out⟩
    subst e3
    by_cases e4 : kn.toList = ln.toList
    case neg =>
      have Q := Lib.hid (like_no (fa := funcs) (fb := funcs') i HX.out HY.out (fun h => e4 (congrArg (fun n : Nd => n.name.toList) h)))
      go_wp2_with fail
      go_ret
      exact ⟨_, rfl, Q.out, HF.out⟩
    obtain rfl := ba_inj e4
    clear e4
    by_cases e5 : ks.length = ls.length
    case neg =>
      have Q := Lib.hid (like_no (fa := funcs) (fb := funcs') i HX.out HY.out (fun h => e5 (congrArg (fun n : Nd => n.kids.length) h)))
      have z0 : ((ks.length : Int) != (ls.length : Int)) = true := bneT (by omega)
      clear e5
      go_wp2_with fail
      go_ret
      exact ⟨_, rfl, Q.out, HF.out⟩
    have z0 : ((ks.length : Int) != (ls.length : Int)) = false := bneF (by omega)
    have E5 := Lib.hid e5
    clear e5
    go_wp2_with fail
    clear z0 x0 x4 x6 x7 x8 y0 y4 y6 y7 y8
    obtain ⟨g1, rfl⟩ : ∃ g1, g1 = gk := ⟨_, rfl⟩
    go_loopg [8] ks.length (fun m v8 wr => ∃ j : Nat, j + m = ks.length ∧ v8 = .int .i64 (j : Int) ∧ Hid (∀ t, t < j → ks[t]? = ls[t]?) ∧ Fr W2 wr)
    case atStart => exact ⟨0, by omega, rfl, Lib.hid (fun t ht => by omega), Ch.refl _ _⟩
    case round =>
    obtain ⟨j, hjm, rfl, HJ, hfj⟩ := hrel
    have Hfj := Lib.hid hfj
    have x9' := fr_cell hfj x9
    have y9' := fr_cell hfj y9
    clear hfj
    by_cases hjl : j < ks.length
    case pos =>
      have hjj : (j : Int) < (ks.length : Int) := by omega
      have hjl' : j < ls.length := by rw [← E5.out]; exact hjl
      have hjj2 : (j : Int) < (ls.length : Int) := by omega
      have hj0 : (0 : Int) ≤ (j : Int) := by omega
      obtain ⟨x, hx⟩ : ∃ x, ks[j]? = some x := ⟨_, List.getElem?_eq_getElem hjl⟩
      obtain ⟨y, hy⟩ : ∃ y, ls[j]? = some y := ⟨_, List.getElem?_eq_getElem hjl'⟩
      obtain ⟨gu, ou, rfl, q1⟩ := rdS_int (HKr.out.fr Hfj.out) hx
      obtain ⟨gv, ov, rfl, q2⟩ := rdS_int (HKr'.out.fr Hfj.out) hy
      have HKx := Lib.hid hx
      have HKy := Lib.hid hy
      clear hx hy
      by_cases exy : x = y
      case neg =>
        have Q := Lib.hid (like_no (fa := funcs) (fb := funcs') i HX.out HY.out (fun h => exy (by
          have := congrArg (fun n : Nd => n.kids[j]?) h
          simp only [Rb.bare, HKx.out, HKy.out] at this
          simpa using this)))
        have z0 : (x != y) = true := bneT exy
        have HF2 := Lib.hid ((HF.out.trans Hfj.out).drew)
        clear exy
        go_wp2_with fail
        refine Reg.wp_region_text (by kernel_rfl) (by kernel_rfl) ?_
        go_wp2_with fail
        refine ⟨by kernel_rfl, ?_⟩
        go_wp2_with fail
        go_ret
        exact ⟨_, rfl, Q.out, HF2.out⟩
      subst exy
      go_wp2_with fail
      refine Reg.wp_region_text (by kernel_rfl) (by kernel_rfl) ?_
      go_wp2_with fail
      refine ⟨by kernel_rfl, ?_⟩
      go_wp2_with fail
      go_roundg (gk - 1)
      case measure => omega
      case rel =>
        refine ⟨j + 1, by omega, by go_num, Lib.hid (fun t ht => ?_), Hfj.out.drew⟩
        rcases Nat.lt_or_ge t j with h | h
        · exact HJ.out t h
        · obtain rfl : t = j := by omega
          rw [HKx.out, HKy.out]
    case neg =>
      have hjj : ¬ (j : Int) < (ks.length : Int) := by omega
      have hkl : ks = ls := list_eq_of E5.out (fun t ht => HJ.out t (by omega))
      have HKl := Lib.hid hkl
      have HH := Lib.hid (H3.out.ch0 Hfj.out)
      clear hkl HJ
      go_wp2_with fail
      go_roundg (g1 - 1)
      case measure => omega
      case rel =>
        refine ⟨i + 1, by omega, by go_num, Lib.hid (fun t ht => ?_), HH.out.tail.tail⟩
        rcases Nat.lt_or_ge t i with h | h
        · exact HS.out t h
        · obtain rfl : t = i := by omega
          rw [HX.out, HY.out, HKl.out]; rfl
  case neg =>
    have hki : ¬ (i : Int) < (nodes.length : Int) := by omega
    have hmap : nodes.map Rb.bare = nodes'.map Rb.bare := list_eq_of (by rw [List.length_map, List.length_map]; exact Hl.out) (fun t ht => by
      rw [List.getElem?_map, List.getElem?_map]
      exact HS.out t (by rw [List.length_map] at ht; omega))
    have HMp := Lib.hid hmap
    clear hmap HS
    go_wp2_with fail
    clear a0 b0 a1 b1
    go_loopg [9] funcs.length (fun m v9 wr => ∃ i : Nat, i + m = funcs.length ∧ v9 = .int .i64 (i : Int) ∧ Hid (∀ j, j < i → funcs[j]? = funcs'[j]?) ∧ Hs (fun k => k < w.heap.size) w wr [.blk tb 25 [.slice bn nodes'.length dn, .slice bf funcs'.length df], .blk ta 25 [.slice an nodes.length cn, .slice af funcs.length cf]])
    case atStart => exact ⟨0, by omega, rfl, Lib.hid (fun j hj => by omega), Hh.out⟩
    case round =>
    obtain ⟨i, him, rfl, HS, hh⟩ := hrel
    replace Hh := Lib.hid hh
    have a1 := hh.cell 1 rfl 1 rfl
    have b1 := hh.cell 0 rfl 1 rfl
    replace HFr := Lib.hid (fr_of_kp hh.kp)
    clear hh
    by_cases hlt : i < funcs.length
    case pos =>
      have hki : (i : Int) < (funcs.length : Int) := by omega
      have hlt' : i < funcs'.length := by rw [← Hfl.out]; exact hlt
      have hki2 : (i : Int) < (funcs'.length : Int) := by omega
      have hk0 : (0 : Int) ≤ (i : Int) := by omega
      obtain ⟨x, hx⟩ : ∃ x, funcs[i]? = some x := ⟨_, List.getElem?_eq_getElem hlt⟩
      obtain ⟨y, hy⟩ : ∃ y, funcs'[i]? = some y := ⟨_, List.getElem?_eq_getElem hlt'⟩
      obtain ⟨gu, ou, rfl, q1⟩ := rdS_int (HT.out.funcs.fr HFr.out) hx
      obtain ⟨gv, ov, rfl, q2⟩ := rdS_int (HU.out.funcs.fr HFr.out) hy
      have HKx := Lib.hid hx
      have HKy := Lib.hid hy
      clear hx hy
      by_cases exy : x = y
      case neg =>
        have Q := Lib.hid (no_iff (P := Like nodes nodes' funcs funcs') (fun h => exy (by
          have := congrArg (fun l : List Int => l[i]?) h.2
          simp only [HKx.out, HKy.out] at this
          simpa using this)))
        have z0 : (x != y) = true := bneT exy
        have HF2 := Lib.hid (HFr.out.drew)
        clear exy
        go_wp2_with fail
        refine Reg.wp_region_text (by kernel_rfl) (by kernel_rfl) ?_
        go_wp2_with fail
        refine ⟨by kernel_rfl, ?_⟩
        go_wp2_with fail
        go_ret
        exact ⟨_, rfl, Q.out, HF2.out⟩
      subst exy
      go_wp2_with fail
      refine Reg.wp_region_text (by kernel_rfl) (by kernel_rfl) ?_
      go_wp2_with fail
      refine ⟨by kernel_rfl, ?_⟩
      go_wp2_with fail
      go_roundg (gk - 1)
      case measure => omega
      case rel =>
        refine ⟨i + 1, by omega, by go_num, Lib.hid (fun t ht => ?_), Hh.out.drew⟩
        rcases Nat.lt_or_ge t i with h | h
        · exact HS.out t h
        · obtain rfl : t = i := by omega
          rw [HKx.out, HKy.out]
    case neg =>
      have hki : ¬ (i : Int) < (funcs.length : Int) := by omega
      have hfe : funcs = funcs' := list_eq_of Hfl.out (fun t ht => HS.out t (by omega))
      have Q := Lib.hid (show Like nodes nodes' funcs funcs' from ⟨HMp.out, hfe⟩)
      clear hfe HS
      go_wp2_with fail
      go_ret
      exact ⟨_, rfl, ⟨fun _ => Q.out, fun _ => rfl⟩, HFr.out⟩
end Go.Proofs.YtllahgnpjodgmaaDoor
