/- lending.kept: what was lent is as it was; then it is written over. -/
import Derived.Test.YtllahgnpjodgmaaDoorWa
set_option linter.unusedVariables false
namespace Go.Proofs.YtllahgnpjodgmaaDoor
open Go Go.RowKit Mem Pm
def n5 : Nd := { kind := 20, value := 5 }
def n9 (q : Nat × (Nat × Nat) × List Int) : Nat × (Nat × Nat) × List Int := (q.1, q.2.1, List.replicate q.1 99)
theorem kst_get5 {r : Res} {x gN cN gF cF n m : Nat} {vK : Value} {NL : List (Nd × Value)} {FC : List Int} {KL : List (Nat × (Nat × Nat) × List Int)} {rs : List Res} {i : Nat} {q : Nat × (Nat × Nat) × List Int} (h : KL[i]? = some q) :
    (r :: kst x gN cN gF cF n m vK NL FC KL rs)[i + 5]? = some (krow q) := by
  show (kst x gN cN gF cF n m vK NL FC KL rs)[i + 4]? = _
  exact kst_get h
theorem rep_set {α : Type} (u : α) {l : List α} {j : Nat} (h : j < l.length) : (List.replicate j u ++ l.drop j).set j u = List.replicate (j + 1) u ++ l.drop (j + 1) := by
  have hd : l.drop j = l[j] :: l.drop (j + 1) := List.drop_eq_getElem_cons h
  rw [hd]
  have := set_mid l[j] u (l.drop (j + 1)) (List.replicate j u)
  rw [List.length_replicate] at this
  rw [this, List.replicate_succ', List.append_assoc]; rfl
theorem klG_get {D : List (List Int)} {Ps : List (Nat × Nat)} {tl : List Int} {i : Nat} {d : List Int} {p : Nat × Nat} (h1 : D[i]? = some d) (h2 : Ps[i]? = some p) : (klG D Ps tl)[i]? = some (d.length + 5, p, d ++ tl) := by
  have hz : (D.zip Ps)[i]? = some (d, p) := List.getElem?_zip_eq_some.2 ⟨h1, h2⟩
  unfold klG
  rw [List.getElem?_map, hz]; rfl
theorem klG_len {D : List (List Int)} {Ps : List (Nat × Nat)} {tl : List Int} (h : Ps.length = D.length) : (klG D Ps tl).length = D.length := by unfold klG; rw [List.length_map, List.length_zip]; omega
theorem klG_n9 (D : List (List Int)) (Ps : List (Nat × Nat)) (tl : List Int) (ht : tl.length = 5) : (klG D Ps tl).map n9 = klG (D.map fun l => List.replicate l.length 99) Ps (List.replicate 5 99) := by
  unfold klG
  rw [List.map_map, List.zip_map_left, List.map_map]
  refine List.map_congr_left fun q _ => ?_
  show (q.1.length + 5, q.2, List.replicate (q.1.length + 5) (99 : Int)) = ((List.replicate q.1.length (99 : Int)).length + 5, q.2, List.replicate q.1.length 99 ++ List.replicate 5 99)
  rw [List.length_replicate, List.replicate_append_replicate]
set_option maxRecDepth 100000 in
set_option maxHeartbeats 16000000 in
theorem kept_c {A : Nat → Prop} {w0 : World} (w : World) (nodes : List Nd) (funcs : List Int) (nd fu : Value) (x gN cN gF cF : Nat) (vK : Value) (Ps : List (Nat × Nat)) (rs : List Res) (hT : ∀ w' lr, Hs A w0 w' (lr ++ rs) → TreeRd w' nodes funcs nd fu) (hpl : Ps.length = nodes.length)
    (H : Hs A w0 w (lres x gN cN gF cF nodes.length funcs.length vK (nlF nodes Ps ++ marksN) (funcs ++ marksL 5) (kidsL nodes) Ps (marksL 5) ++ rs)) (hn : nodes.length ≤ 1000000) (hf : funcs.length ≤ 1000000) (he : ∀ n ∈ nodes, n.kids.length ≤ 1000000) :
    Calls Tryd.prog 28 #[.pointer (some ⟨x, 0, none⟩), .agg #[nd, fu]] w fun e w' => e = .returned (.bool true) ∧
      Hs A w0 w' (lres x gN cN gF cF nodes.length funcs.length vK (List.replicate (nodes.length + 2) (n5, .slice none 0 0)) (funcs ++ marksL 5) ((kidsL nodes).map fun l => List.replicate l.length 99) Ps (List.replicate 5 99) ++ rs) := by
  have h0 := hT w _ H
  obtain ⟨an, cn, rfl, hcn⟩ : ∃ an cn, nd = .slice an nodes.length cn ∧ nodes.length ≤ cn := by obtain ⟨_, _, ⟨a, c, h1, h2, _⟩, _⟩ := h0.nds; exact ⟨a, c, h1, h2⟩
  obtain ⟨af, cf, rfl, hcf⟩ : ∃ af cf, fu = .slice af funcs.length cf ∧ funcs.length ≤ cf := by obtain ⟨a, c, h1, h2, _⟩ := h0.funcs; exact ⟨a, c, h1, h2⟩
  rw [lres_kst] at H ⊢
  obtain ⟨aK, cK, rfl, hcK, hgK⟩ := H.form 3 rfl
  obtain ⟨b, hb⟩ : ∃ b, b = w.heap.size := ⟨_, rfl⟩
  have H1 : Hid (Hs A w0 (w.alloc (.cells #[.slice an nodes.length cn, .slice af funcs.length cf] 25)) (.blk b 25 [.slice an nodes.length cn, .slice af funcs.length cf] :: kst x gN cN gF cF nodes.length funcs.length (.slice aK nodes.length cK) (nlF nodes Ps ++ marksN) (funcs ++ marksL 5) (klG (kidsL nodes) Ps (marksL 5)) rs)) := Lib.hid (by
    rw [hb]; exact H.alloc [.slice an nodes.length cn, .slice af funcs.length cf] 25)
  have HTr := Lib.hid (fun w' (h : Hs A w0 w' (.blk b 25 [.slice an nodes.length cn, .slice af funcs.length cf] :: kst x gN cN gF cF nodes.length funcs.length (.slice aK nodes.length cK) (nlF nodes Ps ++ marksN) (funcs ++ marksL 5) (klG (kidsL nodes) Ps (marksL 5)) rs)) => hT w' (.blk b 25 [.slice an nodes.length cn, .slice af funcs.length cf] :: lres x gN cN gF cF nodes.length funcs.length (.slice aK nodes.length cK) (nlF nodes Ps ++ marksN) (funcs ++ marksL 5) (kidsL nodes) Ps (marksL 5)) (by rw [List.cons_append, lres_kst]; exact h))
  have HE := Lib.hid he
  have HPl := Lib.hid hpl
  clear H h0 he hpl hT
  go_enter Tryd.func28, Tryd.ntmps28
  go_upto_region 1 with fail
  obtain ⟨W1, hW1⟩ : ∃ W, W = w.alloc (.cells #[.slice an nodes.length cn, .slice af funcs.length cf] 25) := ⟨_, rfl⟩
  rw [← hW1] at H1 ⊢
  rw [← hb]
  clear hW1 hb
  have b0 := H1.out.cell 0 rfl 0 rfl
  have b1 := H1.out.cell 0 rfl 1 rfl
  have c2 := H1.out.cell 1 rfl 2 rfl
  have c3 := H1.out.cell 1 rfl 3 rfl
  have c4 := H1.out.cell 1 rfl 4 rfl
  have hnl : (nlF nodes Ps).length = nodes.length := nlF_len HPl.out
  have hm0 : (nlF nodes Ps ++ marksN)[nodes.length]? = some (nMark (-71), .slice none 0 0) := by rw [List.getElem?_append_right (by omega), hnl, Nat.sub_self]; rfl
  have hm1 : (nlF nodes Ps ++ marksN)[nodes.length + 1]? = some (nMark (-72), .slice none 0 0) := by rw [List.getElem?_append_right (by omega), hnl, show nodes.length + 1 - nodes.length = 1 by omega]; rfl
  have m0 : W1.cell? ⟨gN, nodes.length * 10, none⟩ = some (.int .i64 (-71)) := H1.out.rcell 2 rfl (g := gN) rfl _ ((ndsC_get hm0 0 (by decide)).trans rfl)
  have m1 : W1.cell? ⟨gN, (nodes.length + 1) * 10, none⟩ = some (.int .i64 (-72)) := H1.out.rcell 2 rfl (g := gN) rfl _ ((ndsC_get hm1 0 (by decide)).trans rfl)
  clear hm0 hm1
  unfold kW at c2 c3
  have s1 : IntKind.i64.wrap ((nodes.length : Int) + 1) = (nodes.length : Int) + 1 := IntWalk.i64_in _ (by omega)
  have hfr := (HTr.out W1 H1.out).funcs
  have hmk := rdS_row H1.out 3 rfl
  have HFr := Lib.hid hfr
  have HMk := Lib.hid hmk
  clear hfr hmk hnl
  have in0 : (0 : Int) ≤ (nodes.length : Int) := by omega
  have in1 : (nodes.length : Int) < (nodes.length : Int) + 2 := by omega
  have in2 : (nodes.length : Int) + 1 < (nodes.length : Int) + 2 := by omega
  go_wp2_with fail
  refine Reg.wp_region_text (by kernel_rfl) (by kernel_rfl) ?_
  go_wp2_with fail
  refine (marked_c funcs _ _ _ (HMk.out.fr (Ch.refl _ _).drew) (HFr.out.fr (Ch.refl _ _).drew) hf).mono ?_
  rintro e w2 ⟨rfl, hf2⟩
  replace hf2 := (Ch.refl (fun _ => False) W1).drew.trans hf2
  replace H1 := Lib.hid (H1.out.ch0 hf2)
  replace b0 := fr_cell hf2 b0
  replace b1 := fr_cell hf2 b1
  replace c2 := fr_cell hf2 c2
  replace c3 := fr_cell hf2 c3
  replace c4 := fr_cell hf2 c4
  replace m0 := fr_cell hf2 m0
  replace m1 := fr_cell hf2 m1
  clear hf2
  go_wp2_with fail
  refine ⟨by kernel_rfl, ?_⟩
  clear b0 b1 c2 c3 c4 m0 m1 HFr HMk s1
  go_wp2_with fail
  go_loopg [7, 6] nodes.length (fun m v7 v6 wr => ∃ i : Nat, i + m = nodes.length ∧ v7 = .int .i64 (i : Int) ∧ v6 = .bool true ∧ Hs A w0 wr (.blk b 25 [.slice an nodes.length cn, .slice af funcs.length cf] :: kst x gN cN gF cF nodes.length funcs.length (.slice aK nodes.length cK) (nlF nodes Ps ++ marksN) (funcs ++ marksL 5) (klG (kidsL nodes) Ps (marksL 5)) rs))
  case atStart => exact ⟨0, by omega, rfl, rfl, H1.out⟩
  case round =>
  obtain ⟨i, him, rfl, rfl, hh⟩ := hrel
  have Hh := Lib.hid hh
  clear hh H1
  by_cases hlt : i < nodes.length
  case pos =>
    have hki : (i : Int) < (nodes.length : Int) := by omega
    have hk2 : (i : Int) < (nodes.length : Int) + 2 := by omega
    have hk0 : (0 : Int) ≤ (i : Int) := by omega
    have htr := HTr.out wr Hh.out
    obtain ⟨g, off, ak, ck, rfl, hkr, x0, x1, x2, x3, x4, x5, x6, x7, x8, x9⟩ := node_at htr hlt
    obtain ⟨gK, rfl, _⟩ := hgK (by omega)
    have hN : nodes[i]? = some nodes[i] := List.getElem?_eq_getElem hlt
    have hke := HE.out _ (List.getElem_mem hlt)
    obtain ⟨p, hp⟩ : ∃ p, Ps[i]? = some p := ⟨_, List.getElem?_eq_getElem (by rw [HPl.out]; exact hlt)⟩
    generalize nodes[i] = N at x0 x1 x2 x3 x4 x5 x6 x7 x8 x9 hkr hN hke
    have hnl : (nlF nodes Ps).length = nodes.length := nlF_len HPl.out
    have hza : (nlF nodes Ps ++ marksN)[i]? = some (N, kW N.kids.length p) := by rw [List.getElem?_append_left (by omega)]; exact nlF_get hN hp
    have hkd : (kidsL nodes)[i]? = some N.kids := by unfold kidsL; rw [List.getElem?_map, hN]; rfl
    have hkg := klG_get (tl := marksL 5) hkd hp
    have y0 : wr.cell? ⟨gN, i * 10, none⟩ = _ := Hh.out.rcell 2 rfl (g := gN) rfl _ ((ndsC_get hza 0 (by decide)).trans rfl)
    have y1 := Hh.out.rcell 2 rfl (g := gN) rfl _ ((ndsC_get hza 1 (by decide)).trans rfl)
    have y2 := Hh.out.rcell 2 rfl (g := gN) rfl _ ((ndsC_get hza 2 (by decide)).trans rfl)
    have y3 := Hh.out.rcell 2 rfl (g := gN) rfl _ ((ndsC_get hza 3 (by decide)).trans rfl)
    have y4 := Hh.out.rcell 2 rfl (g := gN) rfl _ ((ndsC_get hza 4 (by decide)).trans rfl)
    have y5 := Hh.out.rcell 2 rfl (g := gN) rfl _ ((ndsC_get hza 5 (by decide)).trans rfl)
    have y6 := Hh.out.rcell 2 rfl (g := gN) rfl _ ((ndsC_get hza 6 (by decide)).trans rfl)
    have y7 := Hh.out.rcell 2 rfl (g := gN) rfl _ ((ndsC_get hza 7 (by decide)).trans rfl)
    have y8 := Hh.out.rcell 2 rfl (g := gN) rfl _ ((ndsC_get hza 8 (by decide)).trans rfl)
    have y9 := Hh.out.rcell 2 rfl (g := gN) rfl _ ((ndsC_get hza 9 (by decide)).trans rfl)
    have b0 := Hh.out.cell 0 rfl 0 rfl
    have c2 := Hh.out.cell 1 rfl 2 rfl
    have c4 := Hh.out.cell 1 rfl 4 rfl
    have k0 : wr.cell? ⟨gK, i, none⟩ = some (kW (N.kids.length + 5) p) := Hh.out.rcell 4 rfl (g := gK) rfl i (by rw [List.getElem?_map, hkg]; rfl)
    have hrow : RdS wr (kW (N.kids.length + 5) p) (N.kids.length + 5) (ints (N.kids ++ marksL 5)) := rdS_row Hh.out (i + 5) (kst_get5 hkg)
    have HRow := Lib.hid hrow
    have HKr := Lib.hid hkr
    unfold kW at y9 c2 k0
    clear hza hkd hkg hnl hN hp hrow hkr htr
    go_wp2_with fail
    refine Reg.wp_region_text (by kernel_rfl) (by kernel_rfl) ?_
    go_wp2_with fail
    refine (node_t N N _ _ _ ⟨rfl, rfl, rfl, rfl, rfl, rfl, rfl, rfl, rfl⟩).mono ?_
    rintro e w2 ⟨rfl, hf2⟩
    replace hf2 := (Ch.refl (fun _ => False) wr).drew.trans hf2
    replace Hh := Lib.hid (Hh.out.ch0 hf2)
    replace b0 := fr_cell hf2 b0
    replace c2 := fr_cell hf2 c2
    replace c4 := fr_cell hf2 c4
    replace k0 := fr_cell hf2 k0
    replace y9 := fr_cell hf2 y9
    replace x9 := fr_cell hf2 x9
    replace HRow := Lib.hid (HRow.out.fr hf2)
    replace HKr := Lib.hid (HKr.out.fr hf2)
    clear hf2 x0 x1 x2 x3 x4 x5 x6 x7 x8 y0 y1 y2 y3 y4 y5 y6 y7 y8
    go_wp2_with fail
    refine ⟨by kernel_rfl, ?_⟩
    go_wp2_with fail
    refine Reg.wp_region_text (by kernel_rfl) (by kernel_rfl) ?_
    go_wp2_with fail
    refine (marked_c N.kids _ _ _ (HRow.out.fr (Ch.refl _ _).drew) (HKr.out.fr (Ch.refl _ _).drew) hke).mono ?_
    rintro e w3 ⟨rfl, hf3⟩
    replace hf3 := (Ch.refl (fun _ => False) w2).drew.trans hf3
    replace Hh := Lib.hid (Hh.out.ch0 hf3)
    clear hf3 b0 c2 c4 k0 y9 x9 HRow HKr
    go_wp2_with fail
    refine ⟨by kernel_rfl, ?_⟩
    go_wp2_with fail
    go_roundg (gk - 1)
    case measure => omega
    case rel => exact ⟨i + 1, by omega, by go_num, rfl, Hh.out⟩
  case neg =>
    have hki : ¬ (i : Int) < (nodes.length : Int) := by omega
    have q1 : decide ((i : Int) < (nodes.length : Int)) = false := decide_eq_false hki
    obtain ⟨KL, hKL⟩ : ∃ KL, KL = klG (kidsL nodes) Ps (marksL 5) := ⟨_, rfl⟩
    have hkl : KL.length = nodes.length := by rw [hKL, klG_len (by rw [kidsL_len]; exact HPl.out), kidsL_len]
    have hkr : ∀ (k : Nat) (h : k < KL.length), (KL[k]).2.2.length = (KL[k]).1 ∧ (KL[k]).1 ≤ 1000005 := by
      intro k h
      have hkn : k < nodes.length := by omega
      have e1 := klG_get (tl := marksL 5) (D := kidsL nodes) (Ps := Ps) (i := k) (d := (nodes[k]).kids) (by unfold kidsL; rw [List.getElem?_map, List.getElem?_eq_getElem hkn]; rfl) (List.getElem?_eq_getElem (by rw [HPl.out]; exact hkn))
      rw [← hKL, List.getElem?_eq_getElem h] at e1
      injection e1 with e1
      rw [e1]
      have := HE.out _ (List.getElem_mem hkn)
      exact ⟨by show ((nodes[k]).kids ++ marksL 5).length = _; rw [List.length_append, marksL_len], by show (nodes[k]).kids.length + 5 ≤ _; omega⟩
    have HKL := Lib.hid hKL
    have HKr := Lib.hid hkr
    rw [← hKL] at Hh
    clear hKL hkr HTr
    go_wp2_with fail
    go_loopg [9] nodes.length (fun m v9 wr => ∃ i : Nat, i + m = nodes.length ∧ v9 = .int .i64 (i : Int) ∧ Hs A w0 wr (.blk b 25 [.slice an nodes.length cn, .slice af funcs.length cf] :: kst x gN cN gF cF nodes.length funcs.length (.slice aK nodes.length cK) (nlF nodes Ps ++ marksN) (funcs ++ marksL 5) ((KL.take i).map n9 ++ KL.drop i) rs))
    case atStart => exact ⟨0, by omega, rfl, by rw [List.take_zero, List.map_nil, List.nil_append, List.drop_zero]; exact Hh.out⟩
    case round =>
    obtain ⟨k, hkm, rfl, hh⟩ := hrel
    have Hk := Lib.hid hh
    have c4 := hh.cell 1 rfl 4 rfl
    clear hh Hh
    by_cases hlt : k < nodes.length
    case pos =>
      have hkk : (k : Int) < (nodes.length : Int) := by omega
      have hk0 : (0 : Int) ≤ (k : Int) := by omega
      have hkl2 : k < KL.length := by omega
      obtain ⟨gK, rfl, _⟩ := hgK (by omega)
      have hmid := map_mid n9 hkl2
      have hstep := map_step' n9 hkl2
      have hrl := HKr.out k hkl2
      obtain ⟨⟨L, p, R⟩, hq⟩ : ∃ q, q = KL[k] := ⟨_, rfl⟩
      rw [← hq] at hmid hstep hrl
      obtain ⟨hrl1, hrl2⟩ := hrl
      have hrl1' : R.length = L := hrl1
      have hrl2' : L ≤ 1000005 := hrl2
      have HMid := Lib.hid hmid
      have HStep := Lib.hid hstep
      obtain ⟨KM, hKM⟩ : ∃ KM, KM = (KL.take k).map n9 ++ KL.drop k := ⟨_, rfl⟩
      have HKM := Lib.hid hKM
      rw [← hKM] at Hk HMid HStep
      clear hq hmid hstep hKM hrl1 hrl2
      go_wp2_with fail
      clear c4
      obtain ⟨g1, rfl⟩ : ∃ g1, g1 = gk := ⟨_, rfl⟩
      go_loopg [10] L (fun m v10 wr => ∃ j : Nat, j + m = L ∧ v10 = .int .i64 (j : Int) ∧ Hs A w0 wr (.blk b 25 [.slice an nodes.length cn, .slice af funcs.length cf] :: kst x gN cN gF cF nodes.length funcs.length (.slice (some ⟨gK, 0, none⟩) nodes.length cK) (nlF nodes Ps ++ marksN) (funcs ++ marksL 5) (KM.set k (L, p, List.replicate j 99 ++ R.drop j)) rs))
      case atStart => exact ⟨0, by omega, rfl, by rw [List.replicate_zero, List.nil_append, List.drop_zero, set_self HMid.out]; exact Hk.out⟩
      case round =>
      obtain ⟨j, hjm, rfl, hj⟩ := hrel
      have hset : (KM.set k (L, p, List.replicate j 99 ++ R.drop j))[k]? = some (L, p, List.replicate j 99 ++ R.drop j) := List.getElem?_set_self (List.getElem?_eq_some_iff.1 HMid.out).1
      have Hj := Lib.hid hj
      have HSet := Lib.hid hset
      have c4 := hj.cell 1 rfl 4 rfl
      have k0 : wr.cell? ⟨gK, k, none⟩ = some (kW L p) := hj.rcell 4 rfl (g := gK) rfl k (by rw [List.getElem?_map, hset]; rfl)
      unfold kW at k0
      clear hj hset Hk
      by_cases hjl : j < L
      case pos =>
        have hjj : (j : Int) < (L : Int) := by omega
        have hj0 : (0 : Int) ≤ (j : Int) := by omega
        obtain ⟨y, hy⟩ : ∃ y, (List.replicate j (99 : Int) ++ R.drop j)[j]? = some y := ⟨_, List.getElem?_eq_getElem (by rw [List.length_append, List.length_replicate, List.length_drop]; omega)⟩
        have yj : wr.cell? ⟨p.1, j, none⟩ = some (.int .i64 y) := Hj.out.rcell (k + 5) (kst_get5 HSet.out) (g := p.1) rfl j (ints_get hy)
        have zj : wr.frozen? ⟨p.1, j, none⟩ = false := Hj.out.rfroz (k + 5) (kst_get5 HSet.out) (g := p.1) rfl j
        clear hy
        go_wp2_with fail
        go_roundg (gk - 1)
        case measure => omega
        case rel =>
          refine ⟨j + 1, by omega, by go_num, ?_⟩
          have h1 := Hj.out.rset (k + 5) (kst_get5 HSet.out) (g := p.1) rfl j (.int .i64 99)
          rw [ints_set, rep_set 99 (by omega)] at h1
          have h2 := kst_set (x := x) (gN := gN) (cN := cN) (gF := gF) (cF := cF) (n := nodes.length) (m := funcs.length) (vK := .slice (some ⟨gK, 0, none⟩) nodes.length cK) (NL := nlF nodes Ps ++ marksN) (FC := funcs ++ marksL 5) (rs := rs) (R' := List.replicate (j + 1) 99 ++ R.drop (j + 1)) HSet.out
          rw [List.set_set] at h2
          rw [← h2]
          exact h1
      case neg =>
        have hjj : ¬ (j : Int) < (L : Int) := by omega
        obtain rfl : j = L := by omega
        rw [List.drop_eq_nil_of_le (by omega), List.append_nil] at Hj
        go_wp2_with fail
        go_roundg (g1 - 1)
        case measure => omega
        case rel => exact ⟨k + 1, by omega, by go_num, by rw [← HStep.out]; exact Hj.out⟩
    case neg =>
      have hkk : ¬ (k : Int) < (nodes.length : Int) := by omega
      have hkn : KL.length ≤ k := by omega
      rw [List.take_of_length_le hkn, List.drop_eq_nil_of_le hkn, List.append_nil, HKL.out, klG_n9 _ _ _ (marksL_len 5)] at Hk
      go_wp2_with fail
      obtain ⟨NL, hNL⟩ : ∃ NL, NL = nlF nodes Ps ++ marksN := ⟨_, rfl⟩
      have hnl : NL.length = nodes.length + 2 := by rw [hNL, List.length_append, nlF_len HPl.out]; rfl
      rw [← hNL] at Hk
      clear hNL c4
      go_loopg [11] (nodes.length + 2) (fun m v11 wr => ∃ j : Nat, j + m = nodes.length + 2 ∧ v11 = .int .i64 (j : Int) ∧ Hs A w0 wr (.blk b 25 [.slice an nodes.length cn, .slice af funcs.length cf] :: kst x gN cN gF cF nodes.length funcs.length (.slice aK nodes.length cK) (List.replicate j (n5, .slice none 0 0) ++ NL.drop j) (funcs ++ marksL 5) (klG ((kidsL nodes).map fun l => List.replicate l.length 99) Ps (List.replicate 5 99)) rs))
      case atStart => exact ⟨0, by omega, rfl, by rw [List.replicate_zero, List.nil_append, List.drop_zero]; exact Hk.out⟩
      case round =>
      obtain ⟨j, hjm, rfl, hj⟩ := hrel
      have Hj := Lib.hid hj
      have c2 := hj.cell 1 rfl 2 rfl
      unfold kW at c2
      clear hj Hk
      by_cases hjl : j < nodes.length + 2
      case pos =>
        have hjj : (j : Int) < (nodes.length : Int) + 2 := by omega
        have hj0 : (0 : Int) ≤ (j : Int) := by omega
        obtain ⟨⟨N, kv⟩, hza⟩ : ∃ y, (List.replicate j (n5, Value.slice none 0 0) ++ NL.drop j)[j]? = some y := ⟨_, List.getElem?_eq_getElem (by rw [List.length_append, List.length_replicate, List.length_drop]; omega)⟩
        have y0 : wr.cell? ⟨gN, j * 10, none⟩ = _ := Hj.out.rcell 2 rfl (g := gN) rfl _ ((ndsC_get hza 0 (by decide)).trans rfl)
        have y1 := Hj.out.rcell 2 rfl (g := gN) rfl _ ((ndsC_get hza 1 (by decide)).trans rfl)
        have y2 := Hj.out.rcell 2 rfl (g := gN) rfl _ ((ndsC_get hza 2 (by decide)).trans rfl)
        have y3 := Hj.out.rcell 2 rfl (g := gN) rfl _ ((ndsC_get hza 3 (by decide)).trans rfl)
        have y4 := Hj.out.rcell 2 rfl (g := gN) rfl _ ((ndsC_get hza 4 (by decide)).trans rfl)
        have y5 := Hj.out.rcell 2 rfl (g := gN) rfl _ ((ndsC_get hza 5 (by decide)).trans rfl)
        have y6 := Hj.out.rcell 2 rfl (g := gN) rfl _ ((ndsC_get hza 6 (by decide)).trans rfl)
        have y7 := Hj.out.rcell 2 rfl (g := gN) rfl _ ((ndsC_get hza 7 (by decide)).trans rfl)
        have y8 := Hj.out.rcell 2 rfl (g := gN) rfl _ ((ndsC_get hza 8 (by decide)).trans rfl)
        have y9 := Hj.out.rcell 2 rfl (g := gN) rfl _ ((ndsC_get hza 9 (by decide)).trans rfl)
        have z0 : wr.frozen? ⟨gN, j * 10, none⟩ = false := Hj.out.rfroz 2 rfl (g := gN) rfl (j * 10)
        have z1 := Hj.out.rfroz 2 rfl (g := gN) rfl (j * 10 + 1)
        have z2 := Hj.out.rfroz 2 rfl (g := gN) rfl (j * 10 + 2)
        have z3 := Hj.out.rfroz 2 rfl (g := gN) rfl (j * 10 + 3)
        have z4 := Hj.out.rfroz 2 rfl (g := gN) rfl (j * 10 + 4)
        have z5 := Hj.out.rfroz 2 rfl (g := gN) rfl (j * 10 + 5)
        have z6 := Hj.out.rfroz 2 rfl (g := gN) rfl (j * 10 + 6)
        have z7 := Hj.out.rfroz 2 rfl (g := gN) rfl (j * 10 + 7)
        have z8 := Hj.out.rfroz 2 rfl (g := gN) rfl (j * 10 + 8)
        have z9 := Hj.out.rfroz 2 rfl (g := gN) rfl (j * 10 + 9)
        clear hza
        go_wp2_with fail
        go_roundg (gk - 1)
        case measure => omega
        case rel =>
          refine ⟨j + 1, by omega, by go_num, ?_⟩
          have h1 := Mem.Hs.rsetN (i := 2) (g := gN) rfl (ndC n5 (.slice none 0 0)) wr _ _ (j * 10) Hj.out rfl
          rw [setL_ndsC n5 (.slice none 0 0) _ j (by rw [List.length_append, List.length_replicate, List.length_drop]; omega), rep_set (n5, Value.slice none 0 0) (by omega)] at h1
          exact h1
      case neg =>
        have hjj : ¬ (j : Int) < (nodes.length : Int) + 2 := by omega
        obtain rfl : j = nodes.length + 2 := by omega
        rw [List.drop_eq_nil_of_le (by omega), List.append_nil] at Hj
        go_wp2_with fail
        go_ret
        exact ⟨rfl, Hj.out.tail⟩
end Go.Proofs.YtllahgnpjodgmaaDoor
