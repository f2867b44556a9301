/- quernlaw3.checks: Check's answer is the document's, over lent memory, filled anew.
quernlaw3.TreeCheck, the walk. -/
import Derived.Test.YtllahgnpjodgmaaDoorWe
import Derived.Test.YtllahgnpjodgmaaDoorTD
import Derived.Deep.DeepCutAuto
set_option linter.unusedVariables false
namespace Go.Proofs.YtllahgnpjodgmaaDoor
open Go Go.RowKit Mem Pm
/-- The first node's number is none. -/
def neg0 : List Nd → List Nd
  | [] => []
  | n :: r => { n with value := -1 } :: r
theorem neg0_len (l : List Nd) : (neg0 l).length = l.length := by cases l <;> rfl
theorem neg0_kids (l : List Nd) : kidsL (neg0 l) = kidsL l := by cases l <;> rfl
theorem neg0_mem {l : List Nd} {n : Nd} (h : n ∈ neg0 l) : ∃ m ∈ l, m.kids = n.kids ∧ m.name = n.name := by
  cases l with
  | nil => cases h
  | cons x r =>
    rcases List.mem_cons.1 h with rfl | h
    · exact ⟨x, List.mem_cons_self, rfl, rfl⟩
    · exact ⟨n, List.mem_cons_of_mem _ h, rfl, rfl⟩
theorem kidRows_neg0 (l : List Nd) (kvs : List Value) : kidRows ((neg0 l).zip kvs) = kidRows (l.zip kvs) := by
  cases l with
  | nil => rfl
  | cons x r => cases kvs <;> rfl
theorem ndsC_neg0 {l : List Nd} {kvs : List Value} (h0 : 0 < l.length) (hl : kvs.length = l.length) : (ndsC (l.zip kvs)).set 7 (.int .i64 (-1)) = ndsC ((neg0 l).zip kvs) := by
  cases l with
  | nil => simp at h0
  | cons x r =>
    cases kvs with
    | nil => simp at hl
    | cons v vs => rfl
/-- Rows as a tree. -/
theorem treeAt_rows {A : Nat → Prop} {w0 w : World} {us : List Nd} {fs : List Int} {vN vF : Value} {kvs : List Value} {rs : List Res} (hl : kvs.length = us.length) (H : Hs A w0 w rs)
    (hs : ∀ r ∈ [.row 45 10 vN us.length (ndsC (us.zip kvs)), .row 3 1 vF fs.length (ints fs)] ++ kidRows (us.zip kvs), r ∈ rs) : TreeAt w us fs vN vF kvs := by
  have rd : ∀ {e : TypeId} {size n : Nat} {v : Value} {xs : List Value}, .row e size v n xs ∈ rs → RdS w v n xs := by
    intro e size n v xs hm
    obtain ⟨i, hi⟩ := List.getElem?_of_mem hm
    exact rdS_row H i hi
  refine ⟨hl, rd (e := 45) (size := 10) (hs _ (by simp)), fun x hx => ?_, rd (e := 3) (size := 1) (hs _ (by simp))⟩
  exact rd (e := 3) (size := 1) (hs _ (List.mem_append_right _ (List.mem_map.2 ⟨x, hx, rfl⟩)))
theorem treeAt_kp {w w' : World} {us : List Nd} {fs : List Int} {nd fu : Value} {kvs : List Value} {rs : List Res} (h : TreeAt w us fs nd fu kvs) (H : Hs (fun k => k < w.heap.size) w w' rs) : TreeAt w' us fs nd fu kvs := by
  have hf := fr_of_kp H.kp
  exact ⟨h.len, h.nds.fr hf, fun x hx => (h.kids x hx).fr hf, h.funcs.fr hf⟩
theorem treeRd_at {w : World} {us : List Nd} {fs : List Int} {nd fu : Value} (h : TreeRd w us fs nd fu) : ∃ kvs, TreeAt w us fs nd fu kvs := by
  obtain ⟨⟨kvs, h1, h2, h3⟩, h4⟩ := h
  exact ⟨kvs, h1, h2, h3, h4⟩
theorem kids_of_len {us : List Nd} {D : List (List Int)} (h : D.map List.length = (kidsL us).map List.length) : D.length = us.length ∧ ∀ (i : Nat) (n : Nd) (d : List Int), us[i]? = some n → D[i]? = some d → d.length = n.kids.length := by
  have h1 := congrArg List.length h
  rw [List.length_map, List.length_map, kidsL_len] at h1
  refine ⟨h1, fun i n d hn hd => ?_⟩
  have h2 := congrArg (fun l => l[i]?) h
  simp only [List.getElem?_map] at h2
  unfold kidsL at h2
  rw [List.getElem?_map, hn, hd] at h2
  simpa using h2
set_option maxRecDepth 100000 in
set_option maxHeartbeats 16000000 in
theorem checks_c (nodes : List Nd) (funcs : List Int) (nd fu : Value) (w : World) (h : TreeRd w nodes funcs nd fu) (hn : nodes.length ≤ 120000) (hf : funcs.length ≤ 120000) (he : ∀ n ∈ nodes, n.kids.length ≤ 120000 ∧ n.name.size ≤ 9000000000000000000) :
    Calls Tryd.prog 13 #[.agg #[nd, fu]] w fun e w' => e = .returned (.bool true) ∧ Fr w w' := by
  obtain ⟨an, cn, rfl, hcn⟩ : ∃ an cn, nd = .slice an nodes.length cn ∧ nodes.length ≤ cn := by obtain ⟨_, _, ⟨a, c, h1, h2, _⟩, _⟩ := h.nds; exact ⟨a, c, h1, h2⟩
  obtain ⟨af, cf, rfl, hcf⟩ : ∃ af cf, fu = .slice af funcs.length cf ∧ funcs.length ≤ cf := by obtain ⟨a, c, h1, h2, _⟩ := h.funcs; exact ⟨a, c, h1, h2⟩
  have hsm : Small nodes funcs := ⟨by omega, by omega, fun n hm => ⟨by have := (he n hm).1; omega, by have := (he n hm).2; omega⟩⟩
  have hsm2 : Small (neg0 nodes) funcs := ⟨by rw [neg0_len]; omega, by omega, fun n hm => by
    obtain ⟨m, hm1, hm2, hm3⟩ := neg0_mem hm
    rw [← hm2, ← hm3]
    exact hsm.each m hm1⟩
  have hk2 : ∀ n ∈ neg0 nodes, n.kids.length ≤ 1000000 := fun n hm => by
    obtain ⟨m, hm1, hm2, _⟩ := neg0_mem hm
    rw [← hm2]
    have := (he m hm1).1
    omega
  have hk1 : ∀ n ∈ nodes, n.kids.length ≤ 1000000 := fun n hm => by have := (he n hm).1; omega
  obtain ⟨kvs, hat⟩ := treeRd_at h
  have HT := Lib.hid h
  have HAt := Lib.hid hat
  have HS := Lib.hid hsm
  have HS2 := Lib.hid hsm2
  have HK1 := Lib.hid hk1
  have HK2 := Lib.hid hk2
  have H1 := Lib.hid ((Hs.start w).alloc [.slice an nodes.length cn, .slice af funcs.length cf] 25)
  clear h he hat hsm hsm2 hk1 hk2
  obtain ⟨cb, hcb⟩ : ∃ cb, cb = Tm.check nodes funcs := ⟨_, rfl⟩
  have HCb := Lib.hid hcb
  clear hcb
  go_enter Tryd.func13, Tryd.ntmps13
  go_wp2_with fail
  refine (lend_c nodes funcs _ _ _ (HT.out.fr (fr_of_kp H1.out.kp)) (by omega) (by omega) HK1.out).mono ?_
  rintro e w1 ⟨x, gN, cN, gF, cF, vK, Ps, rfl, hpl, hg⟩
  have H2 := Lib.hid (hg _ _ _ H1.out)
  have HPl := Lib.hid hpl
  clear hg H1 hpl
  have b0 := H2.out.swap.cell 0 rfl 0 rfl
  have b1 := H2.out.swap.cell 0 rfl 1 rfl
  go_wp2_with fail
  refine (refCheck_c nodes funcs _ _ _ (HT.out.fr (fr_of_kp H2.out.kp)) HS.out (fun n hm => by have := HK1.out n hm; omega)).mono ?_
  rintro e w2 ⟨rfl, hf2⟩
  replace H2 := Lib.hid (H2.out.ch0 hf2)
  clear hf2 b0 b1
  rw [Tm.check_same, ← HCb.out]
  have c0 := H2.out.cell 0 rfl 0 rfl
  have c1 := H2.out.cell 0 rfl 1 rfl
  unfold kW at c0 c1
  have htr := lent_read rfl rfl HPl.out H2.out
  unfold kW at htr
  go_wp2_with fail
  refine (check_c nodes funcs _ _ _ htr HS.out).mono ?_
  rintro e w3 ⟨rfl, hf3⟩
  replace H2 := Lib.hid (H2.out.ch0 hf3)
  clear hf3 c0 c1 htr
  rw [← HCb.out]
  have b0 := H2.out.swap.cell 0 rfl 0 rfl
  have b1 := H2.out.swap.cell 0 rfl 1 rfl
  go_wp2_with fail
  refine (kept_c w3 nodes funcs _ _ x gN cN gF cF vK Ps _ (fun w' lr H => HT.out.fr (fr_of_kp H.kp)) HPl.out H2.out (by omega) (by omega) HK1.out).mono ?_
  rintro e w4 ⟨rfl, hh4⟩
  have H4 := Lib.hid hh4
  clear hh4 H2 b0 b1
  have b0 := H4.out.swap.cell 0 rfl 0 rfl
  have b1 := H4.out.swap.cell 0 rfl 1 rfl
  go_wp2_with fail
  refine (copied_c nodes funcs _ _ _ (HT.out.fr (fr_of_kp H4.out.kp)) (by omega) (by omega) HK1.out).mono ?_
  rintro e w5 ⟨vN, vF, kvu, rfl, hkl, hg⟩
  have hh5 := hg _ _ _ H4.out
  obtain ⟨aN, cN', rfl, hcN, hgN⟩ := hh5.form 0 rfl
  obtain ⟨aF, cF', rfl, hcF, _⟩ := hh5.form 1 rfl
  have H5 := Lib.hid (hh5.alloc [.slice aN nodes.length cN', .slice aF funcs.length cF'] 25)
  have HKl := Lib.hid hkl
  clear hg hh5 H4 hkl b0 b1
  go_upto_region 6 with fail
  obtain ⟨W5, hW5⟩ : ∃ W, W = w5.alloc (.cells #[.slice aN nodes.length cN', .slice aF funcs.length cF'] 25) := ⟨_, rfl⟩
  obtain ⟨bu, hbu⟩ : ∃ bu, bu = w5.heap.size := ⟨_, rfl⟩
  rw [← hW5, ← hbu] at H5 ⊢
  clear hW5 hbu
  have d0 := H5.out.cell 0 rfl 0 rfl
  go_upto_if 27 with fail
  go_cut [] (fun wx => Hs (fun k => k < w.heap.size) w wx (.blk bu 25 [.slice aN nodes.length cN', .slice aF funcs.length cF'] :: (([.row 45 10 (.slice aN nodes.length cN') nodes.length (ndsC ((neg0 nodes).zip kvu)), .row 3 1 (.slice aF funcs.length cF') funcs.length (ints funcs)] ++ kidRows (nodes.zip kvu)) ++ (lres x gN cN gF cF nodes.length funcs.length vK (List.replicate (nodes.length + 2) (n5, .slice none 0 0)) (funcs ++ marksL 5) ((kidsL nodes).map fun l => List.replicate l.length 99) Ps (List.replicate 5 99) ++ [.blk w.heap.size 25 [.slice an nodes.length cn, .slice af funcs.length cf]]))))
  case first =>
    by_cases h0 : 0 < nodes.length
    · have q0 : (0 : Int) < (nodes.length : Int) := by omega
      have q1 : decide ((0 : Int) < (nodes.length : Int)) = true := decide_eq_true q0
      obtain ⟨gN', rfl, _⟩ := hgN h0
      obtain ⟨⟨N0, kv0⟩, hz⟩ : ∃ q, (nodes.zip kvu)[0]? = some q := ⟨_, List.getElem?_eq_getElem (by rw [List.length_zip, HKl.out]; omega)⟩
      have y7 : W5.cell? ⟨gN', 7, none⟩ = _ := H5.out.rcell 1 rfl (g := gN') rfl 7 ((ndsC_get hz 7 (by decide)).trans rfl)
      have z7 := H5.out.rfroz 1 rfl (g := gN') rfl 7
      have hset := H5.out.rset 1 rfl (g := gN') rfl 7 (.int .i64 (-1))
      have hnn : (ndsC (nodes.zip kvu)).set 7 (.int .i64 (-1)) = ndsC ((neg0 nodes).zip kvu) := ndsC_neg0 h0 HKl.out
      rw [hnn] at hset
      have HSet := Lib.hid hset
      clear hset hnn hz hgN
      go_wp2_with fail
      go_meet
      case rel => exact HSet.out
    · have q1 : decide ((0 : Int) < (nodes.length : Int)) = false := decide_eq_false (by omega)
      have hnil : nodes = [] := List.eq_nil_of_length_eq_zero (by omega)
      have hh : ndsC ((neg0 nodes).zip kvu) = ndsC (nodes.zip kvu) := by rw [hnil]; rfl
      rw [← hh] at H5
      clear hh hnil
      go_wp2_with fail
      go_meet
      case rel => exact H5.out
  case rest =>
  have H6 : Hid (Hs (fun k => k < w.heap.size) w wc (lres x gN cN gF cF nodes.length funcs.length vK (List.replicate (nodes.length + 2) (n5, .slice none 0 0)) (funcs ++ marksL 5) ((kidsL nodes).map fun l => List.replicate l.length 99) Ps (List.replicate 5 99) ++ ([.blk w.heap.size 25 [.slice an nodes.length cn, .slice af funcs.length cf]] ++ (.blk bu 25 [.slice aN nodes.length cN', .slice aF funcs.length cF'] :: ([.row 45 10 (.slice aN nodes.length cN') nodes.length (ndsC ((neg0 nodes).zip kvu)), .row 3 1 (.slice aF funcs.length cF') funcs.length (ints funcs)] ++ kidRows (nodes.zip kvu)))))) := Lib.hid (by
    have h1 := hcut
    rw [← List.cons_append] at h1
    have h2 := h1.swap
    rw [List.append_assoc] at h2
    exact h2)
  obtain ⟨W6, rfl⟩ : ∃ W6, W6 = wc := ⟨_, rfl⟩
  have HU := Lib.hid (fun (w' : World) (lr : List Res) (h : Hs (fun k => k < w.heap.size) w w' (lr ++ ([.blk w.heap.size 25 [.slice an nodes.length cn, .slice af funcs.length cf]] ++ (.blk bu 25 [.slice aN nodes.length cN', .slice aF funcs.length cF'] :: ([.row 45 10 (.slice aN nodes.length cN') nodes.length (ndsC ((neg0 nodes).zip kvu)), .row 3 1 (.slice aF funcs.length cF') funcs.length (ints funcs)] ++ kidRows (nodes.zip kvu)))))) =>
    show TreeAt w' (neg0 nodes) funcs (.slice aN nodes.length cN') (.slice aF funcs.length cF') kvu from treeAt_rows (by rw [HKl.out, neg0_len]) h (by
      intro r hr
      rw [kidRows_neg0, neg0_len] at hr
      exact List.mem_append_right _ (List.mem_append_right _ (List.mem_cons_of_mem _ hr))))
  clear hcut H5 d0 hgN
  have e0 := H6.out.swap.cell 1 rfl 0 rfl
  have e1 := H6.out.swap.cell 1 rfl 1 rfl
  go_wp2_with fail
  have hfill := fill_c (A := fun k => k < w.heap.size) (w0 := w) W6 (neg0 nodes) funcs kvu (.slice aN nodes.length cN') (.slice aF funcs.length cF') x gN cN gF cF vK (List.replicate (nodes.length + 2) (n5, .slice none 0 0)) (funcs ++ marksL 5) ((kidsL nodes).map fun l => List.replicate l.length 99) Ps (List.replicate 5 99) _ HU.out (by rw [HPl.out, neg0_len]) (by rw [List.length_replicate, neg0_len]) (by rw [List.length_append, marksL_len]) (by rw [List.length_map, kidsL_len, neg0_len])
    (kids_of_len (by rw [List.map_map, neg0_kids]; exact List.map_congr_left fun l _ => List.length_replicate)).2 rfl (by rw [neg0_len]; exact H6.out) (by rw [neg0_len]; omega) (by omega) HK2.out
  refine hfill.mono ?_
  rintro e w7 ⟨rfl, hh7⟩
  have hd : (funcs ++ marksL 5).drop funcs.length = marksL 5 := by rw [List.drop_append_of_le_length (Nat.le_refl _), List.drop_eq_nil_of_le (Nat.le_refl _), List.nil_append]
  rw [hd] at hh7
  have htr := lent_read rfl rfl (by rw [HPl.out, neg0_len]) hh7
  rw [neg0_kids] at hh7
  rw [neg0_len] at hh7 htr
  have H7 := Lib.hid hh7
  have HD := Lib.hid hd
  have HTr := Lib.hid htr
  have HU7 := Lib.hid (HU.out _ _ hh7)
  clear hh7 hfill H6 e0 e1 hd htr
  have c0 := H7.out.cell 0 rfl 0 rfl
  have c1 := H7.out.cell 0 rfl 1 rfl
  unfold kW at c0 c1
  go_wp2_with fail
  obtain ⟨cu, hcu⟩ : ∃ cu, cu = Tm.check (neg0 nodes) funcs := ⟨_, rfl⟩
  have HCu := Lib.hid hcu
  clear hcu
  refine (check_c (neg0 nodes) funcs _ _ _ (by unfold kW at HTr; exact HTr.out) HS2.out).mono ?_
  rintro e w8 ⟨rfl, hf8⟩
  rw [← HCu.out]
  replace H7 := Lib.hid (H7.out.ch0 hf8)
  clear hf8 c0 c1 HTr
  have b0 := H7.out.swap.cell 0 rfl 0 rfl
  have b1 := H7.out.swap.cell 0 rfl 1 rfl
  go_wp2_with fail
  have hfill := fill_c (A := fun k => k < w.heap.size) (w0 := w) w8 nodes funcs kvs _ _ x gN cN gF cF vK _ _ (kidsL nodes) Ps (List.replicate 5 99) _ (fun w' lr H => treeAt_kp HAt.out H) HPl.out (by rw [List.length_append, nlF_len (by rw [HPl.out, neg0_len]), neg0_len, List.length_drop, List.length_replicate]; omega) (by rw [List.length_append, marksL_len]) (kidsL_len _)
    (kids_of_len rfl).2 rfl H7.out (by omega) (by omega) HK1.out
  refine hfill.mono ?_
  rintro e w9 ⟨rfl, hh9⟩
  rw [HD.out] at hh9
  have htr := lent_read rfl rfl HPl.out hh9
  have H9 := Lib.hid hh9
  have HTr := Lib.hid htr
  clear hh9 hfill H7 b0 b1 htr
  have c0 := H9.out.cell 0 rfl 0 rfl
  have c1 := H9.out.cell 0 rfl 1 rfl
  unfold kW at c0 c1
  go_wp2_with fail
  refine (check_c nodes funcs _ _ _ (by unfold kW at HTr; exact HTr.out) HS.out).mono ?_
  rintro e wA ⟨rfl, hfA⟩
  rw [← HCb.out]
  replace H9 := Lib.hid (H9.out.ch0 hfA)
  have hat := HU.out _ _ H9.out
  have HAu := Lib.hid (hat.rd.fr (Ch.refl _ _).drew)
  have HF := Lib.hid (fr_of_kp H9.out.kp)
  have e0 := H9.out.swap.cell 1 rfl 0 rfl
  have e1 := H9.out.swap.cell 1 rfl 1 rfl
  clear hfA c0 c1 HTr H9 HU hat HAt HT
  go_upto_region 12 with fail
  replace HF := Lib.hid (HF.out.drew)
  have hks : ∀ n ∈ neg0 nodes, n.kids.length ≤ 1000000000 := fun n hm => by have := HK2.out n hm; omega
  have HKs := Lib.hid hks
  clear hks
  have hcs : Tm.refCheck (neg0 nodes) funcs = cu := by rw [Tm.check_same]; exact HCu.out.symm
  have HCs := Lib.hid hcs
  clear hcs
  have q1 : ∀ b : Bool, (errT b == errT b) = true := fun b => beq_self_eq_true _
  go_region_held3 (fun w' => w'.cell? ⟨bu, 0, none⟩ = some (.slice aN nodes.length cN') ∧ w'.cell? ⟨bu, 1, none⟩ = some (.slice aF funcs.length cF')) (go_keep) (first | (go_at_call 18; refine (num_c _ _).mono ?_; rintro e w' ⟨rfl, rfl⟩) | (go_at_call 27; refine (refCheck_c (neg0 nodes) funcs _ _ _ HAu.out HS2.out HKs.out).mono ?_; rintro e w' ⟨rfl, hf⟩; rw [HCs.out]; replace HF := Lib.hid (HF.out.trans hf); replace e0 := fr_cell hf e0; replace e1 := fr_cell hf e1; clear hf))
  go_wp2_with fail
  go_ret
  exact ⟨rfl, HF.out⟩
end Go.Proofs.YtllahgnpjodgmaaDoor

set_option linter.unusedVariables false
namespace Go.Proofs.YtllahgnpjodgmaaDoor
open Go Go.RowKit Mem Pm
set_option maxRecDepth 100000 in
set_option maxHeartbeats 16000000 in
theorem treeCheck_c (nodes : List Nd) (funcs : List Int) (nd fu : Value) (w : World) (h : TreeIn w nodes funcs nd fu) (htab : Tab w) :
    Calls Tryd.prog 3 #[.agg #[nd, fu]] w fun e w' => e = .returned (.bool true) ∧ Fr w w' := by
  obtain ⟨an, cn, rfl, hcn⟩ : ∃ an cn, nd = .slice an nodes.length cn ∧ nodes.length ≤ cn := by obtain ⟨_, _, ⟨a, c, h1, h2, _⟩, _⟩ := h.rd.nds; exact ⟨a, c, h1, h2⟩
  obtain ⟨af, cf, rfl, hcf⟩ : ∃ af cf, fu = .slice af funcs.length cf ∧ funcs.length ≤ cf := by obtain ⟨a, c, h1, h2, _⟩ := h.rd.funcs; exact ⟨a, c, h1, h2⟩
  have HT := Lib.hid h
  have HTab := Lib.hid htab
  have H1 := Lib.hid ((Hs.start w).alloc [.slice an nodes.length cn, .slice af funcs.length cf] 25)
  clear h htab
  go_enter Tryd.func3, Tryd.ntmps3
  go_wp2_with fail
  refine (fits_c nodes funcs _ _ _ (HT.out.rd.fr (fr_of_kp H1.out.kp)) HT.out.nl HT.out.fl HT.out.each).mono ?_
  rintro e w1 ⟨bfit, rfl, hf1, hfit⟩
  replace H1 := Lib.hid (H1.out.ch0 hf1)
  have HFit := Lib.hid hfit
  clear hf1 hfit
  have b0 := H1.out.cell 0 rfl 0 rfl
  have b1 := H1.out.cell 0 rfl 1 rfl
  cases bfit with
  | false =>
    have HF := Lib.hid (fr_of_kp H1.out.kp)
    go_wp2_with fail
    go_ret
    exact ⟨rfl, HF.out⟩
  | true =>
  obtain ⟨z1, z2, z3⟩ := fits_kids (HFit.out rfl)
  have Z3 := Lib.hid z3
  clear z3
  go_wp2_with fail
  refine (alive_c _ (tab_fr HTab.out (fr_of_kp H1.out.kp))).mono ?_
  rintro e w2 ⟨rfl, hf2⟩
  replace H1 := Lib.hid (H1.out.ch0 hf2)
  replace b0 := fr_cell hf2 b0
  replace b1 := fr_cell hf2 b1
  clear hf2
  go_wp2_with fail
  refine (checks_c nodes funcs _ _ _ (HT.out.rd.fr (fr_of_kp H1.out.kp)) z1 z2 (fun n hm => ⟨Z3.out n hm, (HT.out.each n hm).2⟩)).mono ?_
  rintro e w3 ⟨rfl, hf3⟩
  have HF := Lib.hid (fr_of_kp (H1.out.ch0 hf3).kp)
  clear hf3 b0 b1
  go_wp2_with fail
  go_ret
  exact ⟨rfl, HF.out⟩
end Go.Proofs.YtllahgnpjodgmaaDoor
