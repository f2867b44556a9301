/- quernlaw3.TreeOrder, the walk. -/
import Derived.Test.YtllahgnpjodgmaaDoorVa
set_option linter.unusedVariables false
namespace Go.Proofs.YtllahgnpjodgmaaDoor
open Go Go.RowKit Mem Pm
/-- Cells one behind another. -/
def setCells (w : World) (g : Nat) : Nat → List Value → World
  | _, [] => w
  | o, u :: us => setCells (w.setCell ⟨g, o, none⟩ u) g (o + 1) us
def setL (xs : List Value) : Nat → List Value → List Value
  | _, [] => xs
  | o, u :: us => setL (xs.set o u) (o + 1) us
theorem Mem.Hs.rsetN {A : Nat → Prop} {w0 : World} {e : TypeId} {size n : Nat} {v : Value} {i g : Nat} (hg : v.ownBlock = some g) : ∀ (us : List Value) (w : World) (rs : List Res) (xs : List Value) (o : Nat), Hs A w0 w rs → rs[i]? = some (.row e size v n xs) →
    Hs A w0 (setCells w g o us) (rs.set i (.row e size v n (setL xs o us)))
  | [], w, rs, xs, o, h, hi => by rw [show rs.set i (.row e size v n (setL xs o [])) = rs from set_self hi]; exact h
  | u :: us, w, rs, xs, o, h, hi => by
    have h1 := h.rset i hi hg o u
    have hl := (List.getElem?_eq_some_iff.1 hi).1
    have h2 := Mem.Hs.rsetN hg us _ _ (xs.set o u) (o + 1) h1 (List.getElem?_set_self hl)
    rw [List.set_set] at h2
    exact h2
theorem set_app {α : Type} (u : α) (B : List α) (o : Nat) : ∀ A : List α, (A ++ B).set (A.length + o) u = A ++ B.set o u
  | [] => by rw [List.nil_append, List.nil_append, List.length_nil, Nat.zero_add]
  | a :: A => by
    show (a :: (A ++ B)).set (A.length + 1 + o) u = a :: (A ++ B.set o u)
    rw [show A.length + 1 + o = (A.length + o) + 1 by omega, List.set_cons_succ, set_app u B o A]
theorem setL_app (A : List Value) : ∀ (us B : List Value) (o : Nat), setL (A ++ B) (A.length + o) us = A ++ setL B o us
  | [], B, o => rfl
  | u :: us, B, o => by
    show setL ((A ++ B).set (A.length + o) u) (A.length + o + 1) us = A ++ setL (B.set o u) (o + 1) us
    rw [set_app]
    exact setL_app A us (B.set o u) (o + 1)
theorem setL_ndsC (n : Nd) (kv : Value) : ∀ (l : List (Nd × Value)) (i : Nat), i < l.length → setL (ndsC l) (i * 10) (ndC n kv) = ndsC (l.set i (n, kv))
  | [], i, h => by simp at h
  | x :: l, 0, _ => by
    show setL (ndC x.1 x.2 ++ ndsC l) 0 (ndC n kv) = ndC n kv ++ ndsC l
    rfl
  | x :: l, i + 1, h => by
    have ih := setL_ndsC n kv l i (by simpa using h)
    show setL (ndC x.1 x.2 ++ ndsC l) ((i + 1) * 10) (ndC n kv) = ndC x.1 x.2 ++ ndsC (l.set i (n, kv))
    rw [← ih, ← setL_app]
    congr 1
    show (i + 1) * 10 = 10 + i * 10
    omega
theorem perm_mid {α : Type} (x y : α) (B C : List α) : (x :: (B ++ y :: C)).Perm (y :: (B ++ x :: C)) :=
  ((List.Perm.cons x List.perm_middle).trans (List.Perm.swap _ _ _)).trans (List.Perm.cons y List.perm_middle.symm)
theorem exch_perm_lt {α : Type} {l : List α} {a b : Nat} {x y : α} (ha : l[a]? = some x) (hb : l[b]? = some y) (hab : a < b) : l.Perm ((l.set a y).set b x) := by
  obtain ⟨A, T, rfl, rfl⟩ : ∃ A T, l = A ++ x :: T ∧ a = A.length := by
    have hl := (List.getElem?_eq_some_iff.1 ha)
    refine ⟨l.take a, l.drop (a + 1), ?_, by rw [List.length_take]; have := hl.1; omega⟩
    have := List.take_append_drop a l
    rw [List.drop_eq_getElem_cons hl.1, hl.2] at this
    exact this.symm
  obtain ⟨c, rfl⟩ : ∃ c, b = A.length + (c + 1) := ⟨b - A.length - 1, by omega⟩
  rw [List.getElem?_append_right (by omega), Nat.add_sub_cancel_left, List.getElem?_cons_succ] at hb
  obtain ⟨B, C, rfl, rfl⟩ : ∃ B C, T = B ++ y :: C ∧ c = B.length := by
    have hl := (List.getElem?_eq_some_iff.1 hb)
    refine ⟨T.take c, T.drop (c + 1), ?_, by rw [List.length_take]; have := hl.1; omega⟩
    have := List.take_append_drop c T
    rw [List.drop_eq_getElem_cons hl.1, hl.2] at this
    exact this.symm
  rw [set_mid, set_app, List.set_cons_succ, set_mid]
  exact List.Perm.append_left A (perm_mid x y B C)
theorem exch_perm {α : Type} {l : List α} {a b : Nat} {x y : α} (ha : l[a]? = some x) (hb : l[b]? = some y) (hab : a ≠ b) : l.Perm ((l.set a y).set b x) := by
  rcases Nat.lt_or_gt_of_ne hab with h | h
  · exact exch_perm_lt ha hb h
  · have := exch_perm_lt hb ha h
    rwa [List.set_comm x y (Ne.symm hab)] at this
theorem fits_kids {nodes : List Nd} {funcs : List Int} (h : FitsP nodes funcs) : nodes.length ≤ 120000 ∧ funcs.length ≤ 120000 ∧ ∀ n ∈ nodes, n.kids.length ≤ 120000 := by
  have h1 := h.1
  refine ⟨by omega, by omega, fun n hn => ?_⟩
  have : n.kids.length ≤ bulk nodes := by
    unfold bulk
    clear h h1
    induction nodes with
    | nil => cases hn
    | cons x l ih =>
      rw [List.map_cons, List.sum_cons]
      rcases List.mem_cons.1 hn with rfl | h
      · omega
      · have := ih h; omega
  omega
theorem kidRows_get {Z : List (Nd × Value)} {i : Nat} {n : Nd} {kv : Value} {r1 r2 : Res} (h : Z[i]? = some (n, kv)) : (r1 :: r2 :: kidRows Z)[i + 2]? = some (.row 3 1 kv n.kids.length (ints n.kids)) := by
  show (kidRows Z)[i]? = _
  unfold kidRows
  rw [List.getElem?_map, h]; rfl
theorem map_step' {α : Type} {l : List α} {k : Nat} (f : α → α) (h : k < l.length) : ((l.take k).map f ++ l.drop k).set k (f l[k]) = (l.take (k + 1)).map f ++ l.drop (k + 1) := by
  have hl : ((l.take k).map f).length = k := by rw [List.length_map, List.length_take]; omega
  have hd : l.drop k = l[k] :: l.drop (k + 1) := List.drop_eq_getElem_cons h
  rw [hd]
  have := set_mid l[k] (f l[k]) (l.drop (k + 1)) ((l.take k).map f)
  rw [hl] at this
  rw [this, List.take_add_one, List.getElem?_eq_getElem h, List.map_append]
  simp
theorem map_mid {α : Type} {l : List α} {k : Nat} (f : α → α) (h : k < l.length) : ((l.take k).map f ++ l.drop k)[k]? = some l[k] := by
  rw [List.getElem?_append_right (by rw [List.length_map, List.length_take]; omega), List.length_map, List.length_take, List.getElem?_drop]
  rw [show k + (k - min k l.length) = k by omega]
  exact List.getElem?_eq_getElem h
/-- A node whose kids are numbered anew. -/
def turnN (i j : Int) (n : Nd) : Nd := { n with kids := n.kids.map (swp i j) }
def turnZ (i j : Int) (x : Nd × Value) : Nd × Value := (turnN i j x.1, x.2)
theorem ndsC_turn (i j : Int) (l : List (Nd × Value)) : ndsC (l.map (turnZ i j)) = ndsC l := by
  unfold ndsC; rw [List.flatMap_map]; rfl
theorem ndsC_app (a b : List (Nd × Value)) : ndsC (a ++ b) = ndsC a ++ ndsC b := by unfold ndsC; rw [List.flatMap_append]
theorem zip_fst_snd {α β : Type} : ∀ l : List (α × β), (l.map Prod.fst).zip (l.map Prod.snd) = l
  | [] => rfl
  | x :: l => by show (x.1, x.2) :: (l.map Prod.fst).zip (l.map Prod.snd) = _; rw [zip_fst_snd l]
/-- What the law asks, on plain data. -/
def OrderLaw : Prop := ∀ (nodes : List Nd) (funcs : List Int) (a b : Nat) (x y : Nd), Tm.check nodes funcs = true → a ≠ b → nodes[a]? = some x → nodes[b]? = some y →
  Tm.check (((nodes.set a y).set b x).map (turnN (a : Int) (b : Int))) (funcs.map (swp (a : Int) (b : Int))) = false
set_option maxRecDepth 100000 in
set_option maxHeartbeats 16000000 in
theorem treeOrder_c (law : OrderLaw) (nodes : List Nd) (funcs : List Int) (nd fu : Value) (i j : Int) (w : World) (h : TreeRd w nodes funcs nd fu) (hn : nodes.length ≤ 140737488355328) (hf : funcs.length ≤ 140737488355328) (he : ∀ n ∈ nodes, n.kids.length ≤ 9000000000000000000 ∧ n.name.size ≤ 9000000000000000000) (htab : Tab w) (hv : ∀ n ∈ nodes, n.value ≤ 9223372036854775807) :
    Calls Tryd.prog 8 #[.agg #[nd, fu], .int .i64 i, .int .i64 j] w fun e w' => e = .returned (.bool true) ∧ Fr w w' := by
  obtain ⟨an, cn, rfl, hcn⟩ : ∃ an cn, nd = .slice an nodes.length cn ∧ nodes.length ≤ cn := by obtain ⟨_, _, ⟨a, c, h1, h2, _⟩, _⟩ := h.nds; exact ⟨a, c, h1, h2⟩
  obtain ⟨af, cf, rfl, hcf⟩ : ∃ af cf, fu = .slice af funcs.length cf ∧ funcs.length ≤ cf := by obtain ⟨a, c, h1, h2, _⟩ := h.funcs; exact ⟨a, c, h1, h2⟩
  have HT := Lib.hid h
  have HE := Lib.hid he
  have HTab := Lib.hid htab
  have HV := Lib.hid hv
  have H1 := Lib.hid ((Hs.start w).alloc [.slice an nodes.length cn, .slice af funcs.length cf] 25)
  clear h he htab hv
  go_enter Tryd.func8, Tryd.ntmps8
  go_wp2_with fail
  refine (fits_c nodes funcs _ _ _ (HT.out.fr (fr_of_kp H1.out.kp)) hn hf HE.out).mono ?_
  rintro e w1 ⟨bfit, rfl, hf1, hfit⟩
  replace H1 := Lib.hid (H1.out.ch0 hf1)
  have HFit := Lib.hid hfit
  clear hf1 hfit
  have b0 := H1.out.cell 0 rfl 0 rfl
  have b1 := H1.out.cell 0 rfl 1 rfl
  cases bfit with
  | false =>
    have HF := Lib.hid (fr_of_kp H1.out.kp)
    go_wp2_with fail
    go_ret
    exact ⟨rfl, HF.out⟩
  | true =>
  by_cases hl2 : nodes.length < 2
  · have q2 : decide ((nodes.length : Int) < 2) = true := decide_eq_true (by omega)
    have HF := Lib.hid (fr_of_kp H1.out.kp)
    go_wp2_with fail
    go_ret
    exact ⟨rfl, HF.out⟩
  have q2 : decide ((nodes.length : Int) < 2) = false := decide_eq_false (by omega)
  obtain ⟨z1, z2, z3⟩ := fits_kids (HFit.out rfl)
  have Z3 := Lib.hid z3
  have Z1 := Lib.hid z1
  have hn0 : (0 : Int) < (nodes.length : Int) := by omega
  have hn4 : (nodes.length : Int) ≤ 4000000000000000000 := by omega
  have hsm : Small nodes funcs := ⟨by omega, by omega, fun n hm => ⟨by have := z3 n hm; omega, by have := (HE.out n hm).2; omega⟩⟩
  have HSm := Lib.hid hsm
  clear z3 hsm
  go_wp2_with fail
  refine (alive_c _ (tab_fr HTab.out (fr_of_kp H1.out.kp))).mono ?_
  rintro e w2 ⟨rfl, hf2⟩
  replace H1 := Lib.hid (H1.out.ch0 hf2)
  replace b0 := fr_cell hf2 b0
  replace b1 := fr_cell hf2 b1
  clear hf2
  go_wp2_with fail
  refine (check_c nodes funcs _ _ _ (HT.out.fr (fr_of_kp H1.out.kp)) HSm.out).mono ?_
  rintro e w3 ⟨rfl, hf3⟩
  replace H1 := Lib.hid (H1.out.ch0 hf3)
  replace b0 := fr_cell hf3 b0
  replace b1 := fr_cell hf3 b1
  clear hf3
  obtain ⟨cb, hcb⟩ : ∃ cb, cb = Tm.check nodes funcs := ⟨_, rfl⟩
  rw [← hcb]
  have HCb := Lib.hid hcb
  clear hcb
  obtain ⟨ra1, ra2⟩ := slotF_range i _ hn0
  obtain ⟨rb1, rb2⟩ := slotF_range j _ hn0
  obtain ⟨a, ha⟩ : ∃ a : Nat, slotF i (nodes.length : Int) = (a : Int) := ⟨(slotF i nodes.length).toNat, by omega⟩
  obtain ⟨b, hb⟩ : ∃ b : Nat, slotF j (nodes.length : Int) = (b : Int) := ⟨(slotF j nodes.length).toNat, by omega⟩
  have hal : a < nodes.length := by omega
  have hbl : b < nodes.length := by omega
  have HA := Lib.hid ha
  have HB := Lib.hid hb
  clear ra1 ra2 rb1 rb2 ha hb
  have e0 : errT true = 0 := rfl
  have e30 : errT false = 30 := rfl
  go_upto_region 7 with (first | (go_at_call 20; refine (slot_c _ _ hn0 hn4 _).mono ?_; rintro e w' ⟨rfl, rfl⟩))
  rw [HA.out, HB.out]
  cases cb with
  | false =>
    have HF := Lib.hid (fr_of_kp H1.out.kp)
    go_wp2_with (first | (go_at_call 18; refine (num_c _ _).mono ?_; rintro e w' ⟨rfl, rfl⟩))
    go_ret
    exact ⟨rfl, HF.out⟩
  | true =>
  by_cases hab : a = b
  · have qab : ((a : Int) == (b : Int)) = true := beq_iff_eq.2 (by omega)
    have HF := Lib.hid (fr_of_kp H1.out.kp)
    clear hab
    go_wp2_with (first | (go_at_call 18; refine (num_c _ _).mono ?_; rintro e w' ⟨rfl, rfl⟩))
    go_ret
    exact ⟨rfl, HF.out⟩
  have qab : ((a : Int) == (b : Int)) = false := beq_eq_false_iff_ne.2 (by omega)
  go_wp2_with (first | (go_at_call 18; refine (num_c _ _).mono ?_; rintro e w' ⟨rfl, rfl⟩))
  refine (copied_c nodes funcs _ _ _ (HT.out.fr (fr_of_kp H1.out.kp)) (by omega) (by omega) (fun n hm => by have := Z3.out n hm; omega)).mono ?_
  rintro e w4 ⟨vN, vF, kvs, rfl, hkl, hg⟩
  have H2 := Lib.hid ((hg _ _ _ H1.out).sub (List.sublist_append_left ([.row 45 10 vN nodes.length (ndsC (nodes.zip kvs)), .row 3 1 vF funcs.length (ints funcs)] ++ kidRows (nodes.zip kvs)) _))
  clear hg H1 b0 b1
  obtain ⟨Z, hZ⟩ : ∃ Z, Z = nodes.zip kvs := ⟨_, rfl⟩
  rw [← hZ] at H2
  obtain ⟨x, hx⟩ : ∃ x, nodes[a]? = some x := ⟨_, List.getElem?_eq_getElem hal⟩
  obtain ⟨y, hy⟩ : ∃ y, nodes[b]? = some y := ⟨_, List.getElem?_eq_getElem hbl⟩
  obtain ⟨ka, hka⟩ : ∃ k, kvs[a]? = some k := ⟨_, List.getElem?_eq_getElem (by omega)⟩
  obtain ⟨kb, hkb⟩ : ∃ k, kvs[b]? = some k := ⟨_, List.getElem?_eq_getElem (by omega)⟩
  have hza : Z[a]? = some (x, ka) := by rw [hZ, List.getElem?_zip_eq_some]; exact ⟨hx, hka⟩
  have hzb : Z[b]? = some (y, kb) := by rw [hZ, List.getElem?_zip_eq_some]; exact ⟨hy, hkb⟩
  have hzl : Z.length = nodes.length := by rw [hZ, List.length_zip]; omega
  obtain ⟨aka, cka, rfl, _, _⟩ := H2.out.form (a + 2) (kidRows_get hza)
  obtain ⟨akb, ckb, rfl, _, _⟩ := H2.out.form (b + 2) (kidRows_get hzb)
  obtain ⟨aN, cN, rfl, hcN, hgN⟩ := H2.out.form 0 rfl
  obtain ⟨gN, rfl, _⟩ := hgN (by omega)
  obtain ⟨aF, cF, rfl, hcF, _⟩ := H2.out.form 1 rfl
  have H3 := Lib.hid ((H2.out.alloc [.slice (some ⟨gN, 0, none⟩) nodes.length cN, .slice aF funcs.length cF] 25).alloc [.int .i64 x.kind, .int .i64 x.at_, .int .i64 x.where_, .int .i64 x.close, .int .i64 x.decl, .int .i64 x.type, .int .i64 x.op, .int .i64 x.value, .string x.name, .slice aka x.kids.length cka] 45)
  have HZa := Lib.hid hza
  have HZb := Lib.hid hzb
  have HZl := Lib.hid hzl
  have p0 : w4.cell? ⟨gN, a * 10, none⟩ = _ := H2.out.rcell 0 rfl (g := gN) rfl _ ((ndsC_get hza 0 (by decide)).trans rfl)
  have p1 := H2.out.rcell 0 rfl (g := gN) rfl _ ((ndsC_get hza 1 (by decide)).trans rfl)
  have p2 := H2.out.rcell 0 rfl (g := gN) rfl _ ((ndsC_get hza 2 (by decide)).trans rfl)
  have p3 := H2.out.rcell 0 rfl (g := gN) rfl _ ((ndsC_get hza 3 (by decide)).trans rfl)
  have p4 := H2.out.rcell 0 rfl (g := gN) rfl _ ((ndsC_get hza 4 (by decide)).trans rfl)
  have p5 := H2.out.rcell 0 rfl (g := gN) rfl _ ((ndsC_get hza 5 (by decide)).trans rfl)
  have p6 := H2.out.rcell 0 rfl (g := gN) rfl _ ((ndsC_get hza 6 (by decide)).trans rfl)
  have p7 := H2.out.rcell 0 rfl (g := gN) rfl _ ((ndsC_get hza 7 (by decide)).trans rfl)
  have p8 := H2.out.rcell 0 rfl (g := gN) rfl _ ((ndsC_get hza 8 (by decide)).trans rfl)
  have p9 := H2.out.rcell 0 rfl (g := gN) rfl _ ((ndsC_get hza 9 (by decide)).trans rfl)
  have hgl := block_lt_of_cell p0
  have iab : (a : Int) < (nodes.length : Int) := by omega
  have ibb : (b : Int) < (nodes.length : Int) := by omega
  have ia0 : (0 : Int) ≤ (a : Int) := by omega
  have ib0 : (0 : Int) ≤ (b : Int) := by omega
  have HZ := Lib.hid hZ
  have HX := Lib.hid hx
  have HY := Lib.hid hy
  have HKl := Lib.hid hkl
  have HAB := Lib.hid hab
  clear H2 hza hzb hzl hx hy hka hkb hkl hgN hZ hab
  go_upto_region 11 with fail
  obtain ⟨W3, hW3⟩ : ∃ W, W = (w4.alloc (.cells #[.slice (some ⟨gN, 0, none⟩) nodes.length cN, .slice aF funcs.length cF] 25)).alloc (.cells #[.int .i64 x.kind, .int .i64 x.at_, .int .i64 x.where_, .int .i64 x.close, .int .i64 x.decl, .int .i64 x.type, .int .i64 x.op, .int .i64 x.value, .string x.name, .slice aka x.kids.length cka] 45) := ⟨_, rfl⟩
  rw [← hW3] at H3 ⊢
  clear hW3 p0 p1 p2 p3 p4 p5 p6 p7 p8 p9
  have h3 := H3.out
  rw [size_alloc'] at h3
  replace H3 := Lib.hid h3
  clear h3
  have q0 : W3.cell? ⟨gN, b * 10, none⟩ = _ := H3.out.rcell 2 rfl (g := gN) rfl _ ((ndsC_get HZb.out 0 (by decide)).trans rfl)
  have q1 := H3.out.rcell 2 rfl (g := gN) rfl _ ((ndsC_get HZb.out 1 (by decide)).trans rfl)
  have q2 := H3.out.rcell 2 rfl (g := gN) rfl _ ((ndsC_get HZb.out 2 (by decide)).trans rfl)
  have q3 := H3.out.rcell 2 rfl (g := gN) rfl _ ((ndsC_get HZb.out 3 (by decide)).trans rfl)
  have q4 := H3.out.rcell 2 rfl (g := gN) rfl _ ((ndsC_get HZb.out 4 (by decide)).trans rfl)
  have q5 := H3.out.rcell 2 rfl (g := gN) rfl _ ((ndsC_get HZb.out 5 (by decide)).trans rfl)
  have q6 := H3.out.rcell 2 rfl (g := gN) rfl _ ((ndsC_get HZb.out 6 (by decide)).trans rfl)
  have q7 := H3.out.rcell 2 rfl (g := gN) rfl _ ((ndsC_get HZb.out 7 (by decide)).trans rfl)
  have q8 := H3.out.rcell 2 rfl (g := gN) rfl _ ((ndsC_get HZb.out 8 (by decide)).trans rfl)
  have q9 := H3.out.rcell 2 rfl (g := gN) rfl _ ((ndsC_get HZb.out 9 (by decide)).trans rfl)
  have c0 := H3.out.cell 1 rfl 0 rfl
  have p0 : W3.cell? ⟨gN, a * 10, none⟩ = _ := H3.out.rcell 2 rfl (g := gN) rfl _ ((ndsC_get HZa.out 0 (by decide)).trans rfl)
  have z0 := H3.out.rfroz 2 rfl (g := gN) rfl (a * 10)
  have p1 := H3.out.rcell 2 rfl (g := gN) rfl _ ((ndsC_get HZa.out 1 (by decide)).trans rfl)
  have z1 := H3.out.rfroz 2 rfl (g := gN) rfl (a * 10 + 1)
  have p2 := H3.out.rcell 2 rfl (g := gN) rfl _ ((ndsC_get HZa.out 2 (by decide)).trans rfl)
  have z2 := H3.out.rfroz 2 rfl (g := gN) rfl (a * 10 + 2)
  have p3 := H3.out.rcell 2 rfl (g := gN) rfl _ ((ndsC_get HZa.out 3 (by decide)).trans rfl)
  have z3 := H3.out.rfroz 2 rfl (g := gN) rfl (a * 10 + 3)
  have p4 := H3.out.rcell 2 rfl (g := gN) rfl _ ((ndsC_get HZa.out 4 (by decide)).trans rfl)
  have z4 := H3.out.rfroz 2 rfl (g := gN) rfl (a * 10 + 4)
  have p5 := H3.out.rcell 2 rfl (g := gN) rfl _ ((ndsC_get HZa.out 5 (by decide)).trans rfl)
  have z5 := H3.out.rfroz 2 rfl (g := gN) rfl (a * 10 + 5)
  have p6 := H3.out.rcell 2 rfl (g := gN) rfl _ ((ndsC_get HZa.out 6 (by decide)).trans rfl)
  have z6 := H3.out.rfroz 2 rfl (g := gN) rfl (a * 10 + 6)
  have p7 := H3.out.rcell 2 rfl (g := gN) rfl _ ((ndsC_get HZa.out 7 (by decide)).trans rfl)
  have z7 := H3.out.rfroz 2 rfl (g := gN) rfl (a * 10 + 7)
  have p8 := H3.out.rcell 2 rfl (g := gN) rfl _ ((ndsC_get HZa.out 8 (by decide)).trans rfl)
  have z8 := H3.out.rfroz 2 rfl (g := gN) rfl (a * 10 + 8)
  have p9 := H3.out.rcell 2 rfl (g := gN) rfl _ ((ndsC_get HZa.out 9 (by decide)).trans rfl)
  have z9 := H3.out.rfroz 2 rfl (g := gN) rfl (a * 10 + 9)
  refine Reg.wp_region_text (by kernel_rfl) (by kernel_rfl) ?_
  go_wp2_with fail
  refine ⟨by kernel_rfl, ?_⟩
  go_upto_region 12 with fail
  obtain ⟨W4, hW4⟩ : ∃ W, W = ((((((((((W3.setCell ⟨gN, a * 10, none⟩ (.int .i64 y.kind)).setCell ⟨gN, a * 10 + 1, none⟩ (.int .i64 y.at_)).setCell ⟨gN, a * 10 + 2, none⟩ (.int .i64 y.where_)).setCell ⟨gN, a * 10 + 3, none⟩ (.int .i64 y.close)).setCell ⟨gN, a * 10 + 4, none⟩ (.int .i64 y.decl)).setCell ⟨gN, a * 10 + 5, none⟩ (.int .i64 y.type)).setCell ⟨gN, a * 10 + 6, none⟩ (.int .i64 y.op)).setCell ⟨gN, a * 10 + 7, none⟩ (.int .i64 y.value)).setCell ⟨gN, a * 10 + 8, none⟩ (.string y.name)).setCell ⟨gN, a * 10 + 9, none⟩ (.slice akb y.kids.length ckb)).drew := ⟨_, rfl⟩
  rw [← hW4]
  have H4 : Hid (Hs (fun k => k < w.heap.size) w W4 (.blk (w4.heap.size + 1) 45 [.int .i64 x.kind, .int .i64 x.at_, .int .i64 x.where_, .int .i64 x.close, .int .i64 x.decl, .int .i64 x.type, .int .i64 x.op, .int .i64 x.value, .string x.name, .slice aka x.kids.length cka] :: .blk w4.heap.size 25 [.slice (some ⟨gN, 0, none⟩) nodes.length cN, .slice aF funcs.length cF] :: .row 45 10 (.slice (some ⟨gN, 0, none⟩) nodes.length cN) nodes.length (ndsC (Z.set a (y, .slice akb y.kids.length ckb))) :: .row 3 1 (.slice aF funcs.length cF) funcs.length (ints funcs) :: kidRows Z)) := Lib.hid (by
    have h := (Mem.Hs.rsetN (i := 2) (g := gN) rfl (ndC y (.slice akb y.kids.length ckb)) W3 _ (ndsC Z) (a * 10) H3.out rfl).drew
    rw [setL_ndsC y (.slice akb y.kids.length ckb) Z a (by rw [HZl.out]; exact hal)] at h
    rw [hW4]
    exact h)
  have hzb2 : (Z.set a (y, .slice akb y.kids.length ckb))[b]? = some (y, .slice akb y.kids.length ckb) := by rw [List.getElem?_set_ne HAB.out]; exact HZb.out
  clear hW4 q0 q1 q2 q3 q4 q5 q6 q7 q8 q9 p0 p1 p2 p3 p4 p5 p6 p7 p8 p9 z0 z1 z2 z3 z4 z5 z6 z7 z8 z9 c0 H3
  have c0 := H4.out.cell 1 rfl 0 rfl
  have d0 := H4.out.cell 0 rfl 0 rfl
  have d1 := H4.out.cell 0 rfl 1 rfl
  have d2 := H4.out.cell 0 rfl 2 rfl
  have d3 := H4.out.cell 0 rfl 3 rfl
  have d4 := H4.out.cell 0 rfl 4 rfl
  have d5 := H4.out.cell 0 rfl 5 rfl
  have d6 := H4.out.cell 0 rfl 6 rfl
  have d7 := H4.out.cell 0 rfl 7 rfl
  have d8 := H4.out.cell 0 rfl 8 rfl
  have d9 := H4.out.cell 0 rfl 9 rfl
  have p0 : W4.cell? ⟨gN, b * 10, none⟩ = _ := H4.out.rcell 2 rfl (g := gN) rfl _ ((ndsC_get hzb2 0 (by decide)).trans rfl)
  have z0 := H4.out.rfroz 2 rfl (g := gN) rfl (b * 10)
  have p1 := H4.out.rcell 2 rfl (g := gN) rfl _ ((ndsC_get hzb2 1 (by decide)).trans rfl)
  have z1 := H4.out.rfroz 2 rfl (g := gN) rfl (b * 10 + 1)
  have p2 := H4.out.rcell 2 rfl (g := gN) rfl _ ((ndsC_get hzb2 2 (by decide)).trans rfl)
  have z2 := H4.out.rfroz 2 rfl (g := gN) rfl (b * 10 + 2)
  have p3 := H4.out.rcell 2 rfl (g := gN) rfl _ ((ndsC_get hzb2 3 (by decide)).trans rfl)
  have z3 := H4.out.rfroz 2 rfl (g := gN) rfl (b * 10 + 3)
  have p4 := H4.out.rcell 2 rfl (g := gN) rfl _ ((ndsC_get hzb2 4 (by decide)).trans rfl)
  have z4 := H4.out.rfroz 2 rfl (g := gN) rfl (b * 10 + 4)
  have p5 := H4.out.rcell 2 rfl (g := gN) rfl _ ((ndsC_get hzb2 5 (by decide)).trans rfl)
  have z5 := H4.out.rfroz 2 rfl (g := gN) rfl (b * 10 + 5)
  have p6 := H4.out.rcell 2 rfl (g := gN) rfl _ ((ndsC_get hzb2 6 (by decide)).trans rfl)
  have z6 := H4.out.rfroz 2 rfl (g := gN) rfl (b * 10 + 6)
  have p7 := H4.out.rcell 2 rfl (g := gN) rfl _ ((ndsC_get hzb2 7 (by decide)).trans rfl)
  have z7 := H4.out.rfroz 2 rfl (g := gN) rfl (b * 10 + 7)
  have p8 := H4.out.rcell 2 rfl (g := gN) rfl _ ((ndsC_get hzb2 8 (by decide)).trans rfl)
  have z8 := H4.out.rfroz 2 rfl (g := gN) rfl (b * 10 + 8)
  have p9 := H4.out.rcell 2 rfl (g := gN) rfl _ ((ndsC_get hzb2 9 (by decide)).trans rfl)
  have z9 := H4.out.rfroz 2 rfl (g := gN) rfl (b * 10 + 9)
  have HZb2 := Lib.hid hzb2
  clear hzb2
  go_upto_region 13 with fail
  obtain ⟨W5, hW5⟩ : ∃ W, W = ((((((((((W4.setCell ⟨gN, b * 10, none⟩ (.int .i64 x.kind)).setCell ⟨gN, b * 10 + 1, none⟩ (.int .i64 x.at_)).setCell ⟨gN, b * 10 + 2, none⟩ (.int .i64 x.where_)).setCell ⟨gN, b * 10 + 3, none⟩ (.int .i64 x.close)).setCell ⟨gN, b * 10 + 4, none⟩ (.int .i64 x.decl)).setCell ⟨gN, b * 10 + 5, none⟩ (.int .i64 x.type)).setCell ⟨gN, b * 10 + 6, none⟩ (.int .i64 x.op)).setCell ⟨gN, b * 10 + 7, none⟩ (.int .i64 x.value)).setCell ⟨gN, b * 10 + 8, none⟩ (.string x.name)).setCell ⟨gN, b * 10 + 9, none⟩ (.slice aka x.kids.length cka)) := ⟨_, rfl⟩
  rw [← hW5]
  obtain ⟨Z2, hZ2⟩ : ∃ Z2, Z2 = (Z.set a (y, .slice akb y.kids.length ckb)).set b (x, .slice aka x.kids.length cka) := ⟨_, rfl⟩
  have H5 : Hid (Hs (fun k => k < w.heap.size) w W5 (.blk (w4.heap.size + 1) 45 [.int .i64 x.kind, .int .i64 x.at_, .int .i64 x.where_, .int .i64 x.close, .int .i64 x.decl, .int .i64 x.type, .int .i64 x.op, .int .i64 x.value, .string x.name, .slice aka x.kids.length cka] :: .blk w4.heap.size 25 [.slice (some ⟨gN, 0, none⟩) nodes.length cN, .slice aF funcs.length cF] :: .row 45 10 (.slice (some ⟨gN, 0, none⟩) nodes.length cN) nodes.length (ndsC Z2) :: .row 3 1 (.slice aF funcs.length cF) funcs.length (ints funcs) :: kidRows Z2)) := Lib.hid (by
    have h := Mem.Hs.rsetN (i := 2) (g := gN) rfl (ndC x (.slice aka x.kids.length cka)) W4 _ _ (b * 10) H4.out rfl
    rw [setL_ndsC x (.slice aka x.kids.length cka) _ b (by rw [List.length_set, HZl.out]; exact hbl), ← hZ2] at h
    rw [hW5]
    have hp : (kidRows Z).Perm (kidRows Z2) := by
      rw [hZ2]; unfold kidRows
      exact (exch_perm HZa.out HZb.out HAB.out).map _
    exact h.perm (.cons _ (.cons _ (.cons _ (.cons _ hp)))))
  have HZ2 := Lib.hid hZ2
  clear hW5 hZ2 H4 c0 d0 p0 z0 d1 p1 z1 d2 p2 z2 d3 p3 z3 d4 p4 z4 d5 p5 z5 d6 p6 z6 d7 p7 z7 d8 p8 z8 d9 p9 z9
  have c1 := H5.out.cell 1 rfl 1 rfl
  have hf9 : funcs.length ≤ 1000000000 := by omega
  go_wp2_with fail
  refine (turn_c W5 _ funcs (.slice aF funcs.length cF) (a : Int) (b : Int) 3 rfl H5.out hf9).mono ?_
  rintro e w6 ⟨rfl, h6⟩
  have H6 : Hid (Hs (fun k => k < w.heap.size) w w6 (.blk (w4.heap.size + 1) 45 [.int .i64 x.kind, .int .i64 x.at_, .int .i64 x.where_, .int .i64 x.close, .int .i64 x.decl, .int .i64 x.type, .int .i64 x.op, .int .i64 x.value, .string x.name, .slice aka x.kids.length cka] :: .blk w4.heap.size 25 [.slice (some ⟨gN, 0, none⟩) nodes.length cN, .slice aF funcs.length cF] :: .row 45 10 (.slice (some ⟨gN, 0, none⟩) nodes.length cN) nodes.length (ndsC Z2) :: .row 3 1 (.slice aF funcs.length cF) funcs.length (ints (funcs.map (swp (a : Int) (b : Int)))) :: kidRows Z2)) := Lib.hid h6
  clear h6 c1 H5
  go_wp2_with fail
  have hl2z : Z2.length = nodes.length := by rw [HZ2.out, List.length_set, List.length_set, HZl.out]
  have hpz : Z.Perm Z2 := by rw [HZ2.out]; exact exch_perm HZa.out HZb.out HAB.out
  have HL2 := Lib.hid hl2z
  have HPz := Lib.hid hpz
  clear hpz hl2z
  go_loopg [11] nodes.length (fun m v11 wr => ∃ k : Nat, k + m = nodes.length ∧ v11 = .int .i64 (k : Int) ∧ Hs (fun k => k < w.heap.size) w wr (.blk (w4.heap.size + 1) 45 [.int .i64 x.kind, .int .i64 x.at_, .int .i64 x.where_, .int .i64 x.close, .int .i64 x.decl, .int .i64 x.type, .int .i64 x.op, .int .i64 x.value, .string x.name, .slice aka x.kids.length cka] :: .blk w4.heap.size 25 [.slice (some ⟨gN, 0, none⟩) nodes.length cN, .slice aF funcs.length cF] :: .row 45 10 (.slice (some ⟨gN, 0, none⟩) nodes.length cN) nodes.length (ndsC Z2) :: .row 3 1 (.slice aF funcs.length cF) funcs.length (ints (funcs.map (swp (a : Int) (b : Int)))) :: kidRows ((Z2.take k).map (turnZ (a : Int) (b : Int)) ++ Z2.drop k)))
  case atStart => exact ⟨0, by omega, rfl, by rw [List.take_zero, List.map_nil, List.nil_append, List.drop_zero]; exact H6.out⟩
  case round =>
  obtain ⟨k, hk, rfl, hh⟩ := hrel
  have Hh := Lib.hid hh
  have c0 := hh.cell 1 rfl 0 rfl
  have c1 := hh.cell 1 rfl 1 rfl
  clear hh H6
  by_cases hlt : k < nodes.length
  case pos =>
    have hki : (k : Int) < (nodes.length : Int) := by omega
    have hk0 : (0 : Int) ≤ (k : Int) := by omega
    have hkz : k < Z2.length := by rw [HL2.out]; exact hlt
    obtain ⟨⟨N, kv⟩, hNk⟩ : ∃ p, p = Z2[k] := ⟨_, rfl⟩
    have hz2k : Z2[k]? = some (N, kv) := by rw [List.getElem?_eq_getElem hkz, hNk]
    have hmid : ((Z2.take k).map (turnZ (a : Int) (b : Int)) ++ Z2.drop k)[k]? = some (N, kv) := by rw [map_mid _ hkz, hNk]
    have hstep := map_step' (turnZ (a : Int) (b : Int)) hkz
    rw [← hNk] at hstep
    have hNm : N ∈ nodes := by
      have h1 : (N, kv) ∈ Z := HPz.out.mem_iff.2 (List.mem_of_getElem? hz2k)
      rw [HZ.out] at h1
      exact (List.of_mem_zip h1).1
    have hNl := Z3.out N hNm
    have x9 := Hh.out.rcell 2 rfl (g := gN) rfl _ ((ndsC_get hz2k 9 (by decide)).trans rfl)
    have hrow : (.blk (w4.heap.size + 1) 45 [.int .i64 x.kind, .int .i64 x.at_, .int .i64 x.where_, .int .i64 x.close, .int .i64 x.decl, .int .i64 x.type, .int .i64 x.op, .int .i64 x.value, .string x.name, .slice aka x.kids.length cka] :: .blk w4.heap.size 25 [.slice (some ⟨gN, 0, none⟩) nodes.length cN, .slice aF funcs.length cF] :: .row 45 10 (.slice (some ⟨gN, 0, none⟩) nodes.length cN) nodes.length (ndsC Z2) :: .row 3 1 (.slice aF funcs.length cF) funcs.length (ints (funcs.map (swp (a : Int) (b : Int)))) :: kidRows ((Z2.take k).map (turnZ (a : Int) (b : Int)) ++ Z2.drop k))[k + 4]? = some (.row 3 1 kv N.kids.length (ints N.kids)) := kidRows_get (r1 := .row 45 10 (.slice (some ⟨gN, 0, none⟩) nodes.length cN) nodes.length (ndsC Z2)) (r2 := .row 3 1 (.slice aF funcs.length cF) funcs.length (ints (funcs.map (swp (a : Int) (b : Int))))) hmid
    have HStep := Lib.hid hstep
    have HRow := Lib.hid hrow
    have hNl9 : N.kids.length ≤ 1000000000 := by omega
    obtain ⟨akv, ckv, rfl, _, _⟩ := Hh.out.form (k + 4) hrow
    clear hstep hrow hmid hz2k hNk hNm
    go_wp2_with fail
    refine (turn_c wr _ N.kids (.slice akv N.kids.length ckv) (a : Int) (b : Int) (k + 4) HRow.out Hh.out hNl9).mono ?_
    rintro e w7 ⟨rfl, h7⟩
    have H7 : Hid (Hs (fun k => k < w.heap.size) w w7 (.blk (w4.heap.size + 1) 45 [.int .i64 x.kind, .int .i64 x.at_, .int .i64 x.where_, .int .i64 x.close, .int .i64 x.decl, .int .i64 x.type, .int .i64 x.op, .int .i64 x.value, .string x.name, .slice aka x.kids.length cka] :: .blk w4.heap.size 25 [.slice (some ⟨gN, 0, none⟩) nodes.length cN, .slice aF funcs.length cF] :: .row 45 10 (.slice (some ⟨gN, 0, none⟩) nodes.length cN) nodes.length (ndsC Z2) :: .row 3 1 (.slice aF funcs.length cF) funcs.length (ints (funcs.map (swp (a : Int) (b : Int)))) :: kidRows ((Z2.take (k + 1)).map (turnZ (a : Int) (b : Int)) ++ Z2.drop (k + 1)))) := Lib.hid (by
      have e1 : (kidRows ((Z2.take k).map (turnZ (a : Int) (b : Int)) ++ Z2.drop k)).set k (.row 3 1 (.slice akv N.kids.length ckv) N.kids.length (ints (N.kids.map (swp (a : Int) (b : Int))))) = kidRows ((Z2.take (k + 1)).map (turnZ (a : Int) (b : Int)) ++ Z2.drop (k + 1)) := by
        rw [← HStep.out]
        unfold kidRows
        rw [List.map_set]
        congr 1
        show _ = Res.row 3 1 _ (N.kids.map (swp (a : Int) (b : Int))).length (ints (N.kids.map (swp (a : Int) (b : Int))))
        rw [List.length_map]; rfl
      rw [← e1]
      exact h7)
    clear h7 Hh
    go_wp2_with fail
    go_roundg (gk - 1)
    case measure => omega
    case rel => exact ⟨k + 1, by omega, by go_num, H7.out⟩
  case neg =>
    have hki : ¬ (k : Int) < (nodes.length : Int) := by omega
    have hkn : Z2.length ≤ k := by rw [HL2.out]; omega
    rw [List.take_of_length_le hkn, List.drop_eq_nil_of_le hkn, List.append_nil] at Hh
    obtain ⟨Z3', hZ3'⟩ : ∃ Z3', Z3' = Z2.map (turnZ (a : Int) (b : Int)) := ⟨_, rfl⟩
    rw [← hZ3'] at Hh
    have hcells : ndsC Z2 = ndsC Z3' := by rw [hZ3', ndsC_turn]
    rw [hcells] at Hh
    obtain ⟨U, hU⟩ : ∃ U, U = Z3'.map Prod.fst := ⟨_, rfl⟩
    obtain ⟨V, hV⟩ : ∃ V, V = Z3'.map Prod.snd := ⟨_, rfl⟩
    have hzip : U.zip V = Z3' := by rw [hU, hV]; exact zip_fst_snd Z3'
    have hUn : U.length = nodes.length := by rw [hU, hZ3', List.length_map, List.length_map, HL2.out]
    have hUf : U = ((nodes.set a y).set b x).map (turnN (a : Int) (b : Int)) := by
      rw [hU, hZ3', List.map_map, HZ2.out]
      have hf : Z.map Prod.fst = nodes := by rw [HZ.out]; exact List.map_fst_zip (by rw [HKl.out]; exact Nat.le_refl _)
      have e1 : ∀ l : List (Nd × Value), l.map (Prod.fst ∘ turnZ (a : Int) (b : Int)) = (l.map Prod.fst).map (turnN (a : Int) (b : Int)) := fun l => by rw [List.map_map]; rfl
      rw [e1]
      congr 1
      rw [List.map_set, List.map_set, hf]
    have hFl : (funcs.map (swp (a : Int) (b : Int))).length = funcs.length := List.length_map _
    have hTR : ∀ wz, Fr wr wz → TreeRd wz U (funcs.map (swp (a : Int) (b : Int))) (.slice (some ⟨gN, 0, none⟩) nodes.length cN) (.slice aF funcs.length cF) := by
      intro wz hwz
      refine TreeRd.fr ⟨⟨V, by rw [hU, hV, List.length_map, List.length_map], ?_, ?_⟩, ?_⟩ hwz
      · rw [hzip, hUn]; exact rdS_row Hh.out 2 rfl
      · rw [hzip]
        intro q hq
        obtain ⟨i', hi', rfl⟩ := List.getElem_of_mem hq
        exact rdS_row Hh.out (i' + 4) (kidRows_get (r1 := .row 45 10 (.slice (some ⟨gN, 0, none⟩) nodes.length cN) nodes.length (ndsC Z3')) (r2 := .row 3 1 (.slice aF funcs.length cF) funcs.length (ints (funcs.map (swp (a : Int) (b : Int))))) (n := Z3'[i'].1) (kv := Z3'[i'].2) (List.getElem?_eq_getElem hi'))
      · rw [hFl]; exact rdS_row Hh.out 3 rfl
    have hUm : ∀ n ∈ U, ∃ m ∈ nodes, n = turnN (a : Int) (b : Int) m := by
      intro n hn
      rw [hUf] at hn
      obtain ⟨m, hm, rfl⟩ := List.mem_map.1 hn
      have hxm : x ∈ nodes := List.mem_of_getElem? HX.out
      have hym : y ∈ nodes := List.mem_of_getElem? HY.out
      refine ⟨m, ?_, rfl⟩
      rcases List.mem_or_eq_of_mem_set hm with h | rfl
      · rcases List.mem_or_eq_of_mem_set h with h | rfl
        · exact h
        · exact hym
      · exact hxm
    have hSmU : Small U (funcs.map (swp (a : Int) (b : Int))) := by
      refine ⟨by rw [hUn]; omega, by rw [hFl]; omega, fun n hn => ?_⟩
      obtain ⟨m, hm, rfl⟩ := hUm n hn
      have h1 := Z3.out m hm
      have h2 := (HE.out m hm).2
      refine ⟨?_, by show m.name.size ≤ _; omega⟩
      show (m.kids.map _).length ≤ _
      rw [List.length_map]; omega
    have hcU : Tm.check U (funcs.map (swp (a : Int) (b : Int))) = false := by
      rw [hUf]
      exact law nodes funcs a b x y HCb.out.symm HAB.out HX.out HY.out
    have hvU : ∀ n ∈ U, n.value ≤ 9223372036854775807 := by
      intro n hn
      obtain ⟨m, hm, rfl⟩ := hUm n hn
      exact HV.out m hm
    have HTR := Lib.hid hTR
    have HSmU := Lib.hid hSmU
    have HcU := Lib.hid hcU
    have HvU := Lib.hid hvU
    have hUn5 : U.length ≤ 50000000 := by rw [hUn]; omega
    clear hcells hU hV hzip hUf hFl hTR hUm hSmU hcU hvU hZ3' hUn
    go_wp2_with fail
    refine (check_c U _ _ _ wr (HTR.out wr (Ch.refl _ _)) HSmU.out).mono ?_
    rintro e w7 ⟨rfl, hf7⟩
    rw [HcU.out]
    have H7 := Lib.hid (Hh.out.ch0 hf7)
    have T7 := Lib.hid (HTR.out w7 hf7)
    replace c0 := fr_cell hf7 c0
    replace c1 := fr_cell hf7 c1
    clear hf7
    go_wp2_with fail
    refine (print_c U _ _ _ w7 T7.out HSmU.out (tab_fr HTab.out (fr_of_kp H7.out.kp)) HvU.out hUn5 (fun h => by rw [HcU.out] at h; cases h)).mono ?_
    rintro e w8 (⟨_, rfl, hf8⟩ | ⟨hno, _⟩)
    case inr => exact absurd hno (by rw [HcU.out]; simp)
    have HF := Lib.hid (fr_of_kp (H7.out.ch0 hf8).kp)
    clear hf8
    go_wp2_with (first | (go_at_call 18; refine (num_c _ _).mono ?_; rintro e w' ⟨rfl, rfl⟩))
    go_ret
    exact ⟨rfl, HF.out⟩
end Go.Proofs.YtllahgnpjodgmaaDoor
