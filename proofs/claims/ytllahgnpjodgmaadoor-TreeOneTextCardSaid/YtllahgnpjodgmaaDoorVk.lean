/- quernlaw3.TreePlaces, the walk. -/
import Derived.Test.YtllahgnpjodgmaaDoorVf
import Derived.Test.YtllahgnpjodgmaaDoorTm
import Derived.Test.YtllahgnpjodgmaaDoorVa
import Derived.Laws.IdiomStrings
import Derived.Laws.BitsLemmas
set_option linter.unusedVariables false
namespace Go.Proofs.YtllahgnpjodgmaaDoor
open Go Go.RowKit Mem Pm
/-- A place, and its cells. -/
structure Pl where
  node : Int
  at_ : Int
  where_ : Int
  close : Int
  type : Int
def plC (p : Pl) : List Value := [.int .i64 p.node, .int .i64 p.at_, .int .i64 p.where_, .int .i64 p.close, .int .i64 p.type]
def plsC (l : List Pl) : List Value := l.flatMap plC
theorem plsC_get {l : List Pl} {i : Nat} {p : Pl} (h : l[i]? = some p) (j : Nat) (hj : j < 5) : (plsC l)[i * 5 + j]? = (plC p)[j]? := by
  have hlen : ∀ p : Pl, (plC p).length = 5 := fun _ => rfl
  induction l generalizing i with
  | nil => simp at h
  | cons x r ih =>
    unfold plsC at ih ⊢
    rw [List.flatMap_cons]
    cases i with
    | zero => simp at h; subst h; rw [List.getElem?_append_left (by rw [hlen]; omega)]; simp
    | succ i => rw [List.getElem?_append_right (by rw [hlen]; omega), hlen, show (i + 1) * 5 + j - 5 = i * 5 + j by omega]; exact ih (by simpa using h)
/-- A place's cells, read. -/
theorem place_at {w : World} {l : List Pl} {pv : Value} (h : RdS w pv l.length (plsC l)) {i : Nat} (hi : i < l.length) {a : Option Addr} {cap : Nat} (hv : pv = .slice a l.length cap) :
    ∃ g off, a = some ⟨g, off, none⟩ ∧ w.cell? ⟨g, off + i * 5, none⟩ = some (.int .i64 (l[i]).node) ∧ w.cell? ⟨g, off + i * 5 + 1, none⟩ = some (.int .i64 (l[i]).at_) ∧ w.cell? ⟨g, off + i * 5 + 2, none⟩ = some (.int .i64 (l[i]).where_) ∧
      w.cell? ⟨g, off + i * 5 + 3, none⟩ = some (.int .i64 (l[i]).close) ∧ w.cell? ⟨g, off + i * 5 + 4, none⟩ = some (.int .i64 (l[i]).type) := by
  obtain ⟨a', cap', h1, h2, h3⟩ := h
  rw [hv] at h1
  injection h1 with e1 e2 e3
  subst e1
  have hg : l[i]? = some l[i] := List.getElem?_eq_getElem hi
  have hne : plsC l ≠ [] := by
    intro h0
    have := plsC_get hg 0 (by decide)
    rw [h0] at this
    cases this
  obtain ⟨g, off, rfl, hc⟩ := h3 hne
  refine ⟨g, off, rfl, ?_, ?_, ?_, ?_, ?_⟩
  · exact hc (i * 5) _ ((plsC_get hg 0 (by decide)).trans rfl)
  · have := hc (i * 5 + 1) _ ((plsC_get hg 1 (by decide)).trans rfl); rwa [← Nat.add_assoc] at this
  · have := hc (i * 5 + 2) _ ((plsC_get hg 2 (by decide)).trans rfl); rwa [← Nat.add_assoc] at this
  · have := hc (i * 5 + 3) _ ((plsC_get hg 3 (by decide)).trans rfl); rwa [← Nat.add_assoc] at this
  · have := hc (i * 5 + 4) _ ((plsC_get hg 4 (by decide)).trans rfl); rwa [← Nat.add_assoc] at this
theorem ndsC_set1 (m : Nd) (u : Value) (c : Nat) : ∀ (l : List (Nd × Value)) (i : Nat) (x : Nd × Value), l[i]? = some x → (ndC x.1 x.2).set c u = ndC m x.2 → c < 10 → (ndsC l).set (i * 10 + c) u = ndsC (l.set i (m, x.2))
  | [], i, x, h, _, _ => by simp at h
  | y :: l, 0, x, h, hc, hlt => by
    injection h with h
    subst h
    show (ndC y.1 y.2 ++ ndsC l).set (0 * 10 + c) u = ndC m y.2 ++ ndsC l
    rw [Nat.zero_mul, Nat.zero_add, List.set_append_left _ _ hlt, hc]
  | y :: l, i + 1, x, h, hc, hlt => by
    have ih := ndsC_set1 m u c l i x h hc hlt
    show (ndC y.1 y.2 ++ ndsC l).set ((i + 1) * 10 + c) u = ndC y.1 y.2 ++ ndsC (l.set i (m, x.2))
    rw [show (i + 1) * 10 + c = (ndC y.1 y.2).length + (i * 10 + c) by show _ = 10 + _; omega, set_app, ih]
theorem name_len {nodes : List Nd} (h : ∀ n ∈ nodes, n.name.size ≤ 64) (k : Int) : (Tm.nm (Tm.nodeAt nodes k)).length ≤ 64 := by
  unfold Tm.nodeAt
  rcases Nat.lt_or_ge k.toNat nodes.length with hk | hk
  · rw [Tm.getD_get hk]
    have := h _ (List.getElem_mem hk)
    unfold Tm.nm
    rw [Array.length_toList]
    exact this
  · rw [Tm.getD_out hk]
    exact Nat.zero_le _
/-- A tree that fits has no long text. -/
theorem fits_text {nodes : List Nd} {funcs : List Int} (hf : FitsP nodes funcs) (hc : Tm.check nodes funcs = true) (hv : ∀ n ∈ nodes, n.value ≤ 9223372036854775807) : (Tm.print nodes funcs).length ≤ 1000000000 := by
  have hok := Tm.check_iff.1 hc
  have hN := (fits_kids hf).1
  have hg := good_of hok (by omega) hv
  have h1 := Tm.print_len hok (name_len fun n hn => hg.kids.nm n hn) hv
  have h2 := hf.2
  have e : (nodes.filter fun n => n.kind == 3).length = deepN nodes := rfl
  rw [e] at h1
  have h3 : deepN nodes * nodes.length ≤ deepN nodes * (nodes.length + funcs.length + bulk nodes) := Nat.mul_le_mul_left _ (by omega)
  have h4 : (81 + deepN nodes) * (10 * nodes.length) = 810 * nodes.length + 10 * (deepN nodes * nodes.length) := by
    rw [Nat.add_mul]
    have : deepN nodes * (10 * nodes.length) = 10 * (deepN nodes * nodes.length) := by rw [Nat.mul_left_comm]
    rw [this]; omega
  omega
theorem row_string {A : Nat → Prop} {w0 w : World} {rs : List Res} (H : Hs A w0 w rs) (i : Nat) {a : Option Addr} {c : Nat} {T : List UInt8} (hi : rs[i]? = some (.row 5 1 (.slice a T.length c) T.length (bytesC T))) :
    (convert 30 9 (.slice a T.length c)).run Tryd.prog w = .ok (.string ⟨T.toArray⟩) w := by
  have hu : Tryd.prog.underlying 30 = some (.slice 5) := by kernel_rfl
  have h8 : Tryd.prog.underlying 5 = some (.int .u8) := by kernel_rfl
  have hs : Tryd.prog.underlying 9 = some .string := by kernel_rfl
  cases T with
  | nil =>
    rw [show ([] : List UInt8).length = 0 from rfl, run_convert_bytes_string w _ _ _ _ 0 c hu h8 hs]
    cases a <;> simp [Conv.bytesToString, loadCells]
    all_goals rfl
  | cons x T =>
    obtain ⟨g, rfl, hc⟩ := H.rdRow i hi (by simp [bytesC])
    refine run_convert_bytes_back w _ _ _ _ c (x :: T) hu h8 hs fun j hj => ?_
    rw [Addr.add_lit, Nat.zero_add]
    refine hc j _ ?_
    unfold bytesC
    rw [List.getElem?_map, List.getElem?_eq_getElem hj]; rfl
theorem and3 (x : Int) : 0 ≤ bits .and .i64 x 3 ∧ bits .and .i64 x 3 ≤ 3 := by
  have h : ∀ n : Nat, n ≤ 3 → IntKind.i64.wrap (n : Int) = (n : Int) := fun n hn => by rw [IntKind.wrap_i64]; omega
  have h2 : bits .and .i64 x 3 = IntKind.i64.wrap (((BitVec.ofInt 64 x).toNat &&& 3 : Nat) : Int) := rfl
  have h3 : (BitVec.ofInt 64 x).toNat &&& 3 ≤ 3 := Nat.and_le_right
  rw [h2, h _ h3]
  omega
def pRes (bx gN cN n : Nat) (aF : Option Addr) (cF : Nat) (funcs : List Int) (vP : Value) (T : List UInt8) (Z0 Z : List (Nd × Value)) : List Res :=
  .blk bx 25 [.slice (some ⟨gN, 0, none⟩) n cN, .slice aF funcs.length cF] :: .row 5 1 vP T.length (bytesC T) :: .row 45 10 (.slice (some ⟨gN, 0, none⟩) n cN) n (ndsC Z) :: .row 3 1 (.slice aF funcs.length cF) funcs.length (ints funcs) :: kidRows Z0
theorem pl_store {A : Nat → Prop} {w0 w : World} {bx gN cN n : Nat} {aF : Option Addr} {cF : Nat} {funcs : List Int} {vP : Value} {T : List UInt8} {Z0 Z : List (Nd × Value)} (h : Hs A w0 w (pRes bx gN cN n aF cF funcs vP T Z0 Z)) {a : Nat} {N : Nd} {kv : Value} (hz : Z[a]? = some (N, kv)) (m : Nd) (u : Value) (c : Nat) (hc : (ndC N kv).set c u = ndC m kv) (hlt : c < 10) :
    Hs A w0 (w.setCell ⟨gN, a * 10 + c, none⟩ u) (pRes bx gN cN n aF cF funcs vP T Z0 (Z.set a (m, kv))) := by
  have h1 := h.rset 2 rfl (g := gN) rfl (a * 10 + c) u
  rw [ndsC_set1 m u c Z a (N, kv) hz hc hlt] at h1
  exact h1
set_option maxRecDepth 100000 in
set_option maxHeartbeats 16000000 in
theorem treePlaces_c (nodes : List Nd) (funcs : List Int) (nd fu : Value) (l : List Pl) (pv : Value) (w : World) (hin : TreeIn w nodes funcs nd fu) (hp : RdS w pv l.length (plsC l)) (hpl : l.length ≤ 140737488355328) (htab : Tab w) :
    Calls Tryd.prog 6 #[.agg #[nd, fu], pv] w fun e w' => e = .returned (.bool true) ∧ Fr w w' := by
  obtain ⟨h, hn, hf, he, hv⟩ := hin
  obtain ⟨an, cn, rfl, hcn⟩ : ∃ an cn, nd = .slice an nodes.length cn ∧ nodes.length ≤ cn := by obtain ⟨_, _, ⟨a, c, h1, h2, _⟩, _⟩ := h.nds; exact ⟨a, c, h1, h2⟩
  obtain ⟨af, cf, rfl, hcf⟩ : ∃ af cf, fu = .slice af funcs.length cf ∧ funcs.length ≤ cf := by obtain ⟨a, c, h1, h2, _⟩ := h.funcs; exact ⟨a, c, h1, h2⟩
  obtain ⟨ap, cp, rfl, hcp⟩ : ∃ ap cp, pv = .slice ap l.length cp ∧ l.length ≤ cp := by obtain ⟨a, c, h1, h2, _⟩ := hp; exact ⟨a, c, h1, h2⟩
  have HP := Lib.hid hp
  have HT := Lib.hid h
  have HE := Lib.hid he
  have HTab := Lib.hid htab
  have HV := Lib.hid hv
  have H1 := Lib.hid ((Hs.start w).alloc [.slice an nodes.length cn, .slice af funcs.length cf] 25)
  clear h he htab hv hp
  go_enter Tryd.func6, Tryd.ntmps6
  go_wp2_with fail
  refine (fits_c nodes funcs _ _ _ (HT.out.fr (fr_of_kp H1.out.kp)) hn hf HE.out).mono ?_
  rintro e w1 ⟨bfit, rfl, hf1, hfit⟩
  replace H1 := Lib.hid (H1.out.ch0 hf1)
  have HFit := Lib.hid hfit
  clear hf1 hfit
  have b0 := H1.out.cell 0 rfl 0 rfl
  have b1 := H1.out.cell 0 rfl 1 rfl
  cases bfit with
  | false =>
    have HF := Lib.hid (fr_of_kp H1.out.kp)
    go_wp2_with fail
    go_ret
    exact ⟨rfl, HF.out⟩
  | true =>
  by_cases hl1 : l.length ≤ 1000
  case neg =>
    have q1 : decide ((1000 : Int) < (l.length : Int)) = true := decide_eq_true (by omega)
    have HF := Lib.hid (fr_of_kp H1.out.kp)
    go_wp2_with fail
    go_ret
    exact ⟨rfl, HF.out⟩
  have q1 : decide ((1000 : Int) < (l.length : Int)) = false := decide_eq_false (by omega)
  obtain ⟨z1, z2, z3⟩ := fits_kids (HFit.out rfl)
  have Z3 := Lib.hid z3
  have HFt := Lib.hid (HFit.out rfl)
  clear HFit
  have hsm : Small nodes funcs := ⟨by omega, by omega, fun n hm => ⟨by have := z3 n hm; omega, by have := (HE.out n hm).2; omega⟩⟩
  have HSm := Lib.hid hsm
  clear z3 hsm
  go_wp2_with fail
  refine (alive_c _ (tab_fr HTab.out (fr_of_kp H1.out.kp))).mono ?_
  rintro e w2 ⟨rfl, hf2⟩
  replace H1 := Lib.hid (H1.out.ch0 hf2)
  replace b0 := fr_cell hf2 b0
  replace b1 := fr_cell hf2 b1
  clear hf2
  go_wp2_with fail
  refine (print_c nodes funcs _ _ _ (HT.out.fr (fr_of_kp H1.out.kp)) HSm.out (tab_fr HTab.out (fr_of_kp H1.out.kp)) HV.out (by omega) (fun hc => fits_text HFt.out hc HV.out)).mono ?_
  rintro e w3 (⟨hcb, rfl, hf3⟩ | ⟨hcb, vP, rfl, hg3⟩)
  case inl =>
    have HF := Lib.hid (fr_of_kp (H1.out.ch0 hf3).kp)
    replace b0 := fr_cell hf3 b0
    replace b1 := fr_cell hf3 b1
    clear hf3 hcb
    go_wp2_with (first | (go_at_call 18; refine (num_c _ _).mono ?_; rintro e w' ⟨rfl, rfl⟩))
    go_ret
    exact ⟨rfl, HF.out⟩
  have H2 := Lib.hid (hg3 _ _ _ H1.out)
  have HCb := Lib.hid hcb
  clear hg3 hcb H1 b0 b1
  have b0 := H2.out.cell 1 rfl 0 rfl
  have b1 := H2.out.cell 1 rfl 1 rfl
  obtain ⟨aP, cP, rfl, hcP, _⟩ := H2.out.form 0 rfl
  by_cases hn0 : nodes.length = 0
  · have q2 : ((nodes.length : Int) == 0) = true := beq_iff_eq.2 (by omega)
    have HF := Lib.hid (fr_of_kp H2.out.kp)
    clear hn0
    go_wp2_with (first | (go_at_call 18; refine (num_c _ _).mono ?_; rintro e w' ⟨rfl, rfl⟩))
    go_ret
    exact ⟨rfl, HF.out⟩
  have q2 : ((nodes.length : Int) == 0) = false := beq_eq_false_iff_ne.2 (by omega)
  have hn1 : (0 : Int) < (nodes.length : Int) := by omega
  have hn4 : (nodes.length : Int) ≤ 4000000000000000000 := by omega
  go_wp2_with (first | (go_at_call 18; refine (num_c _ _).mono ?_; rintro e w' ⟨rfl, rfl⟩))
  refine (copied_c nodes funcs _ _ _ (HT.out.fr (fr_of_kp H2.out.kp)) (by omega) (by omega) (fun n hm => by have := Z3.out n hm; omega)).mono ?_
  rintro e w4 ⟨vN, vF, kvs, rfl, hkl, hg⟩
  have H3 := Lib.hid ((((hg _ _ _ H2.out).perm List.perm_append_comm).sub (.cons_cons _ (.cons _ (.refl _)))))
  clear hg H2 b0 b1
  obtain ⟨Z, hZ⟩ : ∃ Z, Z = nodes.zip kvs := ⟨_, rfl⟩
  rw [← hZ] at H3
  obtain ⟨aN, cN, rfl, hcN, hgN⟩ := H3.out.form 1 rfl
  obtain ⟨gN, rfl, _⟩ := hgN (by omega)
  obtain ⟨aF, cF, rfl, hcF, _⟩ := H3.out.form 2 rfl
  have hzl : Z.length = nodes.length := by rw [hZ, List.length_zip]; omega
  obtain ⟨bx, hbx⟩ : ∃ bx, bx = w4.heap.size := ⟨_, rfl⟩
  obtain ⟨T, hT⟩ : ∃ T, T = Tm.print nodes funcs := ⟨_, rfl⟩
  rw [← hT] at H3
  rw [← hT] at hcP ⊢
  have H4 : Hid (Hs (fun k => k < w.heap.size) w (w4.alloc (.cells #[.slice (some ⟨gN, 0, none⟩) nodes.length cN, .slice aF funcs.length cF] 25)) (pRes bx gN cN nodes.length aF cF funcs (.slice aP T.length cP) T Z Z)) := Lib.hid (by
    rw [hbx]; exact H3.out.alloc [.slice (some ⟨gN, 0, none⟩) nodes.length cN, .slice aF funcs.length cF] 25)
  have HZ := Lib.hid hZ
  have HZl := Lib.hid hzl
  have HKl := Lib.hid hkl
  have HTx := Lib.hid hT
  clear H3 hZ hzl hkl hT hgN
  go_wp2_with fail
  obtain ⟨W0, hW0⟩ : ∃ W, W = w4.alloc (.cells #[.slice (some ⟨gN, 0, none⟩) nodes.length cN, .slice aF funcs.length cF] 25) := ⟨_, rfl⟩
  rw [← hW0] at H4 ⊢
  rw [← hbx]
  clear hW0 hbx
  go_loopg [9] l.length (fun m v9 wr => ∃ (k : Nat) (Y : List (Nd × Value)), k + m = l.length ∧ v9 = .int .i64 (k : Int) ∧ Y.map Prod.snd = Z.map Prod.snd ∧ (Y.map Prod.fst).map Tm.er = nodes.map Tm.er ∧ (∀ n ∈ Y.map Prod.fst, Tm.fields n = true) ∧ Hs (fun k => k < w.heap.size) w wr (pRes bx gN cN nodes.length aF cF funcs (.slice aP T.length cP) T Z Y))
  case atStart =>
    have hfst : Z.map Prod.fst = nodes := by rw [HZ.out]; exact List.map_fst_zip (by rw [HKl.out]; exact Nat.le_refl _)
    refine ⟨0, Z, by omega, rfl, rfl, by rw [hfst], fun n hn => ?_, H4.out⟩
    rw [hfst] at hn
    exact ((Tm.check_iff.1 HCb.out).each n hn).1
  case round =>
  obtain ⟨k, Y, hk, rfl, hY1, hY2, hY3, hh⟩ := hrel
  have hYl : Y.length = nodes.length := by
    have := congrArg List.length hY1
    rw [List.length_map, List.length_map, HZl.out] at this; exact this
  have HY1 := Lib.hid hY1
  have HY2 := Lib.hid hY2
  have HY3 := Lib.hid hY3
  have Hh := Lib.hid hh
  clear hh H4 hY1 hY2 hY3
  have c0 := Hh.out.cell 0 rfl 0 rfl
  by_cases hlt : k < l.length
  case pos =>
    have hki : (k : Int) < (l.length : Int) := by omega
    have hk0 : (0 : Int) ≤ (k : Int) := by omega
    obtain ⟨pg, po, hap, x0, x1, x2, x3, x4⟩ := place_at (HP.out.fr (fr_of_kp Hh.out.kp)) hlt rfl
    subst hap
    obtain ⟨p, hp⟩ : ∃ p, p = l[k] := ⟨_, rfl⟩
    rw [← hp] at x0 x1 x2 x3 x4
    obtain ⟨ra1, ra2⟩ := slotF_range p.node _ hn1
    obtain ⟨a, ha⟩ : ∃ a : Nat, slotF p.node (nodes.length : Int) = (a : Int) := ⟨(slotF p.node nodes.length).toNat, by omega⟩
    have hal : a < nodes.length := by omega
    have HA := Lib.hid ha
    have HPl := Lib.hid hp
    clear ra1 ra2 ha hp
    have ia0 : (0 : Int) ≤ (a : Int) := by omega
    have iaN : (a : Int) < (nodes.length : Int) := by omega
    obtain ⟨⟨N, kv⟩, hza⟩ : ∃ x, Y[a]? = some x := ⟨_, List.getElem?_eq_getElem (by omega)⟩
    have y0 : wr.cell? ⟨gN, a * 10, none⟩ = _ := Hh.out.rcell 2 rfl (g := gN) rfl _ ((ndsC_get hza 0 (by decide)).trans rfl)
    have y1 := Hh.out.rcell 2 rfl (g := gN) rfl _ ((ndsC_get hza 1 (by decide)).trans rfl)
    have y8 := Hh.out.rcell 2 rfl (g := gN) rfl _ ((ndsC_get hza 8 (by decide)).trans rfl)
    have z1 := Hh.out.rfroz 2 rfl (g := gN) rfl (a * 10 + 1)
    have HZa := Lib.hid hza
    clear hza
    go_wp2_with fail
    refine Reg.wp_region_text (by kernel_rfl) (by kernel_rfl) ?_
    go_wp2_with fail
    refine (slot_c _ _ hn1 hn4 _).mono ?_
    rintro e w' ⟨rfl, rfl⟩
    rw [HA.out]
    go_wp2_with fail
    refine ⟨by kernel_rfl, ?_⟩
    go_wp2_with fail
    refine Reg.wp_region_text (by kernel_rfl) (by kernel_rfl) ?_
    go_wp2_with fail
    refine ⟨by kernel_rfl, ?_⟩
    obtain ⟨W1, hW1⟩ : ∃ W, W = (wr.setCell ⟨gN, a * 10 + 1, none⟩ (.int .i64 p.at_)).drew.drew := ⟨_, rfl⟩
    rw [← hW1]
    obtain ⟨N1, hN1⟩ : ∃ N1, N1 = { N with at_ := p.at_ } := ⟨_, rfl⟩
    have H5 : Hid (Hs (fun k => k < w.heap.size) w W1 (pRes bx gN cN nodes.length aF cF funcs (.slice aP T.length cP) T Z (Y.set a (N1, kv)))) := Lib.hid (by
      rw [hW1, hN1]; exact (pl_store Hh.out HZa.out { N with at_ := p.at_ } _ 1 rfl (by decide)).drew.drew)
    have hza1 : (Y.set a (N1, kv))[a]? = some (N1, kv) := List.getElem?_set_self (by omega)
    clear hW1 Hh c0 x0 x1 x2 x3 x4 y0 y1 y8 z1
    have k1 : N1.kind = N.kind := by rw [hN1]
    have m1 : N1.name = N.name := by rw [hN1]
    have HN1 := Lib.hid hN1
    have HZ1 := Lib.hid hza1
    clear hN1 hza1
    have hsz : N.name.toList = [] ↔ N.name.size = 0 := by
      rw [ByteArray.toList_eq]
      show _ ↔ N.name.data.size = 0
      rw [← Array.length_toList]
      exact List.length_eq_zero_iff.symm
    have HSz := Lib.hid hsz
    clear hsz
    have c0 := H5.out.cell 0 rfl 0 rfl
    have y8 := H5.out.rcell 2 rfl (g := gN) rfl _ ((ndsC_get HZ1.out 8 (by decide)).trans rfl)
    have zz := H5.out.rfroz 2 rfl (g := gN) rfl (a * 10 + 2)
    have yy := H5.out.rcell 2 rfl (g := gN) rfl _ ((ndsC_get HZ1.out 2 (by decide)).trans rfl)
    obtain ⟨xg, xo, hap', x0, x1, x2, x3, x4⟩ := place_at (HP.out.fr (fr_of_kp H5.out.kp)) hlt rfl
    obtain ⟨rfl, rfl⟩ : pg = xg ∧ po = xo := by injection hap' with e; injection e with e1 e2; exact ⟨e1, e2⟩
    rw [← HPl.out] at x2
    clear hap' x0 x1 x3 x4
    obtain ⟨bw, hbw⟩ : ∃ b : Bool, b = decide (N.name.size ≠ 0 ∨ N.kind = 31) := ⟨_, rfl⟩
    have HBw := Lib.hid hbw
    clear hbw
    go_upto_region 14 with fail
    go_cut [96] (fun v96 wx => v96 = .bool bw ∧ wx = W1)
    case first =>
      by_cases hnm : N.name.toList = []
      · by_cases h31 : N.kind = 31
        · go_wp2_with fail
          go_meet
          case rel => exact ⟨by rw [HBw.out, decide_eq_true (.inr h31)], rfl⟩
        · go_wp2_with fail
          go_meet
          case rel => exact ⟨by rw [HBw.out, decide_eq_false (fun h => h.elim (fun h => h (HSz.out.1 hnm)) h31)]; simp [h31], rfl⟩
      · go_wp2_with fail
        go_meet
        case rel => exact ⟨by rw [HBw.out, decide_eq_true (.inl fun h => hnm (HSz.out.2 h))], rfl⟩
    case rest =>
    obtain ⟨rfl, rfl⟩ := hcut
    obtain ⟨W1, rfl⟩ : ∃ W1, W1 = wc := ⟨_, rfl⟩
    go_upto_if 96 with fail
    obtain ⟨u2, hu⟩ : ∃ x, x = if N.name.size ≠ 0 ∨ N.kind = 31 then p.where_ else N.where_ := ⟨_, rfl⟩
    obtain ⟨N2, hN2⟩ : ∃ N2 : Nd, N2 = { N1 with where_ := u2 } := ⟨_, rfl⟩
    have k2 : N2.kind = N.kind := by rw [hN2]; exact k1
    have m2 : N2.name = N.name := by rw [hN2]; exact m1
    have HU2 := Lib.hid hu
    have HN2 := Lib.hid hN2
    have hza2 : (Y.set a (N2, kv))[a]? = some (N2, kv) := List.getElem?_set_self (by omega)
    have HZ2 := Lib.hid hza2
    have SA : Hid (N.name.size ≠ 0 ∨ N.kind = 31 → Hs (fun k => k < w.heap.size) w (W1.setCell ⟨gN, a * 10 + 2, none⟩ (.int .i64 (p.where_))).drew (pRes bx gN cN nodes.length aF cF funcs (.slice aP T.length cP) T Z (Y.set a (N2, kv)))) := Lib.hid (by
      intro hc
      have h1 := (pl_store H5.out HZ1.out N2 (.int .i64 (p.where_)) 2 (by rw [HN2.out, HU2.out, if_pos hc]; rfl) (by decide)).drew
      rw [List.set_set] at h1; exact h1)
    have SB : Hid (¬ (N.name.size ≠ 0 ∨ N.kind = 31) → Hs (fun k => k < w.heap.size) w W1 (pRes bx gN cN nodes.length aF cF funcs (.slice aP T.length cP) T Z (Y.set a (N2, kv)))) := Lib.hid (by
      intro hc
      have e1 : N2 = N1 := by
        rw [HN2.out, HU2.out, if_neg hc]
        have e2 : N.where_ = N1.where_ := by rw [HN1.out]
        rw [e2]
      rw [e1]; exact H5.out)
    clear hu hN2 hza2
    go_cut [] (fun wx => Hs (fun k => k < w.heap.size) w wx (pRes bx gN cN nodes.length aF cF funcs (.slice aP T.length cP) T Z (Y.set a (N2, kv))))
    case first =>
      cases bw with
      | true =>
        have HS := Lib.hid (SA.out (by simpa using HBw.out.symm))
        clear SA SB
        go_wp2_with fail
        refine Reg.wp_region_text (by kernel_rfl) (by kernel_rfl) ?_
        go_wp2_with fail
        refine ⟨by kernel_rfl, ?_⟩
        go_wp2_with fail
        go_meet
        case rel => exact HS.out
      | false =>
        have HS := Lib.hid (SB.out (by simpa using HBw.out.symm))
        clear SA SB
        go_wp2_with fail
        go_meet
        case rel => exact HS.out
    case rest =>
    have H5' := Lib.hid hcut
    clear hcut H5 c0 y8 zz yy x2 SA SB
    have H6 := H5'
    clear H5'
    obtain ⟨W2, rfl⟩ : ∃ W2, W2 = wc := ⟨_, rfl⟩
    have c0 := H6.out.cell 0 rfl 0 rfl
    have y8 := H6.out.rcell 2 rfl (g := gN) rfl _ ((ndsC_get HZ2.out 8 (by decide)).trans rfl)
    have zz := H6.out.rfroz 2 rfl (g := gN) rfl (a * 10 + 3)
    have yy := H6.out.rcell 2 rfl (g := gN) rfl _ ((ndsC_get HZ2.out 3 (by decide)).trans rfl)
    obtain ⟨xg, xo, hap', x0, x1, x2, x3, x4⟩ := place_at (HP.out.fr (fr_of_kp H6.out.kp)) hlt rfl
    obtain ⟨rfl, rfl⟩ : pg = xg ∧ po = xo := by injection hap' with e; injection e with e1 e2; exact ⟨e1, e2⟩
    rw [← HPl.out] at x3
    clear hap' x0 x1 x2 x4
    go_upto_if 108 with fail
    obtain ⟨u3, hu⟩ : ∃ x, x = if N.kind = 1 then p.close else N.close := ⟨_, rfl⟩
    obtain ⟨N3, hN3⟩ : ∃ N3 : Nd, N3 = { N2 with close := u3 } := ⟨_, rfl⟩
    have k3 : N3.kind = N.kind := by rw [hN3]; exact k2
    have m3 : N3.name = N.name := by rw [hN3]; exact m2
    have HU3 := Lib.hid hu
    have HN3 := Lib.hid hN3
    have hza3 : (Y.set a (N3, kv))[a]? = some (N3, kv) := List.getElem?_set_self (by omega)
    have HZ3 := Lib.hid hza3
    have SA : Hid (N.kind = 1 → Hs (fun k => k < w.heap.size) w (W2.setCell ⟨gN, a * 10 + 3, none⟩ (.int .i64 (p.close))).drew (pRes bx gN cN nodes.length aF cF funcs (.slice aP T.length cP) T Z (Y.set a (N3, kv)))) := Lib.hid (by
      intro hc
      have h1 := (pl_store H6.out HZ2.out N3 (.int .i64 (p.close)) 3 (by rw [HN3.out, HU3.out, if_pos hc]; rfl) (by decide)).drew
      rw [List.set_set] at h1; exact h1)
    have SB : Hid (¬ (N.kind = 1) → Hs (fun k => k < w.heap.size) w W2 (pRes bx gN cN nodes.length aF cF funcs (.slice aP T.length cP) T Z (Y.set a (N3, kv)))) := Lib.hid (by
      intro hc
      have e1 : N3 = N2 := by
        rw [HN3.out, HU3.out, if_neg hc]
        have e2 : N.close = N2.close := by rw [HN2.out]; rw [HN1.out]
        rw [e2]
      rw [e1]; exact H6.out)
    clear hu hN3 hza3
    go_cut [] (fun wx => Hs (fun k => k < w.heap.size) w wx (pRes bx gN cN nodes.length aF cF funcs (.slice aP T.length cP) T Z (Y.set a (N3, kv))))
    case first =>
      by_cases h1 : N.kind = 1
      · have HS := Lib.hid (SA.out h1)
        clear SA SB
        go_wp2_with fail
        refine Reg.wp_region_text (by kernel_rfl) (by kernel_rfl) ?_
        go_wp2_with fail
        refine ⟨by kernel_rfl, ?_⟩
        go_wp2_with fail
        go_meet
        case rel => exact HS.out
      · have HS := Lib.hid (SB.out h1)
        clear SA SB
        go_wp2_with fail
        go_meet
        case rel => exact HS.out
    case rest =>
    have H6' := Lib.hid hcut
    clear hcut H6 c0 y8 zz yy x3 SA SB
    have H7 := H6'
    clear H6'
    obtain ⟨W3, rfl⟩ : ∃ W3, W3 = wc := ⟨_, rfl⟩
    have c0 := H7.out.cell 0 rfl 0 rfl
    have y8 := H7.out.rcell 2 rfl (g := gN) rfl _ ((ndsC_get HZ3.out 8 (by decide)).trans rfl)
    have zz := H7.out.rfroz 2 rfl (g := gN) rfl (a * 10 + 5)
    have yy := H7.out.rcell 2 rfl (g := gN) rfl _ ((ndsC_get HZ3.out 5 (by decide)).trans rfl)
    obtain ⟨xg, xo, hap', x0, x1, x2, x3, x4⟩ := place_at (HP.out.fr (fr_of_kp H7.out.kp)) hlt rfl
    obtain ⟨rfl, rfl⟩ : pg = xg ∧ po = xo := by injection hap' with e; injection e with e1 e2; exact ⟨e1, e2⟩
    rw [← HPl.out] at x4
    clear hap' x0 x1 x2 x3
    go_upto_if 120 with fail
    obtain ⟨u4, hu⟩ : ∃ x, x = if 20 ≤ N.kind then bits .and .i64 p.type 3 else N.type := ⟨_, rfl⟩
    obtain ⟨N4, hN4⟩ : ∃ N4 : Nd, N4 = { N3 with type := u4 } := ⟨_, rfl⟩
    have k4 : N4.kind = N.kind := by rw [hN4]; exact k3
    have m4 : N4.name = N.name := by rw [hN4]; exact m3
    have HU4 := Lib.hid hu
    have HN4 := Lib.hid hN4
    have hza4 : (Y.set a (N4, kv))[a]? = some (N4, kv) := List.getElem?_set_self (by omega)
    have HZ4 := Lib.hid hza4
    have SA : Hid (20 ≤ N.kind → Hs (fun k => k < w.heap.size) w (W3.setCell ⟨gN, a * 10 + 5, none⟩ (.int .i64 (bits .and .i64 p.type 3))).drew (pRes bx gN cN nodes.length aF cF funcs (.slice aP T.length cP) T Z (Y.set a (N4, kv)))) := Lib.hid (by
      intro hc
      have h1 := (pl_store H7.out HZ3.out N4 (.int .i64 (bits .and .i64 p.type 3)) 5 (by rw [HN4.out, HU4.out, if_pos hc]; rfl) (by decide)).drew
      rw [List.set_set] at h1; exact h1)
    have SB : Hid (¬ (20 ≤ N.kind) → Hs (fun k => k < w.heap.size) w W3 (pRes bx gN cN nodes.length aF cF funcs (.slice aP T.length cP) T Z (Y.set a (N4, kv)))) := Lib.hid (by
      intro hc
      have e1 : N4 = N3 := by
        rw [HN4.out, HU4.out, if_neg hc]
        have e2 : N.type = N3.type := by rw [HN3.out]; rw [HN2.out]; rw [HN1.out]
        rw [e2]
      rw [e1]; exact H7.out)
    clear hu hN4 hza4
    have hput : N4 = Tm.put1 p.at_ p.where_ p.close (bits .and .i64 p.type 3) N := by
      rw [HN4.out, HU4.out, HN3.out, HU3.out, HN2.out, HU2.out, HN1.out]; rfl
    have hNY : N ∈ Y.map Prod.fst := List.mem_map.2 ⟨(N, kv), List.mem_of_getElem? HZa.out, rfl⟩
    have hN31 : N.kind ≤ 31 := by
      have h1 := Tm.er_kind HY2.out a
      rw [List.getD_eq_getElem?_getD, List.getElem?_map, HZa.out] at h1
      have h2 : N.kind = (nodes.getD a {}).kind := h1
      rw [Tm.getD_get hal] at h2
      rw [h2]
      exact Tm.kids_kind ((Tm.check_iff.1 HCb.out).each _ (List.getElem_mem hal)).2
    have hfst : (Y.set a (N4, kv)).map Prod.fst = (Y.map Prod.fst).set a N4 := by rw [List.map_set]
    have hFin : (Y.set a (N4, kv)).map Prod.snd = Z.map Prod.snd ∧ ((Y.set a (N4, kv)).map Prod.fst).map Tm.er = nodes.map Tm.er ∧ (∀ n ∈ (Y.set a (N4, kv)).map Prod.fst, Tm.fields n = true) := by
      refine ⟨?_, ?_, ?_⟩
      · rw [List.map_set, set_self (by rw [List.getElem?_map, HZa.out]; rfl)]; exact HY1.out
      · rw [hfst, Tm.set_er (n := N) (by rw [List.getElem?_map, HZa.out]; rfl) (by rw [hput, Tm.er_put1])]; exact HY2.out
      · rw [hfst]
        intro n hn
        rcases List.mem_or_eq_of_mem_set hn with h | rfl
        · exact HY3.out n h
        · rw [hput]; exact Tm.fields_put1 (HY3.out N hNY) hN31 (and3 _).1 (and3 _).2
    have HFin := Lib.hid hFin
    clear hput hNY hN31 hfst hFin
    by_cases h20 : 20 ≤ N.kind
    · have HS := Lib.hid (SA.out h20)
      clear SA SB
      go_wp2_with fail
      refine Reg.wp_region_text (by kernel_rfl) (by kernel_rfl) ?_
      go_wp2_with fail
      refine ⟨by kernel_rfl, ?_⟩
      go_wp2_with fail
      go_roundg (gk - 1)
      case measure => omega
      case rel => exact ⟨k + 1, _, by omega, by go_num, HFin.out.1, HFin.out.2.1, HFin.out.2.2, HS.out⟩
    · have HS := Lib.hid (SB.out h20)
      clear SA SB
      go_wp2_with fail
      go_roundg (gk - 1)
      case measure => omega
      case rel => exact ⟨k + 1, _, by omega, by go_num, HFin.out.1, HFin.out.2.1, HFin.out.2.2, HS.out⟩
  case neg =>
    have hki : ¬ (k : Int) < (l.length : Int) := by omega
    obtain ⟨U, hU⟩ : ∃ U, U = Y.map Prod.fst := ⟨_, rfl⟩
    obtain ⟨V, hV⟩ : ∃ V, V = Y.map Prod.snd := ⟨_, rfl⟩
    have hzip : U.zip V = Y := by rw [hU, hV]; exact zip_fst_snd Y
    have hUn : U.length = nodes.length := by rw [hU, List.length_map]; exact hYl
    have hUe : U.map Tm.er = nodes.map Tm.er := by rw [hU]; exact HY2.out
    have hUf : ∀ n ∈ U, Tm.fields n = true := by rw [hU]; exact HY3.out
    have hkids : ∀ i (hi : i < U.length) (hj : i < nodes.length), (U[i]).kids = (nodes[i]).kids := fun i hi hj => by
      have h1 := Tm.er_kids hUe i
      rwa [Tm.getD_get hi, Tm.getD_get hj] at h1
    have hUm : ∀ n ∈ U, ∃ m ∈ nodes, Tm.er n = Tm.er m := by
      intro n hn
      obtain ⟨i, hi, rfl⟩ := List.getElem_of_mem hn
      have h1 := Tm.er_get hUe i
      rw [Tm.getD_get hi, Tm.getD_get (by omega)] at h1
      exact ⟨_, List.getElem_mem (by omega), h1⟩
    have hTR : ∀ wz, Fr wr wz → TreeRd wz U funcs (.slice (some ⟨gN, 0, none⟩) nodes.length cN) (.slice aF funcs.length cF) := by
      intro wz hwz
      refine TreeRd.fr ⟨⟨V, by rw [hU, hV, List.length_map, List.length_map], ?_, ?_⟩, ?_⟩ hwz
      · rw [hzip, hUn]; exact rdS_row Hh.out 2 rfl
      · rw [hzip]
        intro q hq
        obtain ⟨i', hi', rfl⟩ := List.getElem_of_mem hq
        have hi2 : i' < nodes.length := by omega
        have hiz : i' < Z.length := by rw [HZl.out]; exact hi2
        have e1 : (Y[i']).2 = (Z[i']).2 := by
          have h1 := congrArg (fun l => l[i']?) HY1.out
          simp only [List.getElem?_map, List.getElem?_eq_getElem hi', List.getElem?_eq_getElem hiz, Option.map_some, Option.some.injEq] at h1
          exact h1
        have e2 : (Y[i']).1.kids = (Z[i']).1.kids := by
          have h1 := hkids i' (by omega) hi2
          have h2 : U[i']'(by omega) = (Y[i']).1 := by simp [hU]
          have h3 : (Z[i']).1 = nodes[i'] := by simp [HZ.out]
          rw [← h2, h1, h3]
        rw [e1, e2]
        exact rdS_row Hh.out (i' + 4) (kidRows_get (r1 := .row 45 10 (.slice (some ⟨gN, 0, none⟩) nodes.length cN) nodes.length (ndsC Y)) (r2 := .row 3 1 (.slice aF funcs.length cF) funcs.length (ints funcs)) (n := Z[i'].1) (kv := Z[i'].2) (List.getElem?_eq_getElem hiz))
      · exact rdS_row Hh.out 3 rfl
    have hSmU : Small U funcs := by
      refine ⟨by rw [hUn]; omega, by omega, fun n hn => ?_⟩
      obtain ⟨m, hm, hem⟩ := hUm n hn
      have h1 := Z3.out m hm
      have h2 := (HE.out m hm).2
      have e1 : n.kids = m.kids := by have := congrArg Nd.kids hem; exact this
      have e2 : n.name = m.name := by have := congrArg Nd.name hem; exact this
      rw [e1, e2]; exact ⟨by omega, by omega⟩
    have hcU : Tm.check U funcs = true := Tm.places_check hUe hUf HCb.out
    have hpU : Tm.print U funcs = T := by rw [HTx.out]; exact Tm.places_print hUe
    have hvU : ∀ n ∈ U, n.value ≤ 9223372036854775807 := by
      intro n hn
      obtain ⟨m, hm, hem⟩ := hUm n hn
      have e1 : n.value = m.value := by have := congrArg Nd.value hem; exact this
      rw [e1]; exact HV.out m hm
    have hT9 : T.length ≤ 1000000000 := by rw [HTx.out]; exact fits_text HFt.out HCb.out HV.out
    have HTR := Lib.hid hTR
    have HSmU := Lib.hid hSmU
    have HcU := Lib.hid hcU
    have HpU := Lib.hid hpU
    have HvU := Lib.hid hvU
    have hUn5 : U.length ≤ 50000000 := by rw [hUn]; omega
    have c1 := Hh.out.cell 0 rfl 1 rfl
    clear hU hV hzip hUe hUf hkids hUm hTR hSmU hcU hpU hvU hUn
    go_wp2_with fail
    refine (check_c U _ _ _ wr (HTR.out wr (Ch.refl _ _)) HSmU.out).mono ?_
    rintro e w7 ⟨rfl, hf7⟩
    rw [HcU.out]
    have H7 := Lib.hid (Hh.out.ch0 hf7)
    have T7 := Lib.hid (HTR.out w7 hf7)
    replace c0 := fr_cell hf7 c0
    replace c1 := fr_cell hf7 c1
    clear hf7
    go_wp2_with fail
    refine (print_c U _ _ _ w7 T7.out HSmU.out (tab_fr HTab.out (fr_of_kp H7.out.kp)) HvU.out hUn5 (fun h => by rw [HpU.out]; exact hT9)).mono ?_
    rintro e w8 (⟨hno, _⟩ | ⟨_, vQ, rfl, hg8⟩)
    case inl => exact absurd hno (by rw [HcU.out]; simp)
    rw [HpU.out] at hg8
    have H8 := Lib.hid (hg8 _ _ _ H7.out)
    obtain ⟨aQ, cQ, rfl, _, _⟩ := H8.out.form 0 rfl
    have s1 := row_string H8.out 0 rfl
    have s2 := row_string H8.out 2 rfl
    have HF := Lib.hid (fr_of_kp H8.out.kp)
    clear hg8 H7 T7
    go_wp2_with (first | (go_at_call 18; refine (num_c _ _).mono ?_; rintro e w' ⟨rfl, rfl⟩))
    go_ret
    exact ⟨rfl, HF.out⟩
end Go.Proofs.YtllahgnpjodgmaaDoor
