/- tree.Print. -/
import Derived.Test.YtllahgnpjodgmaaDoorUe
import Derived.Test.YtllahgnpjodgmaaDoorTm
import Derived.Lib.AppendStr
set_option linter.unusedVariables false
namespace Go.Proofs.YtllahgnpjodgmaaDoor
open Go Go.RowKit Mem Pm
open Tm (Part)
def bytesC (l : List UInt8) : List Value := l.map fun c => .int .u8 (c.toNat : Int)
theorem bytesC_len (l : List UInt8) : (bytesC l).length = l.length := List.length_map _
theorem bytesC_app (a b : List UInt8) : bytesC (a ++ b) = bytesC a ++ bytesC b := List.map_append
theorem strCells_ba (l : List UInt8) : Lib.strCells (ba l) = bytesC l := by unfold Lib.strCells ba bytesC; rfl
theorem ba_size (l : List UInt8) : (ba l).size = l.length := by unfold ba; show l.toArray.size = _; simp
theorem infoU8 : (Tryd.prog.info? 5).map (fun i => (i.zero, i.size, i.bytes)) = some (some (.int .u8 0), 1, 1) := by kernel_rfl
theorem undStr : Tryd.prog.underlying 9 = some .string := by kernel_rfl
namespace Mem
theorem run_str_at {P : Program} (w : World) (t u ty e : TypeId) (i : TypeInfo) (ht : P.underlying t = some (.slice e)) (hu : P.underlying u = some .string) (hi : P.info? e = some i) (hz : i.zero = some (.int .u8 0))
    (hsize : i.size = 1) (hby : i.bytes = 1) (v : Value) (n : Nat) (xs : List Value) (hown : w.ownsRow 0 e 1 v n xs) (s : ByteArray) (hn : n + s.size ≤ 1000000001) :
    ∃ v' w', (Builtin.append_ #[t, u] ty #[v, .string s]).run P w = .ok v' w' ∧ w'.ownsRow 0 e 1 v' (n + s.size) (xs ++ Lib.strCells s) ∧ w.grownBy w' v.ownBlock ∧
      (v'.ownBlock = v.ownBlock ∨ ∀ g, v'.ownBlock = some g → w.heap.size ≤ g) := by
  obtain ⟨v', w', hr, h2, h3, h4⟩ := Lib.run_append_own_string (P := P) w 0 t u ty e i ht hu hi hz hsize hby v n xs hown s (by unfold maxLen; omega) (by omega) (Nat.zero_le _)
  refine ⟨v', w', hr, h2, h3, ?_⟩
  have hxl : xs.length = n := by simpa using hown.1
  rcases hown.2 with ⟨rfl, rfl⟩ | ⟨g, cap, cur, rfl, hbg, hg, hnc, hcm, hcs, htake⟩
  · by_cases hm : s.size = 0
    · have := h4.2 ⟨rfl, hm⟩
      left; rw [this]
    · have hr2 := run_append_nil_string (P := P) w t u ty e i (.int .u8 0) ht hu hi hz s (by omega) (by omega) (by rw [hby]; omega)
      rw [hr] at hr2
      simp only [Result.ok.injEq] at hr2
      right; intro g hg; rw [hr2.1] at hg
      have : g = w.heap.size := by simpa [Value.ownBlock] using hg.symm
      omega
  · by_cases hroom : n + s.size ≤ cap
    · have hcs' : cur.size = cap := by simpa using hcs
      have hr2 := Lib.run_append_room_string (P := P) w t u ty e i ht hu hi hsize g n cap cur hg s hroom (by omega)
      rw [hr] at hr2
      simp only [Result.ok.injEq] at hr2
      left; rw [hr2.1]; rfl
    · have holds : ∀ j u, xs[j]? = some u → w.cell? ((⟨g, 0, none⟩ : Addr).add j) = some u := hown.cells (g := g) rfl
      have hr2 := Lib.run_append_grow_string (P := P) w t u ty e i (.int .u8 0) ht hu hi hz ⟨g, 0, none⟩ n cap xs (by rw [hsize]; simpa using hxl) holds s (by omega) (by omega) (by rw [hby]; exact growslice_fits (by omega) (by omega))
      rw [hr] at hr2
      simp only [Result.ok.injEq] at hr2
      right; intro g' hg'; rw [hr2.1] at hg'
      have : g' = w.heap.size := by simpa [Value.ownBlock] using hg'.symm
      omega
namespace Hs
variable {A : Nat → Prop} {w0 w : World} {rs : List Res}
/-- A string's bytes are appended to a row of bytes. -/
theorem pushStr {P : Program} {ops : Array Oper} {rest : List Oper} {o : Oper} {a : Act} {Q : Exit → Act → World → Prop} (hgd : o.guard = none) (s x : Operand) (t u : TypeId)
    (ho : o.op = .call { callee := .builtin .append, args := #[s, x], argTypes := #[t, u] })
    (e : TypeId) (inf : TypeInfo) (ht : P.underlying t = some (.slice e)) (hu : P.underlying u = some .string) (hinf : P.info? e = some inf) (hz : inf.zero = some (.int .u8 0))
    (hsize : inf.size = 1) (hby : inf.bytes = 1)
    (i : Nat) (v : Value) (n : Nat) (xs : List Value) (hi : rs[i]? = some (.row e 1 v n xs)) (str : ByteArray)
    (hs : a.eval s = v) (hx : a.eval x = .string str) (hn : n + str.size ≤ 1000000001) (H : Hs A w0 w rs)
    (h : ∀ v' w', Hs A w0 w' (rs.set i (.row e 1 v' (n + str.size) (xs ++ Lib.strCells str))) → wpList P ops Q rest (a.put o.dst v') w') : wpList P ops Q (o :: rest) a w := by
  refine wpList_plain hgd fun K hK => ?_
  have hown := H.get hi
  obtain ⟨v', w', hr, h2, h3, h4⟩ := run_str_at (P := P) w t u o.type e inf ht hu hinf hz hsize hby v n xs hown.1 str hn
  unfold Oper.wp execOp
  simp only [ho, resolve, invoke, builtin, Sem.run_bind, Sem.run_pure, Result.andThen_ok, List.map_toArray, List.map_cons, List.map_nil, hs, hx, hr]
  refine hK _ _ (h v' w' (H.turn hi ((Ch.refl _ _).grown h3 fun g hg => .inl hg) ⟨h2, fun k hk => ?_⟩ h4))
  rcases h4 with h5 | h5
  · rw [h5] at hk; exact hown.2 _ hk
  · intro h6; have := H.alt' _ h6; have := h5 k hk; omega
end Hs
end Mem
open Mem
theorem good_of {nodes : List Nd} {funcs : List Int} (h : Tm.Ok nodes funcs) (hn : nodes.length ≤ 100000000) (hv : ∀ n ∈ nodes, n.value ≤ 9223372036854775807) : Good nodes := by
  refine ⟨⟨hn, fun n hm => ?_, fun n hm k hk => ?_⟩, hv, h.each⟩
  · have hf := (h.each n hm).1
    unfold Tm.fields at hf
    simp only [Bool.and_eq_true] at hf
    have h1 := hf.1.1.1.1.1.2
    cases hnk : Tm.named n.kind with
    | true =>
      rw [hnk, if_pos rfl] at h1
      have hsz : n.name.size = n.name.data.toList.length := by rw [Array.length_toList]; rfl
      rw [hsz]
      revert h1
      generalize n.name.data.toList = l
      intro h1
      unfold isNm at h1
      cases l with
      | nil => exact Nat.zero_le _
      | cons c r =>
        simp only [Bool.and_eq_true, decide_eq_true_eq] at h1
        exact h1.1.1.1
    | false =>
      rw [hnk] at h1
      simp only [Bool.false_eq_true, if_false, List.isEmpty_iff] at h1
      have : n.name.size = n.name.data.toList.length := by rw [Array.length_toList]; rfl
      rw [this, h1]; exact Nat.zero_le _
  · obtain ⟨i, hi, rfl⟩ := List.getElem_of_mem hm
    have := h.low i _ (List.getElem?_eq_getElem hi) k hk
    omega
/-- Between two rounds. -/
def PInv (w wr : World) (nodes : List Nd) (funcs : List Int) (p bt : Nat) (nd fu : Value) (m : Nat) : Prop := ∃ (L : List Part) (O : List UInt8) (todo out : Value), Tm.W nodes L ≤ m ∧ m ≤ 500000000 ∧ (∀ q ∈ L, Tm.POk nodes q) ∧ O ++ Tm.text nodes L = Tm.print nodes funcs ∧
  Hs (fun k => k < w.heap.size) w wr [.blk p 64 [nd, fu, todo, out], .row 67 4 todo L.length (partsC L.reverse), .row 5 1 out O.length (bytesC O), .blk bt 25 [nd, fu]]
set_option maxRecDepth 100000 in
set_option maxHeartbeats 16000000 in
theorem print_c (nodes : List Nd) (funcs : List Int) (nd fu : Value) (w : World) (h : TreeRd w nodes funcs nd fu) (hs : Small nodes funcs) (htab : Tab w) (hv : ∀ n ∈ nodes, n.value ≤ 9223372036854775807) (hN : nodes.length ≤ 50000000)
    (hlen : Tm.check nodes funcs = true → (Tm.print nodes funcs).length ≤ 1000000000) :
    Calls Tryd.prog 15 #[.agg #[nd, fu]] w fun e w' => (Tm.check nodes funcs = false ∧ e = .returned (.tuple #[.slice none 0 0, .int .i64 30]) ∧ Fr w w') ∨
      (Tm.check nodes funcs = true ∧ ∃ v, e = .returned (.tuple #[v, .int .i64 0]) ∧ Gives w w' [.row 5 1 v (Tm.print nodes funcs).length (bytesC (Tm.print nodes funcs))]) := by
  obtain ⟨i0, hi0, hz0, hz1, hz2⟩ := info_parts infoJob
  obtain ⟨i1, hi1, hy0, hy1, hy2⟩ := info_parts infoU8
  obtain ⟨an, cn, rfl, hcn⟩ : ∃ an cn, nd = .slice an nodes.length cn ∧ nodes.length ≤ cn := by obtain ⟨_, _, ⟨a, c, h1, h2, _⟩, _⟩ := h.nds; exact ⟨a, c, h1, h2⟩
  obtain ⟨af, cf, rfl, hcf⟩ : ∃ af cf, fu = .slice af funcs.length cf ∧ funcs.length ≤ cf := by obtain ⟨a, c, h1, h2, _⟩ := h.funcs; exact ⟨a, c, h1, h2⟩
  have HT := Lib.hid h
  have HTab := Lib.hid htab
  have HLen := Lib.hid hlen
  have H1 := Lib.hid ((Hs.start w).alloc [.slice an nodes.length cn, .slice af funcs.length cf] 25)
  have HT1 := Lib.hid (h.fr (fr_of_kp H1.out.kp))
  have HSm := Lib.hid hs
  have HV := Lib.hid hv
  clear h hs htab hlen hv
  go_enter Tryd.func15, Tryd.ntmps15
  go_wp2_with fail
  refine (check_c nodes funcs _ _ _ HT1.out HSm.out).mono ?_
  rintro e w1 ⟨rfl, hf1⟩
  replace H1 := Lib.hid (H1.out.ch0 hf1)
  clear hf1
  have hfl : funcs.length ≤ 9223372036854775807 := HSm.out.fl
  obtain ⟨cb, hcb⟩ : ∃ cb, cb = Tm.check nodes funcs := ⟨_, rfl⟩
  rw [← hcb]
  have HCb := Lib.hid hcb
  clear hcb
  cases cb with
  | false =>
    have HF := Lib.hid (fr_of_kp H1.out.kp)
    have e0 : errT false = 30 := rfl
    go_wp2_with fail
    go_ret2
    exact .inl ⟨HCb.out.symm, rfl, HF.out⟩
  | true =>
    have hok : Tm.Ok nodes funcs := Tm.check_iff.1 HCb.out.symm
    have HOk := Lib.hid hok
    have HG := Lib.hid (good_of hok (by omega) HV.out)
    have hWs := Tm.W_start hok
    have hfl2 := Tm.W_len (nodes := nodes) (funcs.map fun f => Part.k f 0)
    rw [List.length_map] at hfl2
    have hPl := HLen.out HCb.out.symm
    have HPl := Lib.hid hPl
    have HWs := Lib.hid hWs
    have hfl3 : funcs.length ≤ 500000000 := by omega
    have H2 := Lib.hid ((((H1.out.alloc [.slice an nodes.length cn, .slice af funcs.length cf, .slice none 0 0, .slice none 0 0] 64).nil 5 1).nil 67 4).front (l := [.row 67 4 (.slice none 0 0) 0 [], .row 5 1 (.slice none 0 0) 0 []]))
    have b0 := H1.out.cell 0 rfl 0 rfl
    have b1 := H1.out.cell 0 rfl 1 rfl
    have hlt := block_lt_of_cell b0
    have e0 : errT true = 0 := rfl
    clear hok hWs hfl2 hPl H1 HT1
    go_wp2_with fail
    obtain ⟨bt, hbt⟩ : ∃ bt, bt = w.heap.size := ⟨_, rfl⟩
    obtain ⟨p, hp⟩ : ∃ p, p = w1.heap.size := ⟨_, rfl⟩
    rw [← hbt, ← hp]
    have H3 : Hid (PS (fun k => k < w.heap.size) w _ p (.slice an nodes.length cn) (.slice af funcs.length cf) (.slice none 0 0) (((funcs.drop funcs.length).map fun f => Part.k f 0).reverse) [.row 5 1 (.slice none 0 0) 0 [], .blk bt 25 [.slice an nodes.length cn, .slice af funcs.length cf]]) :=
      Lib.hid ⟨.slice none 0 0, by rw [List.drop_length, hbt, hp]; exact H2.out⟩
    clear b0 b1 hlt H2 hbt hp
    go_loopg [6] funcs.length (fun m v6 wr => m ≤ funcs.length ∧ (∃ iv : Int, v6 = .int .i64 iv ∧ iv = (m : Int) - 1) ∧ PS (fun k => k < w.heap.size) w wr p (.slice an nodes.length cn) (.slice af funcs.length cf) (.slice none 0 0) (((funcs.drop m).map fun f => Part.k f 0).reverse) [.row 5 1 (.slice none 0 0) 0 [], .blk bt 25 [.slice an nodes.length cn, .slice af funcs.length cf]])
    case atStart => exact ⟨Nat.le_refl _, ⟨_, rfl, rfl⟩, H3.out⟩
    case round =>
    obtain ⟨hm, ⟨iv, rfl, hiv⟩, td, hh⟩ := hrel
    have b0 := hh.cell 3 rfl 0 rfl
    have b1 := hh.cell 3 rfl 1 rfl
    have HH := Lib.hid hh
    have HFr := Lib.hid (fr_of_kp hh.kp)
    clear hh
    cases gk with
    | succ m =>
      have hiv' : iv = (m : Int) := by omega
      subst hiv'
      have hx : funcs[m]? = some funcs[m] := List.getElem?_eq_getElem (by omega)
      obtain ⟨gf, off, rfl, cx⟩ := rdS_int (HT.out.funcs.fr HFr.out) hx
      have hmi : (m : Int) < (funcs.length : Int) := by omega
      have hm0 : (0 : Int) ≤ (m : Int) := by omega
      have hdr : funcs.drop m = funcs[m] :: funcs.drop (m + 1) := List.drop_eq_getElem_cons (by omega)
      have HDr := Lib.hid hdr
      have hRl : (((funcs.drop (m + 1)).map fun f => Part.k f 0).reverse).length + 6 ≤ 1000000000 := by simp only [List.length_reverse, List.length_map, List.length_drop]; omega
      clear hx hdr hiv
      generalize funcs[m] = f at cx HDr
      go_wp2_with fail
      refine (put_lit _ p _ _ td _ _ _ [.k f 0] _ rfl 1 rfl HH.out hRl (by decide)).mono ?_
      rintro e w2 ⟨rfl, hq⟩
      have HQ := Lib.hid hq
      clear hq
      go_wp2_with fail
      go_roundg m
      case measure => omega
      case rel =>
        refine ⟨by omega, ⟨_, rfl, by omega⟩, ?_⟩
        rw [HDr.out, List.map_cons, List.reverse_cons]
        exact HQ.out
    | zero =>
      have hiv' : iv = -1 := by omega
      subst hiv'
      rw [List.drop_zero] at HH
      have HH2 : Hid (Hs (fun k => k < w.heap.size) w wr (.blk p 64 [.slice an nodes.length cn, .slice af funcs.length cf, td, .slice none 0 0] :: .row 67 4 td (funcs.map fun f => Part.k f 0).length (partsC (funcs.map fun f => Part.k f 0).reverse) :: [.row 5 1 (.slice none 0 0) 0 [], .blk bt 25 [.slice an nodes.length cn, .slice af funcs.length cf]])) :=
        Lib.hid (by have h := HH.out; rw [List.length_reverse] at h; exact h)
      clear hiv b0 b1 HH HFr
      go_wp2_with fail
      have hI0 : PInv w wr nodes funcs p bt (.slice an nodes.length cn) (.slice af funcs.length cf) (Tm.W nodes (funcs.map fun f => Part.k f 0)) :=
        ⟨_, [], td, .slice none 0 0, Nat.le_refl _, by have := HWs.out; omega, Tm.pok_start HOk.out, rfl, HH2.out⟩
      have HI0 := Lib.hid hI0
      clear HH2 hI0
      go_loopg [] (Tm.W nodes (funcs.map fun f => Part.k f 0)) (fun m wx => PInv w wx nodes funcs p bt (.slice an nodes.length cn) (.slice af funcs.length cf) m)
      case atStart => exact HI0.out
      case round =>
      obtain ⟨L, O, todo, out, hW, hm5, hP, hT, hh⟩ := hrel
      have b2 := hh.cell 0 rfl 2 rfl
      have b3 := hh.cell 0 rfl 3 rfl
      have hz2 := hh.froz 0 rfl 2
      have hz3 := hh.froz 0 rfl 3
      have b0 := hh.cell 3 rfl 0 rfl
      have hp := block_lt_of_cell b2
      have hb := block_lt_of_cell b0
      cases L with
      | nil =>
        obtain ⟨a1, c1, rfl, _, _⟩ := hh.form 1 rfl
        have HH := Lib.hid hh
        have HTt := Lib.hid hT
        have hno : ¬ ((0 : Int) < (([] : List Part).length : Int)) := by decide
        clear hh hW hP hT
        go_wp2_with fail
        go_ret2
        refine .inr ⟨HCb.out.symm, out, rfl, gives_of ?_⟩
        have h := HTt.out
        rw [← h]
        show Hs _ _ _ [.row 5 1 out (O ++ []).length (bytesC (O ++ []))]
        rw [List.append_nil]
        exact HH.out.tail.tail.sub (List.singleton_sublist.2 (List.mem_cons_self ..))
      | cons pt L' =>
        have hxp : (pt :: L').reverse[L'.length]? = some pt := by rw [List.reverse_cons, List.getElem?_append_right (by simp)]; simp
        obtain ⟨K, hK⟩ : ∃ K, K = L'.length := ⟨_, rfl⟩
        rw [← hK] at hxp
        have hne : partsC (pt :: L').reverse ≠ [] := fun h => by have := partsC_get hxp 0 (by omega); rw [h] at this; cases this
        obtain ⟨a1, c1, rfl, hc1, _⟩ := hh.form 1 rfl
        obtain ⟨g, rfl, hg⟩ := hh.rdRow 1 rfl hne
        have c0 : wr.cell? ⟨g, K * 4, none⟩ = _ := hg _ _ ((partsC_get hxp 0 (by omega)).trans rfl)
        have c1' := hg _ _ ((partsC_get hxp 1 (by omega)).trans rfl)
        have c2 := hg _ _ ((partsC_get hxp 2 (by omega)).trans rfl)
        have c3 := hg _ _ ((partsC_get hxp 3 (by omega)).trans rfl)
        obtain ⟨M, hM⟩ : ∃ M, M = (pt :: L').length := ⟨_, rfl⟩
        have hM1 : M = K + 1 := by rw [hM, hK]; rfl
        have hWl := Tm.W_len (nodes := nodes) (pt :: L')
        have m1 : (M : Int) - 1 = (K : Int) := by omega
        have m2 : (0 : Int) < (M : Int) := by omega
        have m3 : (K : Int) < (M : Int) := by omega
        have m4 : (0 : Int) ≤ (K : Int) := by omega
        have m5 : (K : Int) ≤ (c1 : Int) := by rw [← hM] at hc1; omega
        have m6 : (M : Int) ≤ 500000000 := by rw [← hM] at hWl; omega
        rw [← hM] at b2 hh
        have HH := Lib.hid hh
        have HTt := Lib.hid hT
        have HPp := Lib.hid hP
        have HW := Lib.hid hW
        have HK := Lib.hid hK
        have HM := Lib.hid hM1
        clear hh hW hP hT hxp hK hne hg hM hM1 hWl hc1
        go_upto_region 10 with fail
        refine Reg.wp_region_text (by kernel_rfl) (by kernel_rfl) ?_
        go_wp2_with fail
        refine ⟨by kernel_rfl, ?_⟩
        go_upto_region 11 with fail
        refine Reg.wp_region_text (by kernel_rfl) (by kernel_rfl) ?_
        go_wp2_with fail
        refine ⟨by kernel_rfl, ?_⟩
        obtain ⟨gj, hgj⟩ : ∃ gj, gj = wr.heap.size := ⟨_, rfl⟩
        have hKM : K ≤ M := by have := HM.out; omega
        have htk : (partsC (pt :: L').reverse).take (K * 4) = partsC L'.reverse := by
          rw [List.reverse_cons, partsC_app, HK.out, ← List.length_reverse, ← partsC_len]; exact List.take_left
        obtain ⟨W3, hW3⟩ : ∃ W3, W3 = ((wr.setCell ⟨p, 2, none⟩ (.slice (some ⟨g, 0, none⟩) K c1)).alloc (.cells #[.string pt.tx, .bool pt.isL, .int .i64 pt.num, .int .i64 pt.tabs] 67)).drew.drew := ⟨_, rfl⟩
        rw [← hW3]
        have H4 : Hid (Hs (fun k => k < w.heap.size) w W3 [.blk gj 67 [.string pt.tx, .bool pt.isL, .int .i64 pt.num, .int .i64 pt.tabs], .blk p 64 [.slice an nodes.length cn, .slice af funcs.length cf, (.slice (some ⟨g, 0, none⟩) K c1), out], .row 67 4 ((.slice (some ⟨g, 0, none⟩) K c1)) L'.length (partsC L'.reverse), .row 5 1 (out) (O.length) (bytesC O), .blk bt 25 [.slice an nodes.length cn, .slice af funcs.length cf]]) := Lib.hid (by
          have h := (((HH.out.set_ 0 rfl 2 (.slice (some ⟨g, 0, none⟩) K c1)).cut 1 rfl (k := K) hKM).alloc [.string pt.tx, .bool pt.isL, .int .i64 pt.num, .int .i64 pt.tabs] 67).drew.drew
          simp only [List.set_cons_succ, List.set_cons_zero] at h
          rw [htk, size_setCell, ← hgj, HK.out] at h
          rw [HK.out, hW3, HK.out]
          exact h)
        rw [← hgj]
        clear hW3
        have d0 := H4.out.cell 0 rfl 0 rfl
        have d1 := H4.out.cell 0 rfl 1 rfl
        have d2 := H4.out.cell 0 rfl 2 rfl
        have d3 := H4.out.cell 0 rfl 3 rfl
        have b3' := H4.out.cell 1 rfl 3 rfl
        have hz3' := H4.out.froz 1 rfl 3
        have b0' := H4.out.cell 4 rfl 0 rfl
        have hnj : gj ≠ p := by have := H4.out.ne (i := 0) (j := 1) rfl rfl (by decide); intro h; exact this gj rfl (by rw [h]; rfl)
        have hbp : bt ≠ p := by have := H4.out.ne (i := 4) (j := 1) rfl rfl (by decide); intro h; exact this bt rfl (by rw [h]; rfl)
        have hgjl := block_lt_of_cell d0
        have hpl := block_lt_of_cell b3'
        clear hgj hKM htk HH b2 b3 hz2 hz3 b0 hp hb c0 c1' c2 c3
        have hpt := HPp.out pt (List.mem_cons_self ..)
        have HPt := Lib.hid hpt
        clear hpt
        obtain ⟨ko, rfl⟩ : ∃ ko : Nat, ko = gk := ⟨_, rfl⟩
        cases pt with
        | ln x =>
          have hbx : (O ++ Tm.text nodes (Part.ln x :: L')).length ≤ 1000000000 := by rw [HTt.out]; exact HPl.out
          have hbx2 : O.length + 1 + x ≤ 1000000000 := by
            have e : Tm.text nodes (Part.ln x :: L') = (10 :: List.replicate x 9) ++ Tm.text nodes L' := rfl
            rw [e, List.length_append, List.length_append, List.length_cons, List.length_replicate] at hbx
            omega
          have hOb : O.length ≤ 1000000000 := by omega
          have hx0 : (x : Int) ≤ 1000000000 := by omega
          replace d1 : W3.cell? ⟨gj, 1, none⟩ = some (.bool true) := d1
          replace d3 : W3.cell? ⟨gj, 3, none⟩ = some (.int .i64 (x : Int)) := d3
          have HBx := Lib.hid hbx2
          clear hbx d0 d2 hbx2 d3
          go_wp2_with (at_builtin; go_must (refine Hs.push rfl _ _ 30 rfl 5 i1 _ 1 1 (by kernel_rfl) hi1 hy0 hy1 hy2 rfl (Nat.succ_pos _) (Nat.le_of_ble_eq_true rfl) 4 _ (O.length) (bytesC O) rfl 0 _ [.int .u8 10] rfl rfl rfl rfl rfl hOb (H4.out.alloc [.int .u8 10] 5) ?_))
          intro v1 w5 hh1
          obtain ⟨a5, c5, rfl, _, _⟩ := hh1.form 4 rfl
          have e3 := hh1.cell 2 rfl 3 rfl
          have f3 := hh1.froz 2 rfl 3
          have d3 := hh1.cell 1 rfl 3 rfl
          replace d3 : w5.cell? ⟨gj, 3, none⟩ = some (.int .i64 (x : Int)) := d3
          have H5 := Lib.hid (hh1.tail.set_ 1 rfl 3 (.slice a5 (O.length + 1) c5))
          clear hh1 H4 b3' hz3' b0' d1
          go_wp2_with fail
          have H6 : Hid (Hs (fun k => k < w.heap.size) w _ [.blk gj 67 [.string (Part.ln x).tx, .bool (Part.ln x).isL, .int .i64 (Part.ln x).num, .int .i64 (Part.ln x).tabs], .blk p 64 [.slice an nodes.length cn, .slice af funcs.length cf, (.slice (some ⟨g, 0, none⟩) K c1), .slice a5 (O.length + 1) c5], .row 67 4 ((.slice (some ⟨g, 0, none⟩) K c1)) L'.length (partsC L'.reverse), .row 5 1 (.slice a5 (O.length + 1) c5) (O.length + 1 + 0) (bytesC (O ++ 10 :: List.replicate 0 9)), .blk bt 25 [.slice an nodes.length cn, .slice af funcs.length cf]]) := Lib.hid (by
            rw [bytesC_app]; exact H5.out)
          clear H5 e3 f3
          go_loopg [89] x (fun m v89 wx => ∃ (i : Nat) (out2 : Value), i + m = x ∧ v89 = .int .i64 (i : Int) ∧ Hs (fun k => k < w.heap.size) w wx [.blk gj 67 [.string (Part.ln x).tx, .bool (Part.ln x).isL, .int .i64 (Part.ln x).num, .int .i64 (Part.ln x).tabs], .blk p 64 [.slice an nodes.length cn, .slice af funcs.length cf, (.slice (some ⟨g, 0, none⟩) K c1), out2], .row 67 4 ((.slice (some ⟨g, 0, none⟩) K c1)) L'.length (partsC L'.reverse), .row 5 1 (out2) (O.length + 1 + i) (bytesC (O ++ 10 :: List.replicate i 9)), .blk bt 25 [.slice an nodes.length cn, .slice af funcs.length cf]])
          case atStart => exact ⟨0, _, by omega, rfl, H6.out⟩
          case round =>
          obtain ⟨i, out2, hi, rfl, hh⟩ := hrel
          have H7 := Lib.hid hh
          have b3' := hh.cell 1 rfl 3 rfl
          have hpl := block_lt_of_cell b3'
          clear hh H6
          by_cases hix : i < x
          case pos =>
            have hix1 : (i : Int) < (x : Int) := by omega
            have hO2 : O.length + 1 + i ≤ 1000000000 := by have := HBx.out; omega
            go_wp2_with (at_builtin; go_must (refine Hs.push rfl _ _ 30 rfl 5 i1 _ 1 1 (by kernel_rfl) hi1 hy0 hy1 hy2 rfl (Nat.succ_pos _) (Nat.le_of_ble_eq_true rfl) 4 _ (O.length + 1 + i) (bytesC (O ++ 10 :: List.replicate i 9)) rfl 0 _ [.int .u8 9] rfl rfl rfl rfl rfl hO2 (H7.out.alloc [.int .u8 9] 5) ?_))
            intro v2 w6 hh2
            obtain ⟨a6, c6, rfl, _, _⟩ := hh2.form 4 rfl
            have e3 := hh2.cell 2 rfl 3 rfl
            have f3 := hh2.froz 2 rfl 3
            have H8 := Lib.hid (hh2.tail.set_ 1 rfl 3 (.slice a6 (O.length + 1 + i + 1) c6))
            clear hh2 H7 b3'
            go_wp2_with fail
            go_roundg (gk - 1)
            case measure => omega
            case rel =>
              refine ⟨i + 1, .slice a6 (O.length + 1 + i + 1) c6, by omega, by go_num, ?_⟩
              have h := H8.out
              have e : bytesC (O ++ 10 :: List.replicate (i + 1) 9) = bytesC (O ++ 10 :: List.replicate i 9) ++ [.int .u8 9] := by
                rw [show O ++ 10 :: List.replicate (i + 1) 9 = (O ++ 10 :: List.replicate i 9) ++ [9] by rw [List.replicate_succ']; simp, bytesC_app]; rfl
              rw [e]
              exact h
          case neg =>
            have hix1 : ¬ (i : Int) < (x : Int) := by omega
            have hix2 : i = x := by omega
            have HIx := Lib.hid hix2
            clear hix2
            go_wp2_with fail
            go_roundg (ko - 1)
            case measure => have := HW.out; have := Tm.W_len (nodes := nodes) (Part.ln x :: L'); simp only [List.length_cons] at this; omega
            case rel =>
              refine ⟨L', O ++ 10 :: List.replicate x 9, (.slice (some ⟨g, 0, none⟩) K c1), out2, ?_, by omega, fun q hq => HPp.out q (List.mem_cons_of_mem _ hq), ?_, ?_⟩
              · have h := HW.out
                have e : Tm.W nodes (Part.ln x :: L') = 1 + Tm.W nodes L' := rfl
                omega
              · rw [← HTt.out]
                have e : Tm.text nodes (Part.ln x :: L') = (10 :: List.replicate x 9) ++ Tm.text nodes L' := rfl
                rw [e, List.append_assoc]
              · have h := H7.out.tail
                rw [HIx.out] at h
                have e : (O ++ 10 :: List.replicate x 9).length = O.length + 1 + x := by rw [List.length_append, List.length_cons, List.length_replicate]; omega
                rw [e]
                exact h
        | s l =>
          have hbx : (O ++ Tm.text nodes (Part.s l :: L')).length ≤ 1000000000 := by rw [HTt.out]; exact HPl.out
          have hbx2 : O.length + (ba l).size ≤ 1000000001 := by
            have e : Tm.text nodes (Part.s l :: L') = l ++ Tm.text nodes L' := rfl
            rw [e, List.length_append, List.length_append] at hbx
            rw [ba_size]
            omega
          have hne : (ba l).toList.isEmpty = false := by
            have h0 : l ≠ [] := HPt.out
            rw [ByteArray.toList_eq]
            cases l with
            | nil => exact absurd rfl h0
            | cons c r => rfl
          replace d0 : W3.cell? ⟨gj, 0, none⟩ = some (.string (ba l)) := d0
          replace d1 : W3.cell? ⟨gj, 1, none⟩ = some (.bool false) := d1
          clear hbx d2 d3
          go_upto_region 20 with fail
          refine Reg.wp_region_text (by kernel_rfl) (by kernel_rfl) ?_
          go_wp2_with (at_builtin; go_must (refine Hs.pushStr rfl _ _ 30 9 rfl 5 i1 (by kernel_rfl) undStr hi1 hy0 hy1 hy2 3 out O.length (bytesC O) rfl (ba l) rfl rfl hbx2 H4.out.drew ?_))
          intro v1 w5 hh1
          obtain ⟨a5, c5, rfl, _, _⟩ := hh1.form 3 rfl
          have e3 := hh1.cell 1 rfl 3 rfl
          have f3 := hh1.froz 1 rfl 3
          have H5 := Lib.hid (hh1.tail.set_ 0 rfl 3 (.slice a5 (O.length + (ba l).size) c5))
          clear hh1 H4 b3' hz3' b0' d1 d0
          go_wp2_with fail
          refine ⟨by kernel_rfl, ?_⟩
          go_wp2_with fail
          go_roundg (ko - 1)
          case measure => have := HW.out; have := Tm.W_len (nodes := nodes) (Part.s l :: L'); simp only [List.length_cons] at this; omega
          case rel =>
            refine ⟨L', O ++ l, (.slice (some ⟨g, 0, none⟩) K c1), .slice a5 (O.length + (ba l).size) c5, ?_, by omega, fun q hq => HPp.out q (List.mem_cons_of_mem _ hq), ?_, ?_⟩
            · have h := HW.out
              have e : Tm.W nodes (Part.s l :: L') = 1 + Tm.W nodes L' := rfl
              omega
            · rw [← HTt.out]
              have e : Tm.text nodes (Part.s l :: L') = l ++ Tm.text nodes L' := rfl
              rw [e, List.append_assoc]
            · have h := H5.out
              rw [strCells_ba, ba_size] at h
              rw [ba_size, bytesC_app, List.length_append]
              exact h
        | k x t =>
          obtain ⟨q0, q1, q2, q3⟩ : 0 ≤ x ∧ x < (nodes.length : Int) ∧ Tm.kindOf nodes x ≠ 2 ∧ t + x.toNat ≤ nodes.length := HPt.out
          obtain ⟨xn, rfl⟩ : ∃ xn : Nat, x = (xn : Int) := ⟨x.toNat, by omega⟩
          have hxn : xn < nodes.length := by omega
          have hne : (⟨#[]⟩ : ByteArray).toList.isEmpty = true := by rw [ByteArray.toList_eq]; rfl
          replace d0 : W3.cell? ⟨gj, 0, none⟩ = some (.string ⟨#[]⟩) := d0
          replace d1 : W3.cell? ⟨gj, 1, none⟩ = some (.bool false) := d1
          replace d2 : W3.cell? ⟨gj, 2, none⟩ = some (.int .i64 (xn : Int)) := d2
          replace d3 : W3.cell? ⟨gj, 3, none⟩ = some (.int .i64 (t : Int)) := d3
          obtain ⟨gn, on, ak, ck, rfl, hkr, y0, y1, y2, y3, y4, y5, y6, y7, y8, y9⟩ := node_at HT.out hxn
          have HFr := fr_of_kp H4.out.kp
          replace y0 := fr_cell HFr y0
          replace y1 := fr_cell HFr y1
          replace y2 := fr_cell HFr y2
          replace y3 := fr_cell HFr y3
          replace y4 := fr_cell HFr y4
          replace y5 := fr_cell HFr y5
          replace y6 := fr_cell HFr y6
          replace y7 := fr_cell HFr y7
          replace y8 := fr_cell HFr y8
          replace y9 := fr_cell HFr y9
          have hna : Tm.nodeAt nodes (xn : Int) = nodes[xn] := by unfold Tm.nodeAt; rw [Int.toNat_natCast, Tm.getD_get hxn]
          have hkn : (nodes[xn]).kind ≠ 2 := by rw [← hna]; exact q2
          have hnm := List.getElem_mem hxn
          have hst := Tm.W_step HOk.out q0 q1 q2 t L'
          have htx := Tm.text_step HOk.out q0 q1 q2 t L'
          have hps := Tm.pok_step HOk.out (t := t) HPt.out
          have hkl : L'.length + 2 * (nodes[xn]).kids.length ≤ 500000000 := by
            have h := HW.out
            have h2 := Tm.W_len (nodes := nodes) L'
            have e : Tm.W nodes (Part.k (xn : Int) t :: L') = (8 + 2 * (Tm.nodeAt nodes (xn : Int)).kids.length + _) + Tm.W nodes L' := rfl
            rw [hna] at e
            omega
          rw [hna] at hst htx hps
          have hLl : L'.length ≤ 500000000 := by
            have h := HW.out
            have := Tm.W_len (nodes := nodes) (Part.k (xn : Int) t :: L')
            simp only [List.length_cons] at this
            omega
          have HSt := Lib.hid hst
          have HTx := Lib.hid htx
          have HPs := Lib.hid hps
          have HKr := Lib.hid hkr
          have HNm := Lib.hid hnm
          have i1x : (xn : Int) < (nodes.length : Int) := by omega
          have i2x : (0 : Int) ≤ (xn : Int) := by omega
          clear hst htx hps hkr hnm hna HFr q2
          generalize nodes[xn] = N at y0 y1 y2 y3 y4 y5 y6 y7 y8 y9 hkn HSt HTx HPs HKr HNm hkl
          go_upto_region 12 with fail
          refine Reg.wp_region_text (by kernel_rfl) (by kernel_rfl) ?_
          go_wp2_with fail
          refine (node_c (w0 := w) _ p _ _ (.slice (some ⟨g, 0, none⟩) K c1) out L'.reverse _ nodes funcs N (.slice ak N.kids.length ck) t HTab.out HT.out HG.out HNm.out hkn (by rw [List.length_reverse]; exact H4.out.tail.drew) HKr.out (by rw [List.length_reverse]; omega) (by omega)).mono ?_
          rintro e w5 ⟨rfl, td2, hq⟩
          have HQ := Lib.hid hq
          clear hq
          go_wp2_with fail
          refine ⟨by kernel_rfl, ?_⟩
          go_wp2_with fail
          go_roundg (ko - 1)
          case measure => have := HW.out; have := HSt.out; omega
          case rel =>
            refine ⟨Tm.node nodes N t ++ L', O, td2, out, ?_, by omega, fun q hq => ?_, ?_, ?_⟩
            · have := HW.out; have := HSt.out; omega
            · rcases List.mem_append.1 hq with h | h
              · exact HPs.out q h
              · exact HPp.out q (List.mem_cons_of_mem _ h)
            · rw [← HTx.out]; exact HTt.out
            · have h := HQ.out
              rw [← List.reverse_append, List.length_reverse] at h
              exact h
end Go.Proofs.YtllahgnpjodgmaaDoor
