/- quernlaw3.fits, num.
quernlaw3.sample. -/
import Derived.Test.YtllahgnpjodgmaaDoorQ10
import Derived.Deep.DeepCutAuto
import Derived.Test.YtllahgnpjodgmaaDoorQ20
set_option linter.unusedVariables false
namespace Go.Proofs.YtllahgnpjodgmaaDoor
open Go Go.RowKit Mem Pm
/-- Nodes, kids, names. -/
def bulk (l : List Nd) : Nat := (l.map fun n => n.kids.length + n.name.size / 64).sum
def deepN (l : List Nd) : Nat := (l.filter fun n => n.kind == 3).length
def FitsP (nodes : List Nd) (funcs : List Int) : Prop := nodes.length + funcs.length + bulk nodes ≤ 120000 ∧ deepN nodes * (nodes.length + funcs.length + bulk nodes) ≤ 16777216
theorem bulk_take {l : List Nd} {i : Nat} {n : Nd} (h : l[i]? = some n) : bulk (l.take (i + 1)) = bulk (l.take i) + (n.kids.length + n.name.size / 64) := by
  rw [List.take_add_one, h]; unfold bulk; simp
theorem deep_take {l : List Nd} {i : Nat} {n : Nd} (h : l[i]? = some n) : deepN (l.take (i + 1)) = deepN (l.take i) + if n.kind = 3 then 1 else 0 := by
  rw [List.take_add_one, h]; unfold deepN
  rw [List.filter_append, List.length_append]
  congr 1
  by_cases hk : n.kind = 3
  · simp [hk]
  · simp [hk]
theorem deep_le (l : List Nd) : deepN l ≤ l.length := List.length_filter_le _ _
set_option maxRecDepth 100000 in
set_option maxHeartbeats 16000000 in
theorem fits_c (nodes : List Nd) (funcs : List Int) (nd fu : Value) (w : World) (h : TreeRd w nodes funcs nd fu) (hn : nodes.length ≤ 140737488355328) (hf : funcs.length ≤ 140737488355328) (he : ∀ n ∈ nodes, n.kids.length ≤ 9000000000000000000 ∧ n.name.size ≤ 9000000000000000000) :
    Calls Tryd.prog 11 #[.agg #[nd, fu]] w fun e w' => ∃ b : Bool, e = .returned (.bool b) ∧ Fr w w' ∧ (b = true → FitsP nodes funcs) := by
  obtain ⟨an, cn, rfl, hcn⟩ : ∃ an cn, nd = .slice an nodes.length cn ∧ nodes.length ≤ cn := by obtain ⟨_, _, ⟨a, c, h1, h2, _⟩, _⟩ := h.nds; exact ⟨a, c, h1, h2⟩
  obtain ⟨af, cf, rfl, hcf⟩ : ∃ af cf, fu = .slice af funcs.length cf ∧ funcs.length ≤ cf := by obtain ⟨a, c, h1, h2, _⟩ := h.funcs; exact ⟨a, c, h1, h2⟩
  have HT := Lib.hid h
  have HE := Lib.hid he
  have H1 := Lib.hid ((Hs.start w).alloc [.slice an nodes.length cn, .slice af funcs.length cf] 25)
  have hni : (nodes.length : Int) ≤ 140737488355328 := by omega
  have hfi : (funcs.length : Int) ≤ 140737488355328 := by omega
  clear h he
  go_enter Tryd.func11, Tryd.ntmps11
  go_wp2_with fail
  obtain ⟨W0, hW0⟩ : ∃ W0, W0 = w.alloc (.cells #[.slice an nodes.length cn, .slice af funcs.length cf] 25) := ⟨_, rfl⟩
  rw [← hW0]
  obtain ⟨bt, hbt⟩ : ∃ bt, bt = w.heap.size := ⟨_, rfl⟩
  rw [← hbt]
  have H2 : Hid (Hs (fun k => k < w.heap.size) w W0 [.blk bt 25 [.slice an nodes.length cn, .slice af funcs.length cf]]) := Lib.hid (by rw [hbt, hW0]; exact H1.out)
  clear H1 hW0 hbt
  go_loopg [3, 4, 5] nodes.length (fun m v3 v4 v5 wr => ∃ i N D : Nat, i + m = nodes.length ∧ v5 = .int .i64 (i : Int) ∧ v3 = .int .i64 (N : Int) ∧ v4 = .int .i64 (D : Int) ∧ N = nodes.length + funcs.length + bulk (nodes.take i) ∧ D = deepN (nodes.take i) ∧
    Hs (fun k => k < w.heap.size) w wr [.blk bt 25 [.slice an nodes.length cn, .slice af funcs.length cf]])
  case atStart => exact ⟨0, nodes.length + funcs.length, 0, by omega, rfl, by go_num, rfl, by unfold bulk; simp, rfl, H2.out⟩
  case round =>
  obtain ⟨i, N, D, hi, rfl, rfl, rfl, hN, hD, hh⟩ := hrel
  have b0 := hh.cell 0 rfl 0 rfl
  have b1 := hh.cell 0 rfl 1 rfl
  have Hh := Lib.hid hh
  have HFr := Lib.hid (fr_of_kp hh.kp)
  have HN := Lib.hid hN
  have HD := Lib.hid hD
  have hDi : D ≤ i := by rw [hD]; have := deep_le (nodes.take i); rw [List.length_take] at this; omega
  clear hh hN hD H2
  by_cases hlt : i < nodes.length
  case pos =>
    have q0 : decide ((i : Int) < (nodes.length : Int)) = true := decide_eq_true (by omega)
    have hki : (i : Int) < (nodes.length : Int) := by omega
    have hk0 : (0 : Int) ≤ (i : Int) := by omega
    by_cases hNm : N ≤ 120000
    · have q1 : decide ((N : Int) ≤ 120000) = true := decide_eq_true (by omega)
      have hNi : (N : Int) ≤ 120000 := by omega
      obtain ⟨g, off, ak, ck, rfl, _, x0, _, _, _, _, _, _, _, x8, x9⟩ := node_at HT.out hlt
      replace x0 := fr_cell HFr.out x0
      replace x8 := fr_cell HFr.out x8
      replace x9 := fr_cell HFr.out x9
      have hx : nodes[i]? = some nodes[i] := List.getElem?_eq_getElem hlt
      have hbt := bulk_take hx
      have hdt := deep_take hx
      obtain ⟨he1, he2⟩ := HE.out _ (List.getElem_mem hlt)
      have HBt := Lib.hid hbt
      have HDt := Lib.hid hdt
      clear hx hbt hdt
      generalize nodes[i] = M at x0 x8 x9 he1 he2 HBt HDt
      have he3 : (M.kids.length : Int) ≤ 9000000000000000000 := by omega
      have he4 : (M.name.size : Int) ≤ 9000000000000000000 := by omega
      have hDi2 : (D : Int) ≤ 140737488355328 := by omega
      go_upto_region 6 with fail
      refine Reg.wp_region_text (by kernel_rfl) (by kernel_rfl) ?_
      go_wp2_with fail
      refine ⟨by kernel_rfl, ?_⟩
      cases e3 : (M.kind == 3) with
      | true =>
        have hk3 : M.kind = 3 := beq_iff_eq.1 e3
        have HK3 := Lib.hid hk3
        clear hk3
        go_wp2_with fail
        go_roundg (gk - 1)
        case measure => omega
        case rel =>
          refine ⟨i + 1, N + (M.kids.length + M.name.size / 64), D + 1, by omega, by go_num, ?_, by go_num, ?_, ?_, Hh.out.drew⟩
          · exact congrArg _ (by omega)
          · rw [HBt.out, HN.out]; omega
          · rw [HDt.out, if_pos HK3.out, HD.out]
      | false =>
        have hk3 : ¬ M.kind = 3 := beq_eq_false_iff_ne.1 e3
        have HK3 := Lib.hid hk3
        clear hk3
        go_wp2_with fail
        go_roundg (gk - 1)
        case measure => omega
        case rel =>
          refine ⟨i + 1, N + (M.kids.length + M.name.size / 64), D, by omega, by go_num, ?_, rfl, ?_, ?_, Hh.out.drew⟩
          · exact congrArg _ (by omega)
          · rw [HBt.out, HN.out]; omega
          · rw [HDt.out, if_neg HK3.out, HD.out]; rfl
    · have q1 : decide ((N : Int) ≤ 120000) = false := decide_eq_false (by omega)
      go_wp2_with fail
      go_ret
      exact ⟨false, rfl, HFr.out, fun h => by cases h⟩
  case neg =>
    have q0 : decide ((i : Int) < (nodes.length : Int)) = false := decide_eq_false (by omega)
    have htk : nodes.take i = nodes := List.take_of_length_le (by omega)
    by_cases hNm : N ≤ 120000
    · have q1 : decide ((N : Int) ≤ 120000) = true := decide_eq_true (by omega)
      have hm : D * N ≤ 120000 * 120000 := Nat.mul_le_mul (by have := HN.out; omega) hNm
      obtain ⟨X, hX⟩ : ∃ X : Nat, X = D * N := ⟨_, rfl⟩
      have hXi : (D : Int) * (N : Int) = (X : Int) := by rw [hX]; exact (Int.natCast_mul D N).symm
      rw [← hX] at hm
      have hXb : (X : Int) ≤ 14400000000 := by omega
      have hX0 : (0 : Int) ≤ (X : Int) := by omega
      have HX := Lib.hid hX
      have HTk := Lib.hid htk
      clear hX htk
      cases q2 : decide ((X : Int) ≤ 16777216) with
      | true =>
        have hq : X ≤ 16777216 := by have := of_decide_eq_true q2; omega
        have HQ := Lib.hid hq
        clear hq
        go_wp2_with fail
        go_ret
        refine ⟨true, rfl, HFr.out, fun _ => ?_⟩
        have e1 := HN.out
        have e2 := HD.out
        rw [HTk.out] at e1 e2
        have e3 := HX.out
        have e4 := HQ.out
        rw [e2, e1] at e3
        exact ⟨by rw [← e1]; exact hNm, by rw [← e3]; exact e4⟩
      | false =>
        go_wp2_with fail
        go_ret
        exact ⟨false, rfl, HFr.out, fun h => by cases h⟩
    · have q1 : decide ((N : Int) ≤ 120000) = false := decide_eq_false (by omega)
      go_wp2_with fail
      go_ret
      exact ⟨false, rfl, HFr.out, fun h => by cases h⟩
set_option maxRecDepth 100000 in
set_option maxHeartbeats 2000000 in
theorem num_c (k : Int) (w : World) : Calls Tryd.prog 18 #[.int .i64 k] w fun e w' => e = .returned (.int .i64 k) ∧ w = w' := by
  go_enter Tryd.func18, Tryd.ntmps18
  go_wp2_with fail
  go_ret
  exact ⟨rfl, rfl⟩
end Go.Proofs.YtllahgnpjodgmaaDoor

set_option linter.unusedVariables false
namespace Go.Proofs.YtllahgnpjodgmaaDoor
open Go Go.RowKit Mem Pm
def sampleN : List Nd := [⟨20, 0, 0, 0, 0, 0, 0, 1, ⟨#[]⟩, []⟩, ⟨20, 0, 0, 0, 0, 0, 0, 2, ⟨#[]⟩, []⟩, ⟨31, 0, 0, 0, 0, 0, 2, 0, ⟨#[]⟩, [0, 1]⟩, ⟨5, 0, 0, 0, 0, 0, 0, 0, ⟨#[120]⟩, [2]⟩, ⟨3, 0, 0, 0, 0, 0, 0, 0, ⟨#[]⟩, [3]⟩, ⟨1, 0, 0, 0, 0, 0, 0, 0, ⟨#[109, 97, 105, 110]⟩, [4]⟩]
def sampleM : List Nd := [⟨20, 0, 0, 0, 0, 0, 1, 1, ⟨#[]⟩, []⟩, ⟨20, 0, 0, 0, 0, 0, 0, 2, ⟨#[]⟩, []⟩, ⟨31, 0, 0, 0, 0, 0, 2, 0, ⟨#[]⟩, [0, 1]⟩, ⟨5, 0, 0, 0, 0, 0, 0, 0, ⟨#[120]⟩, [2]⟩, ⟨3, 0, 0, 0, 0, 0, 0, 0, ⟨#[]⟩, [3]⟩, ⟨1, 0, 0, 0, 0, 0, 0, 0, ⟨#[109, 97, 105, 110]⟩, [4]⟩]
def sampleS : List UInt8 := [102, 117, 110, 99, 32, 109, 97, 105, 110, 40, 41, 32, 123, 10, 9, 120, 32, 61, 32, 49, 32, 45, 32, 50, 59, 10, 125, 10]
theorem sample_check : Tm.check sampleN [5] = true := by kernel_rfl
theorem sample_not : Tm.check sampleM [5] = false := by kernel_rfl
theorem sample_print : Tm.print sampleN [5] = sampleS := by kernel_rfl
def sl (g n : Nat) : Value := .slice (some ⟨g, 0, none⟩) n n
def sampleC (b : Nat) : List Value := ndsC (sampleN.zip [.slice none 0 0, .slice none 0 0, sl (b + 1) 2, sl (b + 2) 1, sl (b + 3) 1, sl (b + 4) 1])
theorem treeTy : ∃ x, Tryd.prog.underlying 25 = some (.struct x) := by
  have hb : (match Tryd.prog.underlying 25 with | some (.struct _) => true | _ => false) = true := by kernel_rfl
  generalize Tryd.prog.underlying 25 = o at hb
  cases o with
  | none => cases hb
  | some t => cases t <;> first | exact ⟨_, rfl⟩ | cases hb
set_option maxRecDepth 100000 in
set_option maxHeartbeats 16000000 in
theorem sample_c (w : World) : Calls Tryd.prog 25 #[] w fun e w' => ∃ b, e = .returned (.agg #[sl (b + 5) 6, sl (b + 6) 1]) ∧
    Gives w w' [.blk (b + 6) 3 [.int .i64 5], .blk (b + 5) 45 (sampleC b), .blk (b + 4) 3 [.int .i64 4], .blk (b + 3) 3 [.int .i64 3], .blk (b + 2) 3 [.int .i64 2], .blk (b + 1) 3 [.int .i64 0, .int .i64 1]] := by
  obtain ⟨b, hb⟩ : ∃ b, b = w.heap.size := ⟨_, rfl⟩
  have h := (((((((Hs.start w).alloc [sl (b + 5) 6, sl (b + 6) 1] 25).alloc [.int .i64 0, .int .i64 1] 3).alloc [.int .i64 2] 3).alloc [.int .i64 3] 3).alloc [.int .i64 4] 3).alloc (sampleC b) 45).alloc [.int .i64 5] 3
  simp only [size_alloc'] at h
  rw [← hb] at h
  have h' : Hs (fun k => k < b) w _ [.blk (b + 6) 3 [.int .i64 5], .blk (b + 5) 45 (sampleC b), .blk (b + 4) 3 [.int .i64 4], .blk (b + 3) 3 [.int .i64 3], .blk (b + 2) 3 [.int .i64 2], .blk (b + 1) 3 [.int .i64 0, .int .i64 1], .blk b 25 [sl (b + 5) 6, sl (b + 6) 1]] := h
  rw [hb] at h'
  obtain ⟨x, hu⟩ := treeTy
  clear h
  have H := Lib.hid h'
  have HU := Lib.hid hu
  clear h' hu hb
  go_enter Tryd.func25, Tryd.ntmps25
  go_wp2_with fail
  refine bodyPost_ret (results_cell_row (p := 0) (ty := 25) rfl _ _ w.heap.size 25 #[sl (w.heap.size + 5) 6, sl (w.heap.size + 6) 1] (0, 0) _ rfl ((H.out.get (i := 6) rfl).1) HU.out rfl (by kernel_rfl)) rfl ⟨w.heap.size, rfl, gives_of ?_⟩
  exact H.out.sub (List.sublist_append_left [_, _, _, _, _, _] [_])
end Go.Proofs.YtllahgnpjodgmaaDoor
