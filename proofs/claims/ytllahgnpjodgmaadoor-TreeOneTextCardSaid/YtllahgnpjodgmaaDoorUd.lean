/- The printer's operations: index, unary, binary. -/
import Derived.Test.YtllahgnpjodgmaaDoorUc
set_option linter.unusedVariables false
namespace Go.Proofs.YtllahgnpjodgmaaDoor
open Go Go.RowKit Mem Pm
open Tm (Part)
theorem value_pos (k : Int) (b : Bool) : 0 < (Tm.value k b).length := by cases b <;> exact Nat.le_of_ble_eq_true rfl
theorem value_le (k : Int) (b : Bool) : (Tm.value k b).length ≤ 3 := by cases b <;> exact Nat.le_of_ble_eq_true rfl
theorem value_c2 (k : Int) (b : Bool) (w : World) : Calls Tryd.prog 82 #[.int .i64 k, .bool b] w fun e w' => ∃ g c, e = .returned (.slice (some ⟨g, 0, none⟩) (Tm.value k b).length c) ∧ Fr w w' ∧ Gives w w' [.row 67 4 (.slice (some ⟨g, 0, none⟩) (Tm.value k b).length c) (Tm.value k b).length (partsC (Tm.value k b))] := by
  refine (value_c k b w).mono ?_
  rintro e w' ⟨v, rfl, hg⟩
  have hp := value_pos k b
  rcases (hg _ _ _ (Hs.start w)).form2 0 rfl with ⟨_, h⟩ | ⟨g, c, rfl, _⟩
  · omega
  · exact ⟨g, c, rfl, fr_of_kp hg.kp, hg⟩
theorem Mem.Hs.newsRow {A : Nat → Prop} {w0 w : World} {rs : List Res} (H : Hs A w0 w rs) (i : Nat) {e : TypeId} {size n c g : Nat} {xs : List Value} (hi : rs[i]? = some (.row e size (.slice (some ⟨g, 0, none⟩) n c) n xs)) : ∀ j u, xs[j]? = some u → w.cell? ((⟨g, 0, none⟩ : Addr).add j) = some u := fun j u hu => by
  have hadd : (⟨g, 0, none⟩ : Addr).add j = ⟨g, j, none⟩ := by unfold Addr.add; split <;> simp_all
  rw [hadd]; exact H.rcell i hi rfl j hu
theorem sign_size (op : Int) : (ba (Tm.sign op)).size ≤ 2 := by
  unfold Tm.sign ba
  show ((Tm.signs.getD op.toNat []).toArray).size ≤ 2
  rw [List.size_toArray]
  have h : ∀ l ∈ Tm.signs, l.length ≤ 2 := by decide
  rw [List.getD_eq_getElem?_getD]
  cases e : Tm.signs[op.toNat]? with
  | none => exact Nat.zero_le _
  | some l => exact h l (List.mem_of_getElem? e)
theorem partsC_all (l : List Part) : ((partsC l).all fun u => u.oneCell') = true := by
  induction l with
  | nil => rfl
  | cons p l ih => show ((p.C ++ partsC l).all fun u => u.oneCell') = true; rw [List.all_append, ih]; rfl
set_option maxRecDepth 100000 in
set_option maxHeartbeats 16000000 in
theorem oper_29 {w0 : World} (w : World) (p : Nat) (nd fu todo out : Value) (R : List Part) (rest : List Res) (nodes : List Nd) (funcs : List Int) (a1 a2 a3 a4 a5 a6 a7 : Int) (nm : ByteArray) (k0 k1 : Nat) (kv : Value) (HT0 : TreeRd w0 nodes funcs nd fu) (hk0 : k0 < nodes.length) (hk1 : k1 < nodes.length) 
    (H : Hs (fun k => k < w0.heap.size) w0 w (.blk p 64 [nd, fu, todo, out] :: .row 67 4 todo R.length (partsC R) :: rest)) (hr : RdS w0 kv 2 (ints [(k0 : Int), (k1 : Int)])) (hb : R.length + 10 ≤ 1000000000) :
    Calls Tryd.prog 74 #[.pointer (some ⟨p, 0, none⟩), ndV (⟨29, a1, a2, a3, a4, a5, a6, a7, nm, [(k0 : Int), (k1 : Int)]⟩ : Nd) kv] w fun e w' => e = .returned (.tuple #[]) ∧ PS (fun k => k < w0.heap.size) w0 w' p nd fu out (R ++ (Tm.operation nodes (⟨29, a1, a2, a3, a4, a5, a6, a7, nm, [(k0 : Int), (k1 : Int)]⟩ : Nd)).reverse) rest := by
  obtain ⟨i0, hi0, hz0, hz1, hz2⟩ := info_parts infoJob
  obtain ⟨ak, ck, rfl, hck⟩ : ∃ ak ck, kv = .slice ak 2 ck ∧ 2 ≤ ck := by obtain ⟨a, c, h1, h2, _⟩ := hr; exact ⟨a, c, h1, h2⟩
  obtain ⟨gn, on, cn, rfl⟩ : ∃ gn on cn, nd = .slice (some ⟨gn, on, none⟩) nodes.length cn := by
    obtain ⟨_, _, ⟨a, c, rfl, _, _⟩, _⟩ := HT0.nds
    obtain ⟨g, off, ak, ck, rfl, _⟩ := node_at HT0 hk0
    exact ⟨_, _, _, rfl⟩
  obtain ⟨gk, ok, rfl, cx0⟩ := rdS_int (l := [(k0 : Int), (k1 : Int)]) hr (i := 0) rfl
  rw [Nat.add_zero] at cx0
  have cx1 := CX0 (l := [(k0 : Int), (k1 : Int)]) hr rfl (i := 1) rfl
  have CX1 := Lib.hid cx1
  obtain ⟨_, _, bk1, dk1, he1, _, z0, z1, z2, z3, z4, z5, z6, z7, z8, z9⟩ := node_at HT0 hk1
  injection he1 with he1
  injection he1 with he11 he12
  subst he11 he12
  have hg1 : Tm.nodeAt nodes (k1 : Int) = nodes[k1] := by unfold Tm.nodeAt; rw [Int.toNat_natCast, Tm.getD_get hk1]
  generalize nodes[k1] = N1 at z0 z1 z2 z3 z4 z5 z6 z7 z8 z9 hg1
  have HG1 := Lib.hid hg1
  have Z := Lib.hid (And.intro z0 (And.intro z1 (And.intro z2 (And.intro z3 (And.intro z4 (And.intro z5 (And.intro z6 (And.intro z7 (And.intro z8 z9)))))))))
  clear cx1 z0 z1 z2 z3 z4 z5 z6 z7 z8 z9 hg1
  have hk1i : (k1 : Int) < (nodes.length : Int) := by omega
  have hk1j : (0 : Int) ≤ (k1 : Int) := by omega
  obtain ⟨_, _, bk, dk, he, _, y0, y1, y2, y3, y4, y5, y6, y7, y8, y9⟩ := node_at HT0 hk0
  injection he with he
  injection he with he1 he2
  subst he1 he2
  have hg0 : Tm.nodeAt nodes (k0 : Int) = nodes[k0] := by unfold Tm.nodeAt; rw [Int.toNat_natCast, Tm.getD_get hk0]
  generalize nodes[k0] = N0 at y0 y1 y2 y3 y4 y5 y6 y7 y8 y9 hg0
  have HG := Lib.hid hg0
  have hk0i : (k0 : Int) < (nodes.length : Int) := by omega
  have hk0j : (0 : Int) ≤ (k0 : Int) := by omega
  have H1 := Lib.hid (row_blk_swap (H.alloc [.int .i64 29, .int .i64 a1, .int .i64 a2, .int .i64 a3, .int .i64 a4, .int .i64 a5, .int .i64 a6, .int .i64 a7, .string nm, .slice (some ⟨gk, ok, none⟩) 2 ck] 45) rfl)
  have hf0 : Fr w0 _ := fr_of_kp H1.out.kp
  have CX := Lib.hid cx0
  replace y0 := fr_cell hf0 y0
  replace y1 := fr_cell hf0 y1
  replace y2 := fr_cell hf0 y2
  replace y3 := fr_cell hf0 y3
  replace y4 := fr_cell hf0 y4
  replace y5 := fr_cell hf0 y5
  replace y6 := fr_cell hf0 y6
  replace y7 := fr_cell hf0 y7
  replace y8 := fr_cell hf0 y8
  replace y9 := fr_cell hf0 y9
  replace cx0 := fr_cell hf0 cx0
  have x0 := H1.out.cell 0 rfl 0 rfl
  have x9 := H1.out.cell 2 rfl 9 rfl
  obtain ⟨PP, hPP⟩ : ∃ PP, PP = Tm.operation nodes (⟨29, a1, a2, a3, a4, a5, a6, a7, nm, [(k0 : Int), (k1 : Int)]⟩ : Nd) := ⟨_, rfl⟩
  rw [← hPP]
  have HPP := Lib.hid hPP
  have i01 : (0 : Int) < 2 := by decide
  obtain ⟨W, hW⟩ : ∃ W, W = w.alloc (.cells #[.int .i64 29, .int .i64 a1, .int .i64 a2, .int .i64 a3, .int .i64 a4, .int .i64 a5, .int .i64 a6, .int .i64 a7, .string nm, .slice (some ⟨gk, ok, none⟩) 2 ck] 45) := ⟨_, rfl⟩
  have HW := Lib.hid hW
  have hbW := hb
  clear H hr hPP hf0 hg0 hW
  clear hbW
  unfold ndV
  dsimp only
  go_enter Tryd.func74, Tryd.ntmps74
  go_upto_region 1 with fail
  refine Reg.wp_region_text (by kernel_rfl) (by kernel_rfl) ?_
  go_wp2_with fail
  refine (level_c N0 _ _).mono ?_
  rintro e w1 ⟨rfl, hf1⟩
  replace H1 := Lib.hid (H1.out.drew.ch0 hf1)
  clear hf1 x0 x9 cx0 y0 y1 y2 y3 y4 y5 y6 y7 y8 y9
  have x9 := H1.out.cell 2 rfl 9 rfl
  have x6 := H1.out.cell 2 rfl 6 rfl
  have x0 := H1.out.cell 2 rfl 0 rfl
  have cx := fr_cell (fr_of_kp H1.out.kp) CX.out
  have HG2 : Hid (Tm.level (Tm.nodeAt nodes (k0 : Int)) = Tm.level N0) := Lib.hid (by rw [HG.out])
  generalize Tm.level N0 = L0 at HG2 ⊢
  go_wp2_with fail
  refine ⟨by kernel_rfl, ?_⟩
  go_upto_region 9 with (first | (go_at_call 82; refine (value_c2 _ _ _).mono ?_; rintro e w' ⟨gv, cv, rfl, hf, hg⟩; replace H1 := Lib.hid (hg _ _ _ H1.out); clear hf hg))
  obtain ⟨V, hV⟩ : ∃ V, V = Tm.value (k0 : Int) (decide (L0 < 7)) := ⟨_, rfl⟩
  have hV3 : V.length + 3 ≤ 1000000001 := by rw [hV]; have := value_le (k0 : Int) (decide (L0 < 7)); omega
  have hV4 : V.length ≤ 3 := by rw [hV]; exact value_le _ _
  rw [← hV] at H1 ⊢
  have HV := Lib.hid hV
  clear hV x6 x0
  replace H1 := Lib.hid H1.out.drew
  replace x9 := H1.out.cell 3 rfl 9 rfl
  have cx1 := fr_cell (fr_of_kp H1.out.kp) CX1.out
  clear cx
  have i11 : (1 : Int) < 2 := by decide
  go_region_held3 (fun w' => w'.cell? ⟨w.heap.size, 9, none⟩ = some (.slice (some ⟨gk, ok, none⟩) 2 ck) ∧ w'.cell? ⟨gk, ok + 1, none⟩ = some (.int .i64 (k1 : Int))) (go_keep) (first
    | (go_at_call 69; refine (say_c _ _).mono ?_; rintro e w' ⟨rfl, hf⟩; replace H1 := Lib.hid (H1.out.ch0 hf); replace x9 := fr_cell hf x9; replace cx1 := fr_cell hf cx1; clear hf)
    | (refine Hs.stepPush rfl _ _ 62 rfl 67 i0 _ 4 40 (by kernel_rfl) hi0 hz0 hz1 hz2 rfl (Nat.succ_pos _) (Nat.le_of_ble_eq_true rfl) 1 _ V.length (partsC V) rfl _ 3 3 [.string ⟨#[91]⟩, .bool false, .int .i64 0, .int .i64 0, .string ⟨#[]⟩, .bool false, .int .i64 (k1 : Int), .int .i64 0, .string ⟨#[93]⟩, .bool false, .int .i64 0, .int .i64 0] rfl rfl (by decide) rfl rfl hV3 ((H1.out.alloc [.string ⟨#[91]⟩, .bool false, .int .i64 0, .int .i64 0, .string ⟨#[]⟩, .bool false, .int .i64 (k1 : Int), .int .i64 0, .string ⟨#[93]⟩, .bool false, .int .i64 0, .int .i64 0] 67).news 0 rfl) (H1.out.alloc [.string ⟨#[91]⟩, .bool false, .int .i64 0, .int .i64 0, .string ⟨#[]⟩, .bool false, .int .i64 (k1 : Int), .int .i64 0, .string ⟨#[93]⟩, .bool false, .int .i64 0, .int .i64 0] 67) ?_; rintro v1 w2 hh1; replace H1 := Lib.hid hh1.tail; clear hh1; replace x9 := H1.out.cell 3 rfl 9 rfl; replace cx1 := fr_cell (fr_of_kp H1.out.kp) CX1.out)
    | (go_at_call 31; refine (put_c _ p _ fu todo out _ R (V ++ [.s [91], .k (k1 : Int) 0, .s [93]]) _ (by rw [partsC_app, List.length_append]; exact H1.out) (by simp only [List.length_append, List.length_cons, List.length_nil]; omega)).mono ?_; rintro e w3 ⟨rfl, hp⟩; have HP := Lib.hid hp; clear hp; obtain ⟨td2, hq⟩ := HP.out; replace x9 := hq.cell 2 rfl 9 rfl; replace cx1 := fr_cell (fr_of_kp hq.kp) CX1.out; clear hq))
  go_wp2_with fail
  first | go_end0 | refine bodyPost_ret (results_none rfl _ _ _) rfl ?_
  refine ⟨rfl, ?_⟩
  have h := HP.out.drop
  have e : PP = V ++ [.s [91], .k (k1 : Int) 0, .s [93]] := by
    rw [HPP.out, HV.out, ← HG2.out]; rfl
  rw [e]
  exact h
set_option maxRecDepth 100000 in
set_option maxHeartbeats 16000000 in
theorem oper_30 {w0 : World} (w : World) (p : Nat) (nd fu todo out : Value) (R : List Part) (rest : List Res) (nodes : List Nd) (funcs : List Int) (a1 a2 a3 a4 a5 a6 a7 : Int) (nm : ByteArray) (k0 : Nat) (kv : Value) (HT0 : TreeRd w0 nodes funcs nd fu) (hk0 : k0 < nodes.length) (ho : 20 ≤ a6 ∧ a6 ≤ 22) 
    (H : Hs (fun k => k < w0.heap.size) w0 w (.blk p 64 [nd, fu, todo, out] :: .row 67 4 todo R.length (partsC R) :: rest)) (hr : RdS w0 kv 1 (ints [(k0 : Int)])) (hb : R.length + 10 ≤ 1000000000) :
    Calls Tryd.prog 74 #[.pointer (some ⟨p, 0, none⟩), ndV (⟨30, a1, a2, a3, a4, a5, a6, a7, nm, [(k0 : Int)]⟩ : Nd) kv] w fun e w' => e = .returned (.tuple #[]) ∧ PS (fun k => k < w0.heap.size) w0 w' p nd fu out (R ++ (Tm.operation nodes (⟨30, a1, a2, a3, a4, a5, a6, a7, nm, [(k0 : Int)]⟩ : Nd)).reverse) rest := by
  obtain ⟨i0, hi0, hz0, hz1, hz2⟩ := info_parts infoJob
  obtain ⟨ak, ck, rfl, hck⟩ : ∃ ak ck, kv = .slice ak 1 ck ∧ 1 ≤ ck := by obtain ⟨a, c, h1, h2, _⟩ := hr; exact ⟨a, c, h1, h2⟩
  obtain ⟨gn, on, cn, rfl⟩ : ∃ gn on cn, nd = .slice (some ⟨gn, on, none⟩) nodes.length cn := by
    obtain ⟨_, _, ⟨a, c, rfl, _, _⟩, _⟩ := HT0.nds
    obtain ⟨g, off, ak, ck, rfl, _⟩ := node_at HT0 hk0
    exact ⟨_, _, _, rfl⟩
  obtain ⟨gk, ok, rfl, cx0⟩ := rdS_int (l := [(k0 : Int)]) hr (i := 0) rfl
  rw [Nat.add_zero] at cx0
  obtain ⟨_, _, bk, dk, he, _, y0, y1, y2, y3, y4, y5, y6, y7, y8, y9⟩ := node_at HT0 hk0
  injection he with he
  injection he with he1 he2
  subst he1 he2
  have hg0 : Tm.nodeAt nodes (k0 : Int) = nodes[k0] := by unfold Tm.nodeAt; rw [Int.toNat_natCast, Tm.getD_get hk0]
  generalize nodes[k0] = N0 at y0 y1 y2 y3 y4 y5 y6 y7 y8 y9 hg0
  have HG := Lib.hid hg0
  have hk0i : (k0 : Int) < (nodes.length : Int) := by omega
  have hk0j : (0 : Int) ≤ (k0 : Int) := by omega
  have H1 := Lib.hid (row_blk_swap (H.alloc [.int .i64 30, .int .i64 a1, .int .i64 a2, .int .i64 a3, .int .i64 a4, .int .i64 a5, .int .i64 a6, .int .i64 a7, .string nm, .slice (some ⟨gk, ok, none⟩) 1 ck] 45) rfl)
  have hf0 : Fr w0 _ := fr_of_kp H1.out.kp
  have CX := Lib.hid cx0
  replace y0 := fr_cell hf0 y0
  replace y1 := fr_cell hf0 y1
  replace y2 := fr_cell hf0 y2
  replace y3 := fr_cell hf0 y3
  replace y4 := fr_cell hf0 y4
  replace y5 := fr_cell hf0 y5
  replace y6 := fr_cell hf0 y6
  replace y7 := fr_cell hf0 y7
  replace y8 := fr_cell hf0 y8
  replace y9 := fr_cell hf0 y9
  replace cx0 := fr_cell hf0 cx0
  have x0 := H1.out.cell 0 rfl 0 rfl
  have x9 := H1.out.cell 2 rfl 9 rfl
  obtain ⟨PP, hPP⟩ : ∃ PP, PP = Tm.operation nodes (⟨30, a1, a2, a3, a4, a5, a6, a7, nm, [(k0 : Int)]⟩ : Nd) := ⟨_, rfl⟩
  rw [← hPP]
  have HPP := Lib.hid hPP
  have i01 : (0 : Int) < 1 := by decide
  obtain ⟨W, hW⟩ : ∃ W, W = w.alloc (.cells #[.int .i64 30, .int .i64 a1, .int .i64 a2, .int .i64 a3, .int .i64 a4, .int .i64 a5, .int .i64 a6, .int .i64 a7, .string nm, .slice (some ⟨gk, ok, none⟩) 1 ck] 45) := ⟨_, rfl⟩
  have HW := Lib.hid hW
  have hbW := hb
  clear H hr hPP hf0 hg0 hW
  clear hbW
  unfold ndV
  dsimp only
  go_enter Tryd.func74, Tryd.ntmps74
  go_upto_region 1 with fail
  refine Reg.wp_region_text (by kernel_rfl) (by kernel_rfl) ?_
  go_wp2_with fail
  refine (level_c N0 _ _).mono ?_
  rintro e w1 ⟨rfl, hf1⟩
  replace H1 := Lib.hid (H1.out.drew.ch0 hf1)
  clear hf1 x0 x9 cx0 y0 y1 y2 y3 y4 y5 y6 y7 y8 y9
  have x9 := H1.out.cell 2 rfl 9 rfl
  have x6 := H1.out.cell 2 rfl 6 rfl
  have x0 := H1.out.cell 2 rfl 0 rfl
  have cx := fr_cell (fr_of_kp H1.out.kp) CX.out
  have HG2 : Hid (Tm.level (Tm.nodeAt nodes (k0 : Int)) = Tm.level N0) := Lib.hid (by rw [HG.out])
  generalize Tm.level N0 = L0 at HG2 ⊢
  go_wp2_with fail
  refine ⟨by kernel_rfl, ?_⟩
  have hsz := sign_size a6
  have hc : partsC [.s (Tm.sign a6)] = [.string (ba (Tm.sign a6)), .bool false, .int .i64 0, .int .i64 0] := rfl
  have HC := Lib.hid hc
  clear hc
  go_upto_region 12 with (first
    | (go_at_call 83; refine (sign_c _ (by omega) (by omega) _).mono ?_; rintro e w' ⟨rfl, hf⟩; replace H1 := Lib.hid (H1.out.ch0 hf); replace x9 := fr_cell hf x9; replace cx := fr_cell hf cx; clear hf)
    | (go_at_call 69; refine (say_c _ _).mono ?_; rintro e w' ⟨rfl, hf⟩; replace H1 := Lib.hid (H1.out.ch0 hf); replace x9 := fr_cell hf x9; replace cx := fr_cell hf cx; clear hf))
  have hlt9 := block_lt_of_cell x9
  have hltk := block_lt_of_cell cx
  replace H1 := Lib.hid ((H1.out.alloc [.string (ba (Tm.sign a6)), .bool false, .int .i64 0, .int .i64 0] 67).asRow 0 rfl 4 1 rfl (by decide))
  go_wp2_with (first
    | (go_at_call 82; refine (value_c2 _ _ _).mono ?_; rintro e w' ⟨gv, cv, rfl, hf, hg⟩; replace H1 := Lib.hid (hg _ _ _ H1.out); clear hf hg)
    | (at_builtin; go_must (refine Hs.pushS rfl _ _ 62 rfl 67 i0 _ 4 40 (by kernel_rfl) hi0 hz0 hz1 hz2 rfl (Nat.succ_pos _) (Nat.le_of_ble_eq_true rfl) 1 _ 1 [.string (ba (Tm.sign a6)), .bool false, .int .i64 0, .int .i64 0] rfl _ _ _ (partsC (Tm.value (k0 : Int) (decide (L0 < 6)))) rfl rfl (partsC_len _) (partsC_all _) (by have := value_le (k0 : Int) (decide (L0 < 6)); omega) (fun _ => ⟨_, rfl, H1.out.newsRow 0 rfl⟩) H1.out ?_)))
  intro v1 w2 hh1
  obtain ⟨V, hV⟩ : ∃ V, V = Tm.value (k0 : Int) (decide (L0 < 6)) := ⟨_, rfl⟩
  have hV4 : V.length ≤ 3 := by rw [hV]; exact value_le _ _
  rw [← hV] at hh1
  have HV := Lib.hid hV
  replace H1 := Lib.hid (show Hs (fun k => k < w0.heap.size) w0 w2 (.row 67 4 v1 ([Part.s (Tm.sign a6)] ++ V).length (partsC ([Part.s (Tm.sign a6)] ++ V)) :: .blk p 64 [.slice (some ⟨gn, on, none⟩) nodes.length cn, fu, todo, out] :: .row 67 4 todo R.length (partsC R) :: .blk w.heap.size 45 [.int .i64 30, .int .i64 a1, .int .i64 a2, .int .i64 a3, .int .i64 a4, .int .i64 a5, .int .i64 a6, .int .i64 a7, .string nm, .slice (some ⟨gk, ok, none⟩) 1 ck] :: rest) by
    rw [partsC_app, List.length_append]; exact hh1.tail)
  clear hV hh1
  go_wp2_with fail
  refine (put_c _ p _ fu todo out _ R ([.s (Tm.sign a6)] ++ V) _ H1.out (by simp only [List.length_append, List.length_cons, List.length_nil]; omega)).mono ?_
  rintro e w3 ⟨rfl, hp⟩
  have HP := Lib.hid hp
  clear hp
  go_wp2_with fail
  first | go_end0 | refine bodyPost_ret (results_none rfl _ _ _) rfl ?_
  refine ⟨rfl, ?_⟩
  have h := HP.out.drop
  have e : PP = [.s (Tm.sign a6)] ++ V := by
    rw [HPP.out, HV.out, ← HG2.out]; rfl
  rw [e]
  exact h
set_option maxRecDepth 100000 in
set_option maxHeartbeats 16000000 in
theorem oper_31 {w0 : World} (w : World) (p : Nat) (nd fu todo out : Value) (R : List Part) (rest : List Res) (nodes : List Nd) (funcs : List Int) (a1 a2 a3 a4 a5 a6 a7 : Int) (nm : ByteArray) (k0 k1 : Nat) (kv : Value) (HT0 : TreeRd w0 nodes funcs nd fu) (hk0 : k0 < nodes.length) (hk1 : k1 < nodes.length) (ho : 1 ≤ a6 ∧ a6 ≤ 19) 
    (H : Hs (fun k => k < w0.heap.size) w0 w (.blk p 64 [nd, fu, todo, out] :: .row 67 4 todo R.length (partsC R) :: rest)) (hr : RdS w0 kv 2 (ints [(k0 : Int), (k1 : Int)])) (hb : R.length + 10 ≤ 1000000000) :
    Calls Tryd.prog 74 #[.pointer (some ⟨p, 0, none⟩), ndV (⟨31, a1, a2, a3, a4, a5, a6, a7, nm, [(k0 : Int), (k1 : Int)]⟩ : Nd) kv] w fun e w' => e = .returned (.tuple #[]) ∧ PS (fun k => k < w0.heap.size) w0 w' p nd fu out (R ++ (Tm.operation nodes (⟨31, a1, a2, a3, a4, a5, a6, a7, nm, [(k0 : Int), (k1 : Int)]⟩ : Nd)).reverse) rest := by
  obtain ⟨i0, hi0, hz0, hz1, hz2⟩ := info_parts infoJob
  obtain ⟨ak, ck, rfl, hck⟩ : ∃ ak ck, kv = .slice ak 2 ck ∧ 2 ≤ ck := by obtain ⟨a, c, h1, h2, _⟩ := hr; exact ⟨a, c, h1, h2⟩
  obtain ⟨gn, on, cn, rfl⟩ : ∃ gn on cn, nd = .slice (some ⟨gn, on, none⟩) nodes.length cn := by
    obtain ⟨_, _, ⟨a, c, rfl, _, _⟩, _⟩ := HT0.nds
    obtain ⟨g, off, ak, ck, rfl, _⟩ := node_at HT0 hk0
    exact ⟨_, _, _, rfl⟩
  obtain ⟨gk, ok, rfl, cx0⟩ := rdS_int (l := [(k0 : Int), (k1 : Int)]) hr (i := 0) rfl
  rw [Nat.add_zero] at cx0
  have cx1 := CX0 (l := [(k0 : Int), (k1 : Int)]) hr rfl (i := 1) rfl
  have CX1 := Lib.hid cx1
  obtain ⟨_, _, bk1, dk1, he1, _, z0, z1, z2, z3, z4, z5, z6, z7, z8, z9⟩ := node_at HT0 hk1
  injection he1 with he1
  injection he1 with he11 he12
  subst he11 he12
  have hg1 : Tm.nodeAt nodes (k1 : Int) = nodes[k1] := by unfold Tm.nodeAt; rw [Int.toNat_natCast, Tm.getD_get hk1]
  generalize nodes[k1] = N1 at z0 z1 z2 z3 z4 z5 z6 z7 z8 z9 hg1
  have HG1 := Lib.hid hg1
  have Z := Lib.hid (And.intro z0 (And.intro z1 (And.intro z2 (And.intro z3 (And.intro z4 (And.intro z5 (And.intro z6 (And.intro z7 (And.intro z8 z9)))))))))
  clear cx1 z0 z1 z2 z3 z4 z5 z6 z7 z8 z9 hg1
  have hk1i : (k1 : Int) < (nodes.length : Int) := by omega
  have hk1j : (0 : Int) ≤ (k1 : Int) := by omega
  obtain ⟨_, _, bk, dk, he, _, y0, y1, y2, y3, y4, y5, y6, y7, y8, y9⟩ := node_at HT0 hk0
  injection he with he
  injection he with he1 he2
  subst he1 he2
  have hg0 : Tm.nodeAt nodes (k0 : Int) = nodes[k0] := by unfold Tm.nodeAt; rw [Int.toNat_natCast, Tm.getD_get hk0]
  generalize nodes[k0] = N0 at y0 y1 y2 y3 y4 y5 y6 y7 y8 y9 hg0
  have HG := Lib.hid hg0
  have hk0i : (k0 : Int) < (nodes.length : Int) := by omega
  have hk0j : (0 : Int) ≤ (k0 : Int) := by omega
  have H1 := Lib.hid (row_blk_swap (H.alloc [.int .i64 31, .int .i64 a1, .int .i64 a2, .int .i64 a3, .int .i64 a4, .int .i64 a5, .int .i64 a6, .int .i64 a7, .string nm, .slice (some ⟨gk, ok, none⟩) 2 ck] 45) rfl)
  have hf0 : Fr w0 _ := fr_of_kp H1.out.kp
  have CX := Lib.hid cx0
  replace y0 := fr_cell hf0 y0
  replace y1 := fr_cell hf0 y1
  replace y2 := fr_cell hf0 y2
  replace y3 := fr_cell hf0 y3
  replace y4 := fr_cell hf0 y4
  replace y5 := fr_cell hf0 y5
  replace y6 := fr_cell hf0 y6
  replace y7 := fr_cell hf0 y7
  replace y8 := fr_cell hf0 y8
  replace y9 := fr_cell hf0 y9
  replace cx0 := fr_cell hf0 cx0
  have x0 := H1.out.cell 0 rfl 0 rfl
  have x9 := H1.out.cell 2 rfl 9 rfl
  obtain ⟨PP, hPP⟩ : ∃ PP, PP = Tm.operation nodes (⟨31, a1, a2, a3, a4, a5, a6, a7, nm, [(k0 : Int), (k1 : Int)]⟩ : Nd) := ⟨_, rfl⟩
  rw [← hPP]
  have HPP := Lib.hid hPP
  have i01 : (0 : Int) < 2 := by decide
  obtain ⟨W, hW⟩ : ∃ W, W = w.alloc (.cells #[.int .i64 31, .int .i64 a1, .int .i64 a2, .int .i64 a3, .int .i64 a4, .int .i64 a5, .int .i64 a6, .int .i64 a7, .string nm, .slice (some ⟨gk, ok, none⟩) 2 ck] 45) := ⟨_, rfl⟩
  have HW := Lib.hid hW
  have hbW := hb
  clear H hr hPP hf0 hg0 hW
  clear hbW
  unfold ndV
  dsimp only
  go_enter Tryd.func74, Tryd.ntmps74
  go_upto_region 1 with fail
  refine Reg.wp_region_text (by kernel_rfl) (by kernel_rfl) ?_
  go_wp2_with fail
  refine (level_c N0 _ _).mono ?_
  rintro e w1 ⟨rfl, hf1⟩
  replace H1 := Lib.hid (H1.out.drew.ch0 hf1)
  clear hf1 x0 x9 cx0 y0 y1 y2 y3 y4 y5 y6 y7 y8 y9
  have x9 := H1.out.cell 2 rfl 9 rfl
  have x6 := H1.out.cell 2 rfl 6 rfl
  have x0 := H1.out.cell 2 rfl 0 rfl
  have cx := fr_cell (fr_of_kp H1.out.kp) CX.out
  have HG2 : Hid (Tm.level (Tm.nodeAt nodes (k0 : Int)) = Tm.level N0) := Lib.hid (by rw [HG.out])
  generalize Tm.level N0 = L0 at HG2 ⊢
  go_wp2_with fail
  refine ⟨by kernel_rfl, ?_⟩
  have x1 := H1.out.cell 2 rfl 1 rfl
  have x2 := H1.out.cell 2 rfl 2 rfl
  have x3 := H1.out.cell 2 rfl 3 rfl
  have x4 := H1.out.cell 2 rfl 4 rfl
  have x5 := H1.out.cell 2 rfl 5 rfl
  have x7 := H1.out.cell 2 rfl 7 rfl
  have x8 := H1.out.cell 2 rfl 8 rfl
  go_upto_region 4 with (first | (go_at_call 81; refine (level_c (⟨31, a1, a2, a3, a4, a5, a6, a7, nm, [(k0 : Int), (k1 : Int)]⟩ : Nd) _ _).mono ?_; rintro e w' ⟨rfl, hf⟩; replace H1 := Lib.hid (H1.out.ch0 hf); replace x9 := fr_cell hf x9; replace cx := fr_cell hf cx; clear hf x0 x1 x2 x3 x4 x5 x6 x7 x8))
  obtain ⟨own, hown⟩ : ∃ own, own = Tm.level (⟨31, a1, a2, a3, a4, a5, a6, a7, nm, [(k0 : Int), (k1 : Int)]⟩ : Nd) := ⟨_, rfl⟩
  rw [← hown]
  have HOwn := Lib.hid hown
  clear hown
  obtain ⟨B, hB⟩ : ∃ B : Bool, B = (decide (L0 < own) || (decide (L0 = 3) && decide (own = 3))) := ⟨_, rfl⟩
  have HB := Lib.hid hB
  clear hB
  go_cut [8] (fun v8 wx => Hs (fun k => k < w0.heap.size) w0 wx (.row 67 4 v8 (Tm.value (k0 : Int) B).length (partsC (Tm.value (k0 : Int) B)) :: .blk p 64 [.slice (some ⟨gn, on, none⟩) nodes.length cn, fu, todo, out] :: .row 67 4 todo R.length (partsC R) :: .blk w.heap.size 45 [.int .i64 31, .int .i64 a1, .int .i64 a2, .int .i64 a3, .int .i64 a4, .int .i64 a5, .int .i64 a6, .int .i64 a7, .string nm, .slice (some ⟨gk, ok, none⟩) 2 ck] :: rest))
  case first =>
    cases q1 : decide (L0 < own) with
    | true =>
      have hb1 : Hid (B = true) := Lib.hid (by rw [HB.out, q1]; rfl)
      go_wp2_with (first | (go_at_call 82; refine (value_c2 _ _ _).mono ?_; rintro e w' ⟨gv, cv, rfl, hf, hg⟩; replace H1 := Lib.hid (hg _ _ _ H1.out); clear hf hg))
      go_meet
      case rel => rw [hb1.out]; exact H1.out
    | false =>
      cases q2 : (L0 == 3) with
      | false =>
        have hb1 : Hid (B = false) := Lib.hid (by rw [HB.out, q1, decide_eq_false (by simpa using q2)]; rfl)
        go_wp2_with (first | (go_at_call 82; refine (value_c2 _ _ _).mono ?_; rintro e w' ⟨gv, cv, rfl, hf, hg⟩; replace H1 := Lib.hid (hg _ _ _ H1.out); clear hf hg))
        go_meet
        case rel => rw [hb1.out]; exact H1.out
      | true =>
        cases q3 : (own == 3) with
        | false =>
          have hb1 : Hid (B = false) := Lib.hid (by rw [HB.out, q1, decide_eq_true (by simpa using q2), decide_eq_false (by simpa using q3)]; rfl)
          go_wp2_with (first | (go_at_call 82; refine (value_c2 _ _ _).mono ?_; rintro e w' ⟨gv, cv, rfl, hf, hg⟩; replace H1 := Lib.hid (hg _ _ _ H1.out); clear hf hg))
          go_meet
          case rel => rw [hb1.out]; exact H1.out
        | true =>
          have hb1 : Hid (B = true) := Lib.hid (by rw [HB.out, q1, decide_eq_true (by simpa using q2), decide_eq_true (by simpa using q3)]; rfl)
          go_wp2_with (first | (go_at_call 82; refine (value_c2 _ _ _).mono ?_; rintro e w' ⟨gv, cv, rfl, hf, hg⟩; replace H1 := Lib.hid (hg _ _ _ H1.out); clear hf hg))
          go_meet
          case rel => rw [hb1.out]; exact H1.out
  case rest =>
  replace H1 := Lib.hid hcut
  obtain ⟨V, hV⟩ : ∃ V, V = Tm.value (k0 : Int) B := ⟨_, rfl⟩
  have hV4 : V.length ≤ 3 := by rw [hV]; exact value_le _ _
  rw [← hV] at H1
  have HV := Lib.hid hV
  clear hcut hV x9 cx
  have x6 := H1.out.cell 3 rfl 6 rfl
  have hsz := sign_size a6
  have s0 := cat_run ⟨#[32]⟩ (ba (Tm.sign a6)) (by simp only [bsize, List.size_toArray, List.length_cons, List.length_nil]; omega)
  have s1 := cat_run (⟨#[32]⟩ ++ ba (Tm.sign a6)) ⟨#[32]⟩ (by simp only [ByteArray.size_append, bsize, List.size_toArray, List.length_cons, List.length_nil]; omega)
  have hVb : V.length ≤ 1000000000 := by omega
  go_wp2_with (first
    | (go_at_call 83; refine (sign_c _ (by omega) (by omega) _).mono ?_; rintro e w' ⟨rfl, hf⟩; replace H1 := Lib.hid (H1.out.ch0 hf); clear hf x6)
    | (go_at_call 69; refine (say_c _ _).mono ?_; rintro e w' ⟨rfl, hf⟩; replace H1 := Lib.hid (H1.out.ch0 hf); clear hf)
    | (at_builtin; go_must (refine Hs.push rfl _ _ 62 rfl 67 i0 _ 4 40 (by kernel_rfl) hi0 hz0 hz1 hz2 rfl (Nat.succ_pos _) (Nat.le_of_ble_eq_true rfl) 1 _ V.length (partsC V) rfl 0 _ [.string (⟨#[32]⟩ ++ ba (Tm.sign a6) ++ ⟨#[32]⟩), .bool false, .int .i64 0, .int .i64 0] rfl rfl rfl rfl rfl hVb (H1.out.alloc [.string (⟨#[32]⟩ ++ ba (Tm.sign a6) ++ ⟨#[32]⟩), .bool false, .int .i64 0, .int .i64 0] 67) ?_)))
  intro v1 w2 hh1
  obtain ⟨V2, hV2⟩ : ∃ V2, V2 = V ++ [Part.s ([32] ++ Tm.sign a6 ++ [32])] := ⟨_, rfl⟩
  have hc2 : partsC V2 = partsC V ++ [.string (⟨#[32]⟩ ++ ba (Tm.sign a6) ++ ⟨#[32]⟩), .bool false, .int .i64 0, .int .i64 0] := by
    rw [hV2, partsC_app]
    show partsC V ++ ([.string (ba ([32] ++ Tm.sign a6 ++ [32])), .bool false, .int .i64 0, .int .i64 0] : List Value) = _
    rw [ba_app, ba_app]; rfl
  have hl2 : V2.length = V.length + 1 := by rw [hV2]; simp
  replace H1 := Lib.hid (show Hs (fun k => k < w0.heap.size) w0 w2 (.row 67 4 v1 V2.length (partsC V2) :: .blk p 64 [.slice (some ⟨gn, on, none⟩) nodes.length cn, fu, todo, out] :: .row 67 4 todo R.length (partsC R) :: .blk w.heap.size 45 [.int .i64 31, .int .i64 a1, .int .i64 a2, .int .i64 a3, .int .i64 a4, .int .i64 a5, .int .i64 a6, .int .i64 a7, .string nm, .slice (some ⟨gk, ok, none⟩) 2 ck] :: rest) by
    rw [hc2, hl2]; exact hh1.tail)
  have HV2 := Lib.hid hV2
  have hV5 : V2.length ≤ 4 := by omega
  clear hh1 hV2 hc2 hl2 s0 s1 hsz
  go_upto_region 6 with fail
  replace H1 := Lib.hid H1.out.drew
  have x9 := H1.out.cell 3 rfl 9 rfl
  have x0 := H1.out.cell 1 rfl 0 rfl
  have hfz := fr_of_kp H1.out.kp
  have cx1 := fr_cell hfz CX1.out
  obtain ⟨z0, z1, z2, z3, z4, z5, z6, z7, z8, z9⟩ := Z.out
  replace z0 := fr_cell hfz z0; replace z1 := fr_cell hfz z1; replace z2 := fr_cell hfz z2; replace z3 := fr_cell hfz z3; replace z4 := fr_cell hfz z4; replace z5 := fr_cell hfz z5; replace z6 := fr_cell hfz z6; replace z7 := fr_cell hfz z7; replace z8 := fr_cell hfz z8; replace z9 := fr_cell hfz z9
  clear hfz
  have i11 : (1 : Int) < 2 := by decide
  go_region_held3 (fun w' => w'.cell? ⟨w.heap.size, 9, none⟩ = some (.slice (some ⟨gk, ok, none⟩) 2 ck) ∧ w'.cell? ⟨p, 0, none⟩ = some (.slice (some ⟨gn, on, none⟩) nodes.length cn) ∧ w'.cell? ⟨gk, ok + 1, none⟩ = some (.int .i64 (k1 : Int)) ∧ w'.cell? ⟨gn, on + k1 * 10, none⟩ = some (.int .i64 N1.kind) ∧ w'.cell? ⟨gn, on + k1 * 10 + 1, none⟩ = some (.int .i64 N1.at_) ∧ w'.cell? ⟨gn, on + k1 * 10 + 2, none⟩ = some (.int .i64 N1.where_) ∧ w'.cell? ⟨gn, on + k1 * 10 + 3, none⟩ = some (.int .i64 N1.close) ∧ w'.cell? ⟨gn, on + k1 * 10 + 4, none⟩ = some (.int .i64 N1.decl) ∧ w'.cell? ⟨gn, on + k1 * 10 + 5, none⟩ = some (.int .i64 N1.type) ∧ w'.cell? ⟨gn, on + k1 * 10 + 6, none⟩ = some (.int .i64 N1.op) ∧ w'.cell? ⟨gn, on + k1 * 10 + 7, none⟩ = some (.int .i64 N1.value) ∧ w'.cell? ⟨gn, on + k1 * 10 + 8, none⟩ = some (.string N1.name) ∧ w'.cell? ⟨gn, on + k1 * 10 + 9, none⟩ = some (.slice bk1 N1.kids.length dk1)) (go_keep) (first
    | (go_at_call 81; refine (level_c N1 _ _).mono ?_; rintro e w' ⟨rfl, hf⟩; replace H1 := Lib.hid (H1.out.ch0 hf); replace x9 := fr_cell hf x9; replace x0 := fr_cell hf x0; replace cx1 := fr_cell hf cx1; replace z0 := fr_cell hf z0; replace z1 := fr_cell hf z1; replace z2 := fr_cell hf z2; replace z3 := fr_cell hf z3; replace z4 := fr_cell hf z4; replace z5 := fr_cell hf z5; replace z6 := fr_cell hf z6; replace z7 := fr_cell hf z7; replace z8 := fr_cell hf z8; replace z9 := fr_cell hf z9; clear hf)
    | (go_at_call 82; refine (value_c2 _ _ _).mono ?_; rintro e w' ⟨gv, cv, rfl, hf, hg⟩; replace H1 := Lib.hid (hg _ _ _ H1.out); replace x9 := fr_cell hf x9; replace x0 := fr_cell hf x0; replace cx1 := fr_cell hf cx1; replace z0 := fr_cell hf z0; replace z1 := fr_cell hf z1; replace z2 := fr_cell hf z2; replace z3 := fr_cell hf z3; replace z4 := fr_cell hf z4; replace z5 := fr_cell hf z5; replace z6 := fr_cell hf z6; replace z7 := fr_cell hf z7; replace z8 := fr_cell hf z8; replace z9 := fr_cell hf z9; clear hf hg)
    | (refine Hs.stepPush rfl _ _ 62 rfl 67 i0 _ 4 40 (by kernel_rfl) hi0 hz0 hz1 hz2 rfl (Nat.succ_pos _) (Nat.le_of_ble_eq_true rfl) 1 _ V2.length (partsC V2) rfl _ _ _ (partsC (Tm.value (k1 : Int) (decide (Tm.level N1 ≤ own)))) rfl rfl (value_pos _ _) (partsC_len _) (partsC_all _) (by have := value_le (k1 : Int) (decide (Tm.level N1 ≤ own)); omega) (H1.out.newsRow 0 rfl) H1.out ?_; rintro v2 w3 hh1; replace H1 := Lib.hid hh1.tail; clear hh1; replace x9 := H1.out.cell 3 rfl 9 rfl; replace x0 := H1.out.cell 1 rfl 0 rfl; have hfz := fr_of_kp H1.out.kp; replace cx1 := fr_cell hfz CX1.out; obtain ⟨z0, z1, z2, z3, z4, z5, z6, z7, z8, z9⟩ := Z.out; replace z0 := fr_cell hfz z0; replace z1 := fr_cell hfz z1; replace z2 := fr_cell hfz z2; replace z3 := fr_cell hfz z3; replace z4 := fr_cell hfz z4; replace z5 := fr_cell hfz z5; replace z6 := fr_cell hfz z6; replace z7 := fr_cell hfz z7; replace z8 := fr_cell hfz z8; replace z9 := fr_cell hfz z9; clear hfz)
    | (go_at_call 31; refine (put_c _ p _ fu todo out _ R (V2 ++ Tm.value (k1 : Int) (decide (Tm.level N1 ≤ own))) _ (by rw [partsC_app, List.length_append]; exact H1.out) (by have := value_le (k1 : Int) (decide (Tm.level N1 ≤ own)); simp only [List.length_append]; omega)).mono ?_; rintro e w3 ⟨rfl, hp⟩; have HP := Lib.hid hp; clear hp; obtain ⟨td2, hq⟩ := HP.out; replace x9 := hq.cell 2 rfl 9 rfl; replace x0 := hq.cell 0 rfl 0 rfl; have hfz := fr_of_kp hq.kp; replace cx1 := fr_cell hfz CX1.out; obtain ⟨z0, z1, z2, z3, z4, z5, z6, z7, z8, z9⟩ := Z.out; replace z0 := fr_cell hfz z0; replace z1 := fr_cell hfz z1; replace z2 := fr_cell hfz z2; replace z3 := fr_cell hfz z3; replace z4 := fr_cell hfz z4; replace z5 := fr_cell hfz z5; replace z6 := fr_cell hfz z6; replace z7 := fr_cell hfz z7; replace z8 := fr_cell hfz z8; replace z9 := fr_cell hfz z9; clear hfz; clear hq))
  go_wp2_with fail
  first | go_end0 | refine bodyPost_ret (results_none rfl _ _ _) rfl ?_
  refine ⟨rfl, ?_⟩
  have h := HP.out.drop
  have e : PP = V2 ++ Tm.value (k1 : Int) (decide (Tm.level N1 ≤ own)) := by
    rw [HPP.out, HV2.out, HV.out, HB.out, ← HG2.out, HOwn.out, ← HG1.out]
    show Tm.value _ _ ++ _ = _
    simp [Tm.nodeAt]
  rw [e]
  exact h
end Go.Proofs.YtllahgnpjodgmaaDoor
