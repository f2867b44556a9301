/- The printer's functions. -/
import Derived.Test.YtllahgnpjodgmaaDoorTJ
set_option linter.unusedVariables false
namespace Go.Proofs.YtllahgnpjodgmaaDoor
open Go Go.RowKit Mem Pm
open Tm (Part)
def par (nodes : List Nd) (k : Int) : Part := .s (Tm.nm (Tm.nodeAt nodes k) ++ [32] ++ Tm.typeName (Tm.nodeAt nodes k).decl)
theorem params_snoc (nodes : List Nd) (k : Int) : ∀ l : List Int, Tm.params nodes (l ++ [k]) = if l = [] then [par nodes k] else Tm.params nodes l ++ [.s [44, 32], par nodes k]
  | [] => rfl
  | [a] => rfl
  | a :: b :: l => by
    have ih := params_snoc nodes k (b :: l)
    rw [if_neg (by simp)] at ih ⊢
    show par nodes a :: Part.s [44, 32] :: Tm.params nodes ((b :: l) ++ [k]) = par nodes a :: Part.s [44, 32] :: Tm.params nodes (b :: l) ++ _
    rw [ih]; rfl
theorem params_len (nodes : List Nd) : ∀ l : List Int, (Tm.params nodes l).length ≤ 2 * l.length
  | [] => Nat.le_refl _
  | [a] => by show 1 ≤ 2; decide
  | a :: b :: l => by
    have ih := params_len nodes (b :: l)
    show (par nodes a :: Part.s [44, 32] :: Tm.params nodes (b :: l)).length ≤ _
    simp only [List.length_cons] at ih ⊢
    omega
theorem params_take {nodes : List Nd} {ks : List Int} {j : Nat} {k : Int} (h : ks[j]? = some k) : Tm.params nodes (ks.take (j + 1)) = if j = 0 then [par nodes k] else Tm.params nodes (ks.take j) ++ [.s [44, 32], par nodes k] := by
  rw [List.take_add_one, h]
  show Tm.params nodes (ks.take j ++ [k]) = _
  rw [params_snoc]
  have hl := (List.getElem?_eq_some_iff.1 h).1
  by_cases hj : j = 0
  · subst hj; rfl
  · rw [if_neg hj, if_neg (fun h0 => by have h1 := congrArg List.length h0; rw [List.length_take, List.length_nil] at h1; omega)]
/-- A tree whose names are short and whose kids are nodes. -/
structure Kids (nodes : List Nd) : Prop where
  nl : nodes.length ≤ 100000000
  nm : ∀ n ∈ nodes, n.name.size ≤ 64
  kd : ∀ n ∈ nodes, ∀ k ∈ n.kids, 0 ≤ k ∧ k < (nodes.length : Int)

theorem CX0 {w0 : World} {g off N c : Nat} {l : List Int} {i : Nat} {x : Int} (h : RdS w0 (.slice (some ⟨g, off, none⟩) N c) l.length (ints l)) (hN : N = l.length) (hx : l[i]? = some x) : w0.cell? ⟨g, off + i, none⟩ = some (.int .i64 x) := by
  subst hN
  obtain ⟨g2, off2, he, hc⟩ := rdS_int h hx
  injection he with he
  injection he with h1 h2
  subst h1 h2
  exact hc
theorem row_blk_swap {A : Nat → Prop} {w0 w : World} {g : Nat} {t : TypeId} {cs ds : List Value} {a b : Res} {rest : List Res} (h : Hs A w0 w (.blk g t cs :: a :: b :: rest)) (hx : cs = ds) : Hs A w0 w (a :: b :: .blk g t ds :: rest) := by
  subst hx
  exact h.mid (l := [a, b])
set_option maxRecDepth 100000 in
set_option maxHeartbeats 16000000 in
theorem function_c {w0 : World} (w : World) (p : Nat) (nd fu todo out : Value) (R : List Part) (rest : List Res) (nodes : List Nd) (funcs : List Int) (n : Nd) (kv : Value) (HT0 : TreeRd w0 nodes funcs nd fu) (HK0 : Kids nodes) (hn : n ∈ nodes)
    (H : Hs (fun k => k < w0.heap.size) w0 w (.blk p 64 [nd, fu, todo, out] :: .row 67 4 todo R.length (partsC R) :: rest)) (hr : RdS w0 kv n.kids.length (ints n.kids)) (hb : R.length + 2 * n.kids.length + 6 ≤ 1000000000)
    (hne : n.kids ≠ []) :
    Calls Tryd.prog 45 #[.pointer (some ⟨p, 0, none⟩), ndV n kv] w fun e w' => e = .returned (.tuple #[]) ∧ PS (fun k => k < w0.heap.size) w0 w' p nd fu out (R ++ (Tm.function nodes n).reverse) rest := by
  have hkd := HK0.kd n hn
  have hnm := HK0.nm n hn
  obtain ⟨k, a1, a2, a3, a4, a5, a6, a7, nm, ks⟩ := n
  dsimp only at hr hb hne hkd hnm
  obtain ⟨ps, bk, rfl⟩ : ∃ ps bk, ks = ps ++ [bk] := ⟨ks.dropLast, ks.getLast hne, (List.dropLast_concat_getLast hne).symm⟩
  obtain ⟨i0, hi0, hz0, hz1, hz2⟩ := info_parts infoJob
  obtain ⟨N, hN⟩ : ∃ N, N = (ps ++ [bk]).length := ⟨_, rfl⟩
  have hN2 : N = ps.length + 1 := by rw [hN]; simp
  obtain ⟨ak, ck, rfl, hck⟩ : ∃ ak ck, kv = .slice ak N ck ∧ N ≤ ck := by obtain ⟨a, c, h1, h2, _⟩ := hr; exact ⟨a, c, by rw [hN]; exact h1, by rw [hN]; exact h2⟩
  obtain ⟨gn, on, cn, rfl⟩ : ∃ gn on cn, nd = .slice (some ⟨gn, on, none⟩) nodes.length cn := by
    obtain ⟨_, _, ⟨a, c, rfl, _, _⟩, _⟩ := HT0.nds
    have h1 : 0 < nodes.length := List.length_pos_of_mem hn
    obtain ⟨g, off, ak, ck, rfl, _⟩ := node_at HT0 h1
    exact ⟨_, _, _, rfl⟩
  have hbk : (ps ++ [bk])[ps.length]? = some bk := by simp
  obtain ⟨gk, ok, rfl, cb0⟩ := rdS_int (by rw [← hN] at hr ⊢; exact hr) hbk
  have CB := Lib.hid cb0
  have HT := Lib.hid HT0
  have HK := Lib.hid HK0
  have HKd := Lib.hid hkd
  have HR : Hid (RdS w0 (.slice (some ⟨gk, ok, none⟩) N ck) (ps ++ [bk]).length (ints (ps ++ [bk]))) := Lib.hid hr
  obtain ⟨NC, hNC⟩ : ∃ NC : List Value, NC = [.int .i64 k, .int .i64 a1, .int .i64 a2, .int .i64 a3, .int .i64 a4, .int .i64 a5, .int .i64 a6, .int .i64 a7, .string nm, .slice (some ⟨gk, ok, none⟩) N ck] := ⟨_, rfl⟩
  have H1 := Lib.hid (row_blk_swap (H.alloc [.int .i64 k, .int .i64 a1, .int .i64 a2, .int .i64 a3, .int .i64 a4, .int .i64 a5, .int .i64 a6, .int .i64 a7, .string nm, .slice (some ⟨gk, ok, none⟩) N ck] 45) hNC.symm)
  have HNC := Lib.hid hNC
  obtain ⟨D, hD⟩ : ∃ D : List Part, D = if a4 = 0 then [] else [.s (Tm.typeName a4 ++ [32])] := ⟨_, rfl⟩
  obtain ⟨p0, hp0⟩ : ∃ p0 : Part, p0 = .s ([102, 117, 110, 99, 32] ++ Tm.nm (⟨k, a1, a2, a3, a4, a5, a6, a7, nm, ps ++ [bk]⟩ : Nd) ++ [40]) := ⟨_, rfl⟩
  have hE : Tm.function nodes (⟨k, a1, a2, a3, a4, a5, a6, a7, nm, ps ++ [bk]⟩ : Nd) = (p0 :: Tm.params nodes ps) ++ [.s [41, 32]] ++ D ++ [.k bk 0, .s [10]] := by
    rw [hp0, hD]; unfold Tm.function; dsimp only; rw [List.dropLast_concat, List.getLastD_concat]; simp
  rw [hE]
  have hL0 : partsC [p0] = [.string (⟨#[102, 117, 110, 99, 32]⟩ ++ nm ++ ⟨#[40]⟩), .bool false, .int .i64 0, .int .i64 0] := by
    rw [hp0]
    show ([.string (ba ([102, 117, 110, 99, 32] ++ Tm.nm (⟨k, a1, a2, a3, a4, a5, a6, a7, nm, ps ++ [bk]⟩ : Nd) ++ [40])), .bool false, .int .i64 0, .int .i64 0] : List Value) = _
    rw [ba_app, ba_app, ba_nm]; rfl
  have HL0 := Lib.hid hL0
  have HD := Lib.hid hD
  have hDl : D.length ≤ 1 := by rw [hD]; split <;> simp
  have HDl := Lib.hid hDl
  have s0 := cat_run ⟨#[102, 117, 110, 99, 32]⟩ nm (by simp only [bsize, List.size_toArray, List.length_cons, List.length_nil]; omega)
  have s1 := cat_run (⟨#[102, 117, 110, 99, 32]⟩ ++ nm) ⟨#[40]⟩ (by simp only [ByteArray.size_append, bsize, List.size_toArray, List.length_cons, List.length_nil]; omega)
  obtain ⟨P, hP⟩ : ∃ P, P = ps.length := ⟨_, rfl⟩
  have hPN : (N : Int) - 1 = (P : Int) := by omega
  have hP0 : (0 : Int) ≤ (P : Int) := by omega
  have hPc : (P : Int) ≤ (ck : Int) := by omega
  have hPn : (P : Int) < (N : Int) := by omega
  have hbN : R.length + 2 * N + 6 ≤ 1000000000 := by rw [hN]; exact hb
  have hNb : (N : Int) ≤ 1000000000 := by omega
  have HBN := Lib.hid hbN
  have HP1 := Lib.hid hP
  have HN1 := Lib.hid hN2
  have x9 := (H1.out.cell 2 rfl 9 (by rw [hNC]; rfl))
  have x8 := (H1.out.cell 2 rfl 8 (by rw [hNC]; rfl))
  have x4 := (H1.out.cell 2 rfl 4 (by rw [hNC]; rfl))
  rw [← hP] at cb0
  rw [← hP] at hN2
  have CB : Hid (w0.cell? ⟨gk, ok + P, none⟩ = some (.int .i64 bk)) := Lib.hid cb0
  clear H hr hL0 hp0 hE hb hD hDl hkd hN hN2 hNC hbN hbk cb0 HT0 HK0 hn hne
  clear hP
  unfold ndV
  dsimp only
  go_enter Tryd.func45, Tryd.ntmps45
  go_wp2_with (first | (go_at_call 69; refine (say_c _ _).mono ?_; rintro e w' ⟨rfl, hf⟩; replace H1 := Lib.hid (H1.out.ch0 hf); replace x9 := fr_cell hf x9; have hlt9 := block_lt_of_cell x9; clear hf x8 x4))
  rename_i w1
  have H2 := Lib.hid ((H1.out.alloc [.string (⟨#[102, 117, 110, 99, 32]⟩ ++ nm ++ ⟨#[40]⟩), .bool false, .int .i64 0, .int .i64 0] 67).asRow 0 rfl 4 1 rfl (by decide))
  clear H1
  have hgk : gk < 0 ∨ True := .inr trivial
  clear hgk
  obtain ⟨gkk, rfl⟩ : ∃ x, x = gk := ⟨_, rfl⟩
  go_loopg [5, 23] P (fun m v5 v23 wr => ∃ j : Nat, j + m = P ∧ v23 = .int .i64 (j : Int) ∧
    Hs (fun k => k < w0.heap.size) w0 wr (.row 67 4 v5 (p0 :: Tm.params nodes (ps.take j)).length (partsC (p0 :: Tm.params nodes (ps.take j))) :: .blk p 64 [.slice (some ⟨gn, on, none⟩) nodes.length cn, fu, todo, out] :: .row 67 4 todo R.length (partsC R) :: .blk w.heap.size 45 NC :: rest))
  case atStart => exact ⟨0, by omega, rfl, row_eq H2.out HL0.out.symm⟩
  case round =>
  obtain ⟨j, hj, rfl, hh⟩ := hrel
  have H1 := Lib.hid hh
  have hlen : (p0 :: Tm.params nodes (ps.take j)).length ≤ 2 * j + 1 := by
    have := params_len nodes (ps.take j)
    rw [List.length_take] at this
    simp only [List.length_cons]; omega
  have hlenb : (p0 :: Tm.params nodes (ps.take j)).length ≤ 1000000000 := by have := HBN.out; have := HN1.out; have := HP1.out; omega
  clear hh H2
  by_cases hjl : j < P
  case pos =>
    have hji : (j : Int) < (P : Int) := by omega
    have hj0 : (0 : Int) ≤ (j : Int) := by omega
    have hjl2 : j < ps.length := by have := HP1.out; omega
    have hx : ps[j]? = some ps[j] := List.getElem?_eq_getElem hjl2
    have hx2 : (ps ++ [bk])[j]? = some ps[j] := by rw [List.getElem?_append_left hjl2]; exact hx
    have cx0 := CX0 HR.out (by rw [HN1.out]; simp) hx2
    have hjt := params_take (nodes := nodes) hx
    have hkr := HKd.out ps[j] (by simp)
    have HJt := Lib.hid hjt
    have CX := Lib.hid cx0
    clear hx hjt hx2 cx0
    generalize ps[j] = kid at CX HJt hkr
    obtain ⟨kn, rfl⟩ : ∃ kn : Nat, kid = (kn : Int) := ⟨kid.toNat, by omega⟩
    have hkn : kn < nodes.length := by omega
    obtain ⟨_, _, _, _, he, _, _, _, _, _, y4, _, _, _, y8, _⟩ := node_at HT.out hkn
    injection he with he
    injection he with he1 he2
    subst he1 he2
    have hps : (HK.out.nm _ (List.getElem_mem hkn)) = (HK.out.nm _ (List.getElem_mem hkn)) := rfl
    have hpsz := HK.out.nm _ (List.getElem_mem hkn)
    have hpar : par nodes (kn : Int) = .s (Tm.nm nodes[kn] ++ [32] ++ Tm.typeName (nodes[kn]).decl) := by
      unfold par Tm.nodeAt; rw [Int.toNat_natCast, Tm.getD_get hkn]
    have hcell : partsC [par nodes (kn : Int)] = [.string ((nodes[kn]).name ++ ⟨#[32]⟩ ++ ba (Tm.typeName (nodes[kn]).decl)), .bool false, .int .i64 0, .int .i64 0] := by
      rw [hpar]
      show ([.string (ba (Tm.nm nodes[kn] ++ [32] ++ Tm.typeName (nodes[kn]).decl)), .bool false, .int .i64 0, .int .i64 0] : List Value) = _
      rw [ba_app, ba_app, ba_nm]; rfl
    have HC := Lib.hid hcell
    clear hps hpar hcell
    have hkn1 : (kn : Int) < (nodes.length : Int) := hkr.2
    have hkn0 : (0 : Int) ≤ (kn : Int) := hkr.1
    generalize (nodes[kn]).name = pn at y8 hpsz HC
    generalize (nodes[kn]).decl = pd at y4 HC
    have Y8 := Lib.hid y8
    have Y4 := Lib.hid y4
    have hty := tyName_size pd
    have s2 := cat_run pn ⟨#[32]⟩ (by simp only [bsize, List.size_toArray, List.length_cons, List.length_nil]; omega)
    have s3 := cat_run (pn ++ ⟨#[32]⟩) (ba (Tm.typeName pd)) (by simp only [ByteArray.size_append, bsize, List.size_toArray, List.length_cons, List.length_nil]; omega)
    clear y8 y4 hty hpsz hkr
    obtain ⟨L, hL⟩ : ∃ L, L = p0 :: Tm.params nodes (ps.take j) := ⟨_, rfl⟩
    rw [← hL] at H1 hlenb hlen
    have HL := Lib.hid hL
    clear hL
    have cx := fr_cell (fr_of_kp H1.out.kp) CX.out
    by_cases hj1 : j = 0
    · subst hj1
      replace cx : wr.cell? ⟨gkk, ok, none⟩ = some (.int .i64 (kn : Int)) := cx
      have hz : ¬ ((0 : Int) < ((0 : Nat) : Int)) := by decide
      go_upto_region 8 with fail
      replace H1 := Lib.hid H1.out.drew
      have x0 := H1.out.cell 1 rfl 0 rfl
      have y8' := fr_cell (fr_of_kp H1.out.kp) Y8.out
      have y4' := fr_cell (fr_of_kp H1.out.kp) Y4.out
      go_region_held3 (fun w' => w'.cell? ⟨p, 0, none⟩ = some (.slice (some ⟨gn, on, none⟩) nodes.length cn) ∧ w'.cell? ⟨gn, on + kn * 10 + 8, none⟩ = some (.string pn) ∧ w'.cell? ⟨gn, on + kn * 10 + 4, none⟩ = some (.int .i64 pd)) (go_keep) (first
        | (go_at_call 70; refine (typeName_c _ _).mono ?_; rintro e w' ⟨rfl, rfl⟩)
        | (go_at_call 69; refine (say_c _ _).mono ?_; rintro e w' ⟨rfl, hf⟩; replace H1 := Lib.hid (H1.out.ch0 hf); replace x0 := fr_cell hf x0; replace y8' := fr_cell hf y8'; replace y4' := fr_cell hf y4'; clear hf)
        | (refine Hs.stepPush rfl _ _ 62 rfl 67 i0 _ 4 40 (by kernel_rfl) hi0 hz0 hz1 hz2 rfl (Nat.succ_pos _) (Nat.le_of_ble_eq_true rfl) 1 _ L.length (partsC L) rfl _ 1 1 [.string (pn ++ ⟨#[32]⟩ ++ ba (Tm.typeName pd)), .bool false, .int .i64 0, .int .i64 0] rfl rfl (by decide) rfl rfl (by omega) ((H1.out.alloc [.string (pn ++ ⟨#[32]⟩ ++ ba (Tm.typeName pd)), .bool false, .int .i64 0, .int .i64 0] 67).news 0 rfl) (H1.out.alloc [.string (pn ++ ⟨#[32]⟩ ++ ba (Tm.typeName pd)), .bool false, .int .i64 0, .int .i64 0] 67) ?_; rintro v1 w2 hh1; replace H1 := Lib.hid hh1.tail; clear hh1; replace x0 := H1.out.cell 1 rfl 0 rfl; replace y8' := fr_cell (fr_of_kp H1.out.kp) Y8.out; replace y4' := fr_cell (fr_of_kp H1.out.kp) Y4.out))
      clear x0 y8' y4'
      go_wp2_with fail
      go_roundg (gk - 1)
      case measure => omega
      case rel =>
        refine ⟨0 + 1, by omega, by go_num, ?_⟩
        have h := H1.out
        rw [HJt.out, if_pos trivial]
        rw [HL.out, ← HC.out] at h
        exact h
    · have hz : (0 : Int) < (j : Int) := by omega
      have hl2 : L.length + 1 ≤ 1000000000 := by have := HBN.out; have := HN1.out; have := HP1.out; omega
      go_wp2_with (first
        | (go_at_call 69; refine (say_c _ _).mono ?_; rintro e w' ⟨rfl, hf⟩; replace H1 := Lib.hid (H1.out.ch0 hf); replace cx := fr_cell hf cx; clear hf)
        | (at_builtin; go_must (refine Hs.push rfl _ _ 62 rfl 67 i0 _ 4 40 (by kernel_rfl) hi0 hz0 hz1 hz2 rfl (Nat.succ_pos _) (Nat.le_of_ble_eq_true rfl) 1 _ L.length (partsC L) rfl 0 _ [.string ⟨#[44, 32]⟩, .bool false, .int .i64 0, .int .i64 0] rfl rfl rfl rfl rfl hlenb (H1.out.alloc [.string ⟨#[44, 32]⟩, .bool false, .int .i64 0, .int .i64 0] 67) ?_)))
      intro v1 w2 hh1
      replace H1 := Lib.hid (show Hs (fun k => k < w0.heap.size) w0 w2 (.row 67 4 v1 (L ++ [Part.s [44, 32]]).length (partsC (L ++ [Part.s [44, 32]])) :: .blk p 64 [.slice (some ⟨gn, on, none⟩) nodes.length cn, fu, todo, out] :: .row 67 4 todo R.length (partsC R) :: .blk w.heap.size 45 NC :: rest) by
        rw [partsC_app, List.length_append]; exact hh1.tail)
      have hl3 : (L ++ [Part.s [44, 32]]).length + 1 ≤ 1000000001 := by simp only [List.length_append, List.length_cons, List.length_nil]; omega
      obtain ⟨M, hM⟩ : ∃ M, M = L ++ [Part.s [44, 32]] := ⟨_, rfl⟩
      rw [← hM] at H1 hl3
      have HM := Lib.hid hM
      clear hh1 hM
      go_upto_region 8 with fail
      replace H1 := Lib.hid H1.out.drew
      have x0 := H1.out.cell 1 rfl 0 rfl
      have y8' := fr_cell (fr_of_kp H1.out.kp) Y8.out
      have y4' := fr_cell (fr_of_kp H1.out.kp) Y4.out
      go_region_held3 (fun w' => w'.cell? ⟨p, 0, none⟩ = some (.slice (some ⟨gn, on, none⟩) nodes.length cn) ∧ w'.cell? ⟨gn, on + kn * 10 + 8, none⟩ = some (.string pn) ∧ w'.cell? ⟨gn, on + kn * 10 + 4, none⟩ = some (.int .i64 pd)) (go_keep) (first
        | (go_at_call 70; refine (typeName_c _ _).mono ?_; rintro e w' ⟨rfl, rfl⟩)
        | (go_at_call 69; refine (say_c _ _).mono ?_; rintro e w' ⟨rfl, hf⟩; replace H1 := Lib.hid (H1.out.ch0 hf); replace x0 := fr_cell hf x0; replace y8' := fr_cell hf y8'; replace y4' := fr_cell hf y4'; clear hf)
        | (refine Hs.stepPush rfl _ _ 62 rfl 67 i0 _ 4 40 (by kernel_rfl) hi0 hz0 hz1 hz2 rfl (Nat.succ_pos _) (Nat.le_of_ble_eq_true rfl) 1 _ M.length (partsC M) rfl _ 1 1 [.string (pn ++ ⟨#[32]⟩ ++ ba (Tm.typeName pd)), .bool false, .int .i64 0, .int .i64 0] rfl rfl (by decide) rfl rfl hl3 ((H1.out.alloc [.string (pn ++ ⟨#[32]⟩ ++ ba (Tm.typeName pd)), .bool false, .int .i64 0, .int .i64 0] 67).news 0 rfl) (H1.out.alloc [.string (pn ++ ⟨#[32]⟩ ++ ba (Tm.typeName pd)), .bool false, .int .i64 0, .int .i64 0] 67) ?_; rintro v1 w2 hh1; replace H1 := Lib.hid hh1.tail; clear hh1; replace x0 := H1.out.cell 1 rfl 0 rfl; replace y8' := fr_cell (fr_of_kp H1.out.kp) Y8.out; replace y4' := fr_cell (fr_of_kp H1.out.kp) Y4.out))
      clear x0 y8' y4'
      go_wp2_with fail
      go_roundg (gk - 1)
      case measure => omega
      case rel =>
        refine ⟨j + 1, by omega, by go_num, ?_⟩
        have h := H1.out
        have hcons : p0 :: Tm.params nodes (ps.take (j + 1)) = M ++ [par nodes (kn : Int)] := by
          rw [HJt.out, if_neg hj1, HM.out, HL.out]; simp
        rw [hcons, partsC_app, List.length_append, HC.out]
        exact h
  case neg =>
    have hji : ¬ (j : Int) < (P : Int) := by omega
    have htk : ps.take j = ps := List.take_of_length_le (by have := HP1.out; omega)
    rw [htk] at H1 hlen hlenb
    obtain ⟨L, hL⟩ : ∃ L, L = p0 :: Tm.params nodes ps := ⟨_, rfl⟩
    rw [← hL] at H1 hlenb hlen
    have HL := Lib.hid hL
    clear hL htk
    go_wp2_with (first
      | (go_at_call 69; refine (say_c _ _).mono ?_; rintro e w' ⟨rfl, hf⟩; replace H1 := Lib.hid (H1.out.ch0 hf); clear hf)
      | (at_builtin; go_must (refine Hs.push rfl _ _ 62 rfl 67 i0 _ 4 40 (by kernel_rfl) hi0 hz0 hz1 hz2 rfl (Nat.succ_pos _) (Nat.le_of_ble_eq_true rfl) 1 _ L.length (partsC L) rfl 0 _ [.string ⟨#[41, 32]⟩, .bool false, .int .i64 0, .int .i64 0] rfl rfl rfl rfl rfl hlenb (H1.out.alloc [.string ⟨#[41, 32]⟩, .bool false, .int .i64 0, .int .i64 0] 67) ?_)))
    intro v1 w2 hh1
    replace H1 := Lib.hid (show Hs (fun k => k < w0.heap.size) w0 w2 (.row 67 4 v1 (L ++ [Part.s [41, 32]]).length (partsC (L ++ [Part.s [41, 32]])) :: .blk p 64 [.slice (some ⟨gn, on, none⟩) nodes.length cn, fu, todo, out] :: .row 67 4 todo R.length (partsC R) :: .blk w.heap.size 45 NC :: rest) by
      rw [partsC_app, List.length_append]; exact hh1.tail)
    obtain ⟨M, hM⟩ : ∃ M, M = L ++ [Part.s [41, 32]] := ⟨_, rfl⟩
    have hlenb : M.length ≤ 1000000000 := by rw [hM]; have := HBN.out; have := HN1.out; have := HP1.out; simp only [List.length_append, List.length_cons, List.length_nil]; omega
    have hMl : M.length ≤ 2 * N + 2 := by rw [hM]; have := HN1.out; have := HP1.out; simp only [List.length_append, List.length_cons, List.length_nil]; omega
    rw [← hM] at H1
    have HM := Lib.hid hM
    have HMl := Lib.hid hMl
    clear hh1 hM hMl
    have x4 := H1.out.cell 3 rfl 4 (by rw [HNC.out]; rfl)
    have hty := tyName_size a4
    have s2 := cat_run (ba (Tm.typeName a4)) ⟨#[32]⟩ (by simp only [bsize, List.size_toArray, List.length_cons, List.length_nil]; omega)
    clear hty
    go_upto_if 66 with fail
    go_cut [5] (fun v5 wx => Hs (fun k => k < w0.heap.size) w0 wx (.row 67 4 v5 (M ++ D).length (partsC (M ++ D)) :: .blk p 64 [.slice (some ⟨gn, on, none⟩) nodes.length cn, fu, todo, out] :: .row 67 4 todo R.length (partsC R) :: .blk w.heap.size 45 NC :: rest))
    case first =>
      cases e4 : (a4 != 0) with
      | false =>
        have he : D = [] := by rw [HD.out, if_pos (by simpa using e4)]
        have He := Lib.hid he
        clear he
        go_wp2_with fail
        go_meet
        case rel => rw [He.out, List.append_nil]; exact H1.out
      | true =>
        have he : D = [.s (Tm.typeName a4 ++ [32])] := by rw [HD.out, if_neg (by simpa using e4)]
        have hc : partsC D = [.string (ba (Tm.typeName a4) ++ ⟨#[32]⟩), .bool false, .int .i64 0, .int .i64 0] := by
          rw [he]
          show ([.string (ba (Tm.typeName a4 ++ [32])), .bool false, .int .i64 0, .int .i64 0] : List Value) = _
          rw [ba_app]; rfl
        have He := Lib.hid he
        have Hc := Lib.hid hc
        clear he hc
        go_wp2_with (first
          | (go_at_call 70; refine (typeName_c _ _).mono ?_; rintro e w' ⟨rfl, rfl⟩)
          | (go_at_call 69; refine (say_c _ _).mono ?_; rintro e w' ⟨rfl, hf⟩; replace H1 := Lib.hid (H1.out.ch0 hf); clear hf)
          | (at_builtin; go_must (refine Hs.push rfl _ _ 62 rfl 67 i0 _ 4 40 (by kernel_rfl) hi0 hz0 hz1 hz2 rfl (Nat.succ_pos _) (Nat.le_of_ble_eq_true rfl) 1 _ M.length (partsC M) rfl 0 _ [.string (ba (Tm.typeName a4) ++ ⟨#[32]⟩), .bool false, .int .i64 0, .int .i64 0] rfl rfl rfl rfl rfl hlenb (H1.out.alloc [.string (ba (Tm.typeName a4) ++ ⟨#[32]⟩), .bool false, .int .i64 0, .int .i64 0] 67) ?_)))
        intro v1 w2 hh1
        have H4 := Lib.hid hh1.tail
        clear hh1
        go_wp2_with fail
        go_meet
        case rel =>
          rw [partsC_app, List.length_append, Hc.out, He.out]
          exact H4.out
    case rest =>
    replace H1 := Lib.hid hcut
    obtain ⟨M2, hM2⟩ : ∃ M2, M2 = M ++ D := ⟨_, rfl⟩
    rw [← hM2] at H1
    have hlen2 : M2.length + 2 ≤ 1000000001 := by rw [hM2, List.length_append]; have := HDl.out; have := HMl.out; have := HBN.out; omega
    have hlen3 : M2.length ≤ 2 * N + 3 := by rw [hM2, List.length_append]; have := HDl.out; have := HMl.out; omega
    have HM2 := Lib.hid hM2
    have HM3 := Lib.hid hlen3
    clear hcut hM2 hlenb hlen3 x4 s2
    go_upto_region 13 with fail
    replace H1 := Lib.hid H1.out.drew
    have x9' := H1.out.cell 3 rfl 9 (by rw [HNC.out]; rfl)
    have cb := fr_cell (fr_of_kp H1.out.kp) CB.out
    go_region_held3 (fun w' => w'.cell? ⟨w.heap.size, 9, none⟩ = some (.slice (some ⟨gkk, ok, none⟩) N ck) ∧ w'.cell? ⟨gkk, ok + P, none⟩ = some (.int .i64 bk)) (go_keep) (first
      | (go_at_call 69; refine (say_c _ _).mono ?_; rintro e w' ⟨rfl, hf⟩; replace H1 := Lib.hid (H1.out.ch0 hf); replace x9' := fr_cell hf x9'; replace cb := fr_cell hf cb; clear hf)
      | (refine Hs.stepPush rfl _ _ 62 rfl 67 i0 _ 4 40 (by kernel_rfl) hi0 hz0 hz1 hz2 rfl (Nat.succ_pos _) (Nat.le_of_ble_eq_true rfl) 1 _ M2.length (partsC M2) rfl _ 2 2 [.string ⟨#[]⟩, .bool false, .int .i64 bk, .int .i64 0, .string ⟨#[10]⟩, .bool false, .int .i64 0, .int .i64 0] rfl rfl (by decide) rfl rfl hlen2 ((H1.out.alloc [.string ⟨#[]⟩, .bool false, .int .i64 bk, .int .i64 0, .string ⟨#[10]⟩, .bool false, .int .i64 0, .int .i64 0] 67).news 0 rfl) (H1.out.alloc [.string ⟨#[]⟩, .bool false, .int .i64 bk, .int .i64 0, .string ⟨#[10]⟩, .bool false, .int .i64 0, .int .i64 0] 67) ?_; rintro v1 w2 hh1; replace H1 := Lib.hid hh1.tail; clear hh1; replace x9' := H1.out.cell 3 rfl 9 (by rw [HNC.out]; rfl); replace cb := fr_cell (fr_of_kp H1.out.kp) CB.out)
      | (go_at_call 31; refine (put_c _ p _ fu todo out _ R (M2 ++ [.k bk 0, .s [10]]) _ (by rw [partsC_app, List.length_append]; exact H1.out) (by have := HM3.out; have := HBN.out; simp only [List.length_append, List.length_cons, List.length_nil]; omega)).mono ?_; rintro e w3 ⟨rfl, hp⟩; have HP := Lib.hid hp; clear hp; obtain ⟨td2, hq⟩ := HP.out; replace x9' := hq.cell 2 rfl 9 (by rw [HNC.out]; rfl); replace cb := fr_cell (fr_of_kp hq.kp) CB.out; clear hq))
    go_wp2_with fail
    first | go_end0 | refine bodyPost_ret (results_none rfl _ _ _) rfl ?_
    refine ⟨rfl, ?_⟩
    have h := HP.out.drop
    rw [HM2.out, HM.out, HL.out] at h
    exact h
end Go.Proofs.YtllahgnpjodgmaaDoor
