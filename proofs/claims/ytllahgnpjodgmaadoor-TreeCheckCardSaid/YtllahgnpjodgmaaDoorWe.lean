/- lending.fill: another tree, whose lists are as long, is written into the memory that was lent. -/
import Derived.Test.YtllahgnpjodgmaaDoorWd
set_option linter.unusedVariables false
namespace Go.Proofs.YtllahgnpjodgmaaDoor
open Go Go.RowKit Mem Pm
/-- A tree that reads so, its kids' slices named. -/
structure TreeAt (w : World) (us : List Nd) (fs : List Int) (nd fu : Value) (kvs : List Value) : Prop where
  len : kvs.length = us.length
  nds : RdS w nd us.length (ndsC (us.zip kvs))
  kids : ∀ x ∈ us.zip kvs, RdS w x.2 x.1.kids.length (ints x.1.kids)
  funcs : RdS w fu fs.length (ints fs)
theorem TreeAt.rd {w : World} {us : List Nd} {fs : List Int} {nd fu : Value} {kvs : List Value} (h : TreeAt w us fs nd fu kvs) : TreeRd w us fs nd fu := ⟨⟨kvs, h.len, h.nds, h.kids⟩, h.funcs⟩
theorem node_atK {w : World} {us : List Nd} {fs : List Int} {a : Option Addr} {c : Nat} {fu : Value} {kvs : List Value} (h : TreeAt w us fs (.slice a us.length c) fu kvs) {i : Nat} {N : Nd} {kv : Value} (hz : (us.zip kvs)[i]? = some (N, kv)) :
    ∃ g off ak ck, a = some ⟨g, off, none⟩ ∧ kv = .slice ak N.kids.length ck ∧ N.kids.length ≤ ck ∧
      w.cell? ⟨g, off + i * 10, none⟩ = some (.int .i64 N.kind) ∧ w.cell? ⟨g, off + i * 10 + 1, none⟩ = some (.int .i64 N.at_) ∧ w.cell? ⟨g, off + i * 10 + 2, none⟩ = some (.int .i64 N.where_) ∧
      w.cell? ⟨g, off + i * 10 + 3, none⟩ = some (.int .i64 N.close) ∧ w.cell? ⟨g, off + i * 10 + 4, none⟩ = some (.int .i64 N.decl) ∧ w.cell? ⟨g, off + i * 10 + 5, none⟩ = some (.int .i64 N.type) ∧
      w.cell? ⟨g, off + i * 10 + 6, none⟩ = some (.int .i64 N.op) ∧ w.cell? ⟨g, off + i * 10 + 7, none⟩ = some (.int .i64 N.value) ∧ w.cell? ⟨g, off + i * 10 + 8, none⟩ = some (.string N.name) ∧
      w.cell? ⟨g, off + i * 10 + 9, none⟩ = some (.slice ak N.kids.length ck) := by
  have hkl := h.len
  have y := h.kids _ (List.mem_of_getElem? hz)
  obtain ⟨g, off, cc, he, z⟩ := rdS_cells h.nds (by rw [List.length_zip]; omega) hz
  injection he with he _ _
  dsimp only at y
  obtain ⟨ak, ck, rfl, y1, y2⟩ := y
  exact ⟨g, off, ak, ck, he, rfl, y1, z 0 _ (by omega) rfl, by rw [Nat.add_assoc]; exact z 1 _ (by omega) rfl, by rw [Nat.add_assoc]; exact z 2 _ (by omega) rfl, by rw [Nat.add_assoc]; exact z 3 _ (by omega) rfl,
    by rw [Nat.add_assoc]; exact z 4 _ (by omega) rfl, by rw [Nat.add_assoc]; exact z 5 _ (by omega) rfl, by rw [Nat.add_assoc]; exact z 6 _ (by omega) rfl, by rw [Nat.add_assoc]; exact z 7 _ (by omega) rfl,
    by rw [Nat.add_assoc]; exact z 8 _ (by omega) rfl, by rw [Nat.add_assoc]; exact z 9 _ (by omega) rfl⟩
theorem zip_set1 {α β : Type} : ∀ (D : List α) (Ps : List β) (i : Nat) (R : α) (p : β), Ps[i]? = some p → (D.set i R).zip Ps = (D.zip Ps).set i (R, p)
  | [], _, _, _, _, _ => by simp
  | d :: D, [], i, _, _, h => by simp at h
  | d :: D, q :: Ps, 0, R, p, h => by
    have : q = p := by simpa using h
    subst this; rfl
  | d :: D, q :: Ps, i + 1, R, p, h => by
    show (d, q) :: (D.set i R).zip Ps = (d, q) :: (D.zip Ps).set i (R, p)
    rw [zip_set1 D Ps i R p (by simpa using h)]
theorem klG_set {D : List (List Int)} {Ps : List (Nat × Nat)} {tl : List Int} {i L : Nat} {R : List Int} {p : Nat × Nat} (h2 : Ps[i]? = some p) (hR : R.length + 5 = L) : (klG D Ps tl).set i (L, p, R ++ tl) = klG (D.set i R) Ps tl := by
  unfold klG
  rw [zip_set1 D Ps i R p h2, List.map_set, hR]
theorem td_get {α : Type} {l D : List α} {i : Nat} (hi : i ≤ l.length) : (l.take i ++ D.drop i)[i]? = D[i]? := by
  rw [List.getElem?_append_right (by rw [List.length_take]; omega), List.length_take, List.getElem?_drop]
  congr 1
  omega
theorem td_set {α : Type} {l D : List α} {i : Nat} {u : α} (hi : l[i]? = some u) (hd : i < D.length) : (l.take i ++ D.drop i).set i u = l.take (i + 1) ++ D.drop (i + 1) := by
  have hl : (l.take i).length = i := by rw [List.length_take]; have := (List.getElem?_eq_some_iff.1 hi).1; omega
  rw [List.drop_eq_getElem_cons hd]
  have := set_mid D[i] u (D.drop (i + 1)) (l.take i)
  rw [hl] at this
  rw [this, List.take_add_one, hi, List.append_assoc]; rfl
theorem kst_get6 {r r' : Res} {x gN cN gF cF n m : Nat} {vK : Value} {NL : List (Nd × Value)} {FC : List Int} {KL : List (Nat × (Nat × Nat) × List Int)} {rs : List Res} {i : Nat} {q : Nat × (Nat × Nat) × List Int} (h : KL[i]? = some q) :
    (r :: r' :: kst x gN cN gF cF n m vK NL FC KL rs)[i + 6]? = some (krow q) := by
  show (kst x gN cN gF cF n m vK NL FC KL rs)[i + 4]? = _
  exact kst_get h
set_option maxRecDepth 100000 in
set_option maxHeartbeats 16000000 in
theorem fill_c {A : Nat → Prop} {w0 : World} (w : World) (us : List Nd) (fs : List Int) (kvs : List Value) (nd fu : Value) (x gN cN gF cF : Nat) (vK : Value) (NL : List (Nd × Value)) (FC : List Int) (D : List (List Int)) (Ps : List (Nat × Nat)) (tl : List Int) (rs : List Res)
    (hT : ∀ w' lr, Hs A w0 w' (lr ++ rs) → TreeAt w' us fs nd fu kvs) (hpl : Ps.length = us.length) (hNL : NL.length = us.length + 2) (hFC : FC.length = fs.length + 5) (hD : D.length = us.length) (hDk : ∀ (i : Nat) (n : Nd) (d : List Int), us[i]? = some n → D[i]? = some d → d.length = n.kids.length) (htl : tl.length = 5)
    (H : Hs A w0 w (lres x gN cN gF cF us.length fs.length vK NL FC D Ps tl ++ rs)) (hn : us.length ≤ 1000000) (hf : fs.length ≤ 1000000) (he : ∀ n ∈ us, n.kids.length ≤ 1000000) :
    Calls Tryd.prog 29 #[.pointer (some ⟨x, 0, none⟩), .agg #[nd, fu]] w fun e w' => e = .returned (.tuple #[]) ∧
      Hs A w0 w' (lres x gN cN gF cF us.length fs.length vK (nlF us Ps ++ NL.drop us.length) (fs ++ FC.drop fs.length) (kidsL us) Ps tl ++ rs) := by
  have h0 := hT w _ H
  obtain ⟨an, cn, rfl, hcn⟩ : ∃ an cn, nd = .slice an us.length cn ∧ us.length ≤ cn := by obtain ⟨a, c, h1, h2, _⟩ := h0.nds; exact ⟨a, c, h1, h2⟩
  obtain ⟨af, cf, rfl, hcf⟩ : ∃ af cf, fu = .slice af fs.length cf ∧ fs.length ≤ cf := by obtain ⟨a, c, h1, h2, _⟩ := h0.funcs; exact ⟨a, c, h1, h2⟩
  have hkv := h0.len
  rw [lres_kst] at H ⊢
  obtain ⟨aK, cK, rfl, hcK, hgK⟩ := H.form 3 rfl
  obtain ⟨b, hb⟩ : ∃ b, b = w.heap.size := ⟨_, rfl⟩
  have H1 : Hid (Hs A w0 (w.alloc (.cells #[.slice an us.length cn, .slice af fs.length cf] 25)) (.blk b 25 [.slice an us.length cn, .slice af fs.length cf] :: kst x gN cN gF cF us.length fs.length (.slice aK us.length cK) NL FC (klG D Ps tl) rs)) := Lib.hid (by
    rw [hb]; exact H.alloc [.slice an us.length cn, .slice af fs.length cf] 25)
  have HTr := Lib.hid (fun (w' : World) (pre : List Res) (NL' : List (Nd × Value)) (FC' : List Int) (KL' : List (Nat × (Nat × Nat) × List Int)) (h : Hs A w0 w' (pre ++ kst x gN cN gF cF us.length fs.length (.slice aK us.length cK) NL' FC' KL' rs)) => hT w' (pre ++ (.blk x 59 [kW us.length (gN, cN), kW fs.length (gF, cF), kW (us.length + 2) (gN, cN), kW (fs.length + 5) (gF, cF), (.slice aK us.length cK)] :: .row 45 10 (kW (us.length + 2) (gN, cN)) (us.length + 2) (ndsC NL') :: .row 3 1 (kW (fs.length + 5) (gF, cF)) (fs.length + 5) (ints FC') :: .row 23 1 (.slice aK us.length cK) us.length (KL'.map kcell) :: KL'.map krow)) (by
    unfold kst at h
    rw [List.append_assoc]
    exact h))
  have HE := Lib.hid he
  have HPl := Lib.hid hpl
  have HDk := Lib.hid hDk
  obtain ⟨NF, hNF⟩ : ∃ NF, NF = nlF us Ps ++ NL.drop us.length := ⟨_, rfl⟩
  have hNFl : NF.length = us.length + 2 := by rw [hNF, List.length_append, nlF_len hpl, List.length_drop]; omega
  have HNF := Lib.hid hNF
  obtain ⟨FF, hFF⟩ : ∃ FF, FF = fs ++ FC.drop fs.length := ⟨_, rfl⟩
  have hFFl : FF.length = fs.length + 5 := by rw [hFF, List.length_append, List.length_drop]; omega
  have HFF := Lib.hid hFF
  clear H h0 he hpl hT hNF hFF hDk
  go_enter Tryd.func29, Tryd.ntmps29
  go_upto_region 1 with fail
  obtain ⟨W1, hW1⟩ : ∃ W, W = w.alloc (.cells #[.slice an us.length cn, .slice af fs.length cf] 25) := ⟨_, rfl⟩
  rw [← hW1] at H1 ⊢
  rw [← hb]
  clear hW1 hb
  go_wp2_with fail
  go_loopg [4] us.length (fun m v4 wr => ∃ i : Nat, i + m = us.length ∧ v4 = .int .i64 (i : Int) ∧ Hs A w0 wr (.blk b 25 [.slice an us.length cn, .slice af fs.length cf] :: kst x gN cN gF cF us.length fs.length (.slice aK us.length cK) (NF.take i ++ NL.drop i) FC (klG ((kidsL us).take i ++ D.drop i) Ps tl) rs))
  case atStart => exact ⟨0, by omega, rfl, by rw [List.take_zero, List.take_zero, List.nil_append, List.nil_append, List.drop_zero, List.drop_zero]; exact H1.out⟩
  case round =>
  obtain ⟨i, him, rfl, hh⟩ := hrel
  have Hh := Lib.hid hh
  have b0 := hh.cell 0 rfl 0 rfl
  have b1 := hh.cell 0 rfl 1 rfl
  clear hh H1
  by_cases hlt : i < us.length
  case pos =>
    have hki : (i : Int) < (us.length : Int) := by omega
    have hki2 : (i : Int) < (us.length : Int) + 2 := by omega
    have hk0 : (0 : Int) ≤ (i : Int) := by omega
    obtain ⟨N, hN⟩ : ∃ N, us[i]? = some N := ⟨_, List.getElem?_eq_getElem hlt⟩
    obtain ⟨kv, hkvi⟩ : ∃ kv, kvs[i]? = some kv := ⟨_, List.getElem?_eq_getElem (by omega)⟩
    obtain ⟨d, hd⟩ : ∃ d, D[i]? = some d := ⟨_, List.getElem?_eq_getElem (by omega)⟩
    obtain ⟨p, hp⟩ : ∃ p, Ps[i]? = some p := ⟨_, List.getElem?_eq_getElem (by rw [HPl.out]; exact hlt)⟩
    have hz : (us.zip kvs)[i]? = some (N, kv) := List.getElem?_zip_eq_some.2 ⟨hN, hkvi⟩
    have hdl : d.length = N.kids.length := HDk.out i N d hN hd
    have hke := HE.out _ (List.mem_of_getElem? hN)
    obtain ⟨g, off, ak, ck, rfl, rfl, hck, x0, x1, x2, x3, x4, x5, x6, x7, x8, x9⟩ := node_atK (HTr.out wr [.blk b 25 [.slice an us.length cn, .slice af fs.length cf]] _ _ _ Hh.out) hz
    obtain ⟨gK, rfl, _⟩ := hgK (by omega)
    obtain ⟨Di, hDi⟩ : ∃ Di, Di = (kidsL us).take i ++ D.drop i := ⟨_, rfl⟩
    have hDg : Di[i]? = some d := by rw [hDi, td_get (by rw [kidsL_len]; omega)]; exact hd
    have hDs : Di.set i N.kids = (kidsL us).take (i + 1) ++ D.drop (i + 1) := by rw [hDi]; exact td_set (by unfold kidsL; rw [List.getElem?_map, hN]; rfl) (by omega)
    obtain ⟨Ni, hNi⟩ : ∃ Ni, Ni = NF.take i ++ NL.drop i := ⟨_, rfl⟩
    have hNg : ∃ y, Ni[i]? = some y := by rw [hNi, td_get (by omega)]; exact ⟨_, List.getElem?_eq_getElem (by omega)⟩
    have hNs : Ni.set i (N, kW N.kids.length p) = NF.take (i + 1) ++ NL.drop (i + 1) := by
      rw [hNi]
      refine td_set ?_ (by omega)
      rw [HNF.out, List.getElem?_append_left (by rw [nlF_len HPl.out]; exact hlt)]
      exact nlF_get hN hp
    have hNil : Ni.length = us.length + 2 := by rw [hNi, List.length_append, List.length_take, List.length_drop]; omega
    rw [← hDi, ← hNi] at Hh
    have HDg := Lib.hid hDg
    have HDs := Lib.hid hDs
    have HNg := Lib.hid hNg
    have HNs := Lib.hid hNs
    have HZ := Lib.hid hz
    have HP := Lib.hid hp
    have Hn := Lib.hid (Hh.out.alloc (ndC N (.slice ak N.kids.length ck)) 45)
    clear hDi hNi hDg hDs hNg hNs hz hN hkvi hd hp
    go_upto_region 5 with fail
    obtain ⟨W2, hW2⟩ : ∃ W, W = wr.alloc (.cells (ndC N (.slice ak N.kids.length ck)).toArray 45) := ⟨_, rfl⟩
    obtain ⟨c, hc⟩ : ∃ c, c = wr.heap.size := ⟨_, rfl⟩
    have H2 : Hid (Hs A w0 W2 (.blk c 45 (ndC N (.slice ak N.kids.length ck)) :: .blk b 25 [.slice (some ⟨g, off, none⟩) us.length cn, .slice af fs.length cf] :: kst x gN cN gF cF us.length fs.length (.slice (some ⟨gK, 0, none⟩) us.length cK) Ni FC (klG Di Ps tl) rs)) := Lib.hid (by rw [hW2, hc]; exact Hn.out)
    rw [show wr.alloc (.cells #[.int .i64 N.kind, .int .i64 N.at_, .int .i64 N.where_, .int .i64 N.close, .int .i64 N.decl, .int .i64 N.type, .int .i64 N.op, .int .i64 N.value, .string N.name, .slice ak N.kids.length ck] 45) = W2 from hW2.symm]
    rw [← hc]
    clear hW2 hc Hn Hh b0 b1 x0 x1 x2 x3 x4 x5 x6 x7 x8 x9
    go_wp2_with fail
    obtain ⟨g1, rfl⟩ : ∃ g1, g1 = gk := ⟨_, rfl⟩
    go_loopg [6] N.kids.length (fun m v6 wr => ∃ j : Nat, j + m = N.kids.length ∧ v6 = .int .i64 (j : Int) ∧ Hs A w0 wr (.blk c 45 (ndC N (.slice ak N.kids.length ck)) :: .blk b 25 [.slice (some ⟨g, off, none⟩) us.length cn, .slice af fs.length cf] :: kst x gN cN gF cF us.length fs.length (.slice (some ⟨gK, 0, none⟩) us.length cK) Ni FC (klG (Di.set i (N.kids.take j ++ d.drop j)) Ps tl) rs))
    case atStart => exact ⟨0, by omega, rfl, by rw [List.take_zero, List.nil_append, List.drop_zero, set_self HDg.out]; exact H2.out⟩
    case round =>
    obtain ⟨j, hjm, rfl, hj⟩ := hrel
    have hsl : i < Di.length := (List.getElem?_eq_some_iff.1 HDg.out).1
    have hset : (Di.set i (N.kids.take j ++ d.drop j))[i]? = some (N.kids.take j ++ d.drop j) := List.getElem?_set_self hsl
    have hsl2 : (N.kids.take j ++ d.drop j).length = N.kids.length := by rw [List.length_append, List.length_take, List.length_drop]; omega
    have hkg := klG_get (tl := tl) hset HP.out
    rw [hsl2] at hkg
    have Hj := Lib.hid hj
    have c4 := hj.cell 2 rfl 4 rfl
    have n9 := hj.cell 0 rfl 9 rfl
    have k0 : wr.cell? ⟨gK, i, none⟩ = some (kW (N.kids.length + 5) p) := hj.rcell 5 rfl (g := gK) rfl i (by rw [List.getElem?_map, hkg]; rfl)
    have hrow : (Res.blk c 45 (ndC N (.slice ak N.kids.length ck)) :: .blk b 25 [.slice (some ⟨g, off, none⟩) us.length cn, .slice af fs.length cf] :: kst x gN cN gF cF us.length fs.length (.slice (some ⟨gK, 0, none⟩) us.length cK) Ni FC (klG (Di.set i (N.kids.take j ++ d.drop j)) Ps tl) rs)[i + 6]? = some (krow (N.kids.length + 5, p, (N.kids.take j ++ d.drop j) ++ tl)) := kst_get6 hkg
    have hcap : N.kids.length + 5 ≤ p.2 := by
      obtain ⟨a', c', e1, e2, _⟩ := hj.form (i + 6) hrow
      have e3 : kW (N.kids.length + 5) p = .slice a' (N.kids.length + 5) c' := e1
      injection e3 with _ _ e4
      omega
    have HKg := Lib.hid hkg
    have HRow := Lib.hid hrow
    unfold kW at k0
    clear hj hset hkg hrow H2
    by_cases hjl : j < N.kids.length
    case pos =>
      have hjj : (j : Int) < (N.kids.length : Int) := by omega
      have hjj5 : (j : Int) < (N.kids.length : Int) + 5 := by omega
      have hj0 : (0 : Int) ≤ (j : Int) := by omega
      obtain ⟨q, hq⟩ : ∃ q, N.kids[j]? = some q := ⟨_, List.getElem?_eq_getElem hjl⟩
      obtain ⟨y, hy⟩ : ∃ y, ((N.kids.take j ++ d.drop j) ++ tl)[j]? = some y := ⟨_, List.getElem?_eq_getElem (by rw [List.length_append]; omega)⟩
      have yj : wr.cell? ⟨p.1, j, none⟩ = some (.int .i64 y) := Hj.out.rcell (i + 6) HRow.out (g := p.1) rfl j (ints_get hy)
      have zj : wr.frozen? ⟨p.1, j, none⟩ = false := Hj.out.rfroz (i + 6) HRow.out (g := p.1) rfl j
      have hts : (N.kids.take j ++ d.drop j).set j q = N.kids.take (j + 1) ++ d.drop (j + 1) := td_set hq (by omega)
      have HTs := Lib.hid hts
      obtain ⟨gu, ou, rfl, q2⟩ := rdS_int ((HTr.out wr [.blk c 45 (ndC N (.slice ak N.kids.length ck)), .blk b 25 [.slice (some ⟨g, off, none⟩) us.length cn, .slice af fs.length cf]] _ _ _ Hj.out).kids _ (List.mem_of_getElem? HZ.out)) hq
      clear hy hq hts
      go_wp2_with fail
      refine Reg.wp_region_text (by kernel_rfl) (by kernel_rfl) ?_
      go_wp2_with fail
      refine ⟨by kernel_rfl, ?_⟩
      go_wp2_with fail
      go_roundg (gk - 1)
      case measure => omega
      case rel =>
        refine ⟨j + 1, by omega, by go_num, ?_⟩
        have h1 := (Hj.out.rset (i + 6) HRow.out (g := p.1) rfl j (.int .i64 q)).drew
        rw [ints_set, List.set_append_left _ _ (by omega), HTs.out] at h1
        have h2 := kst_set (x := x) (gN := gN) (cN := cN) (gF := gF) (cF := cF) (n := us.length) (m := fs.length) (vK := .slice (some ⟨gK, 0, none⟩) us.length cK) (NL := Ni) (FC := FC) (rs := rs) (R' := N.kids.take (j + 1) ++ d.drop (j + 1) ++ tl) HKg.out
        rw [klG_set HP.out (by rw [List.length_append, List.length_take, List.length_drop]; omega), List.set_set] at h2
        rw [← h2]
        exact h1
    case neg =>
      have hjj : ¬ (j : Int) < (N.kids.length : Int) := by omega
      obtain rfl : j = N.kids.length := by omega
      have hfull : N.kids.take N.kids.length ++ d.drop N.kids.length = N.kids := by rw [List.take_length, List.drop_eq_nil_of_le (by omega), List.append_nil]
      rw [hfull, HDs.out] at Hj
      have z9 : wr.frozen? ⟨c, 9, none⟩ = false := Hj.out.froz 0 rfl 9
      clear HKg HRow hsl2 hfull
      have q3 : (0 : Int) ≤ (N.kids.length : Int) := by omega
      have q4 : (N.kids.length : Int) ≤ (p.2 : Int) := by omega
      go_wp2_with fail
      refine Reg.wp_region_text (by kernel_rfl) (by kernel_rfl) ?_
      go_wp2_with fail
      refine ⟨by kernel_rfl, ?_⟩
      go_upto_region 10 with fail
      obtain ⟨W3, hW3⟩ : ∃ W, W = (wr.setCell ⟨c, 9, none⟩ (.slice (some ⟨p.1, 0, none⟩) N.kids.length p.2)).drew := ⟨_, rfl⟩
      have H3 : Hid (Hs A w0 W3 (.blk c 45 (ndC N (kW N.kids.length p)) :: .blk b 25 [.slice (some ⟨g, off, none⟩) us.length cn, .slice af fs.length cf] :: kst x gN cN gF cF us.length fs.length (.slice (some ⟨gK, 0, none⟩) us.length cK) Ni FC (klG ((kidsL us).take (i + 1) ++ D.drop (i + 1)) Ps tl) rs)) := Lib.hid (by rw [hW3]; exact (Hj.out.set_ 0 rfl 9 (kW N.kids.length p)).drew)
      rw [← hW3]
      clear hW3 z9 c4 n9 k0 Hj
      have c2 := H3.out.cell 2 rfl 2 rfl
      have d0 := H3.out.cell 0 rfl 0 rfl
      have d1 := H3.out.cell 0 rfl 1 rfl
      have d2 := H3.out.cell 0 rfl 2 rfl
      have d3 := H3.out.cell 0 rfl 3 rfl
      have d4 := H3.out.cell 0 rfl 4 rfl
      have d5 := H3.out.cell 0 rfl 5 rfl
      have d6 := H3.out.cell 0 rfl 6 rfl
      have d7 := H3.out.cell 0 rfl 7 rfl
      have d8 := H3.out.cell 0 rfl 8 rfl
      have d9 := H3.out.cell 0 rfl 9 rfl
      obtain ⟨⟨N', kv'⟩, hza⟩ := HNg.out
      have y0 : W3.cell? ⟨gN, i * 10, none⟩ = _ := H3.out.rcell 3 rfl (g := gN) rfl _ ((ndsC_get hza 0 (by decide)).trans rfl)
      have y1 := H3.out.rcell 3 rfl (g := gN) rfl _ ((ndsC_get hza 1 (by decide)).trans rfl)
      have y2 := H3.out.rcell 3 rfl (g := gN) rfl _ ((ndsC_get hza 2 (by decide)).trans rfl)
      have y3 := H3.out.rcell 3 rfl (g := gN) rfl _ ((ndsC_get hza 3 (by decide)).trans rfl)
      have y4 := H3.out.rcell 3 rfl (g := gN) rfl _ ((ndsC_get hza 4 (by decide)).trans rfl)
      have y5 := H3.out.rcell 3 rfl (g := gN) rfl _ ((ndsC_get hza 5 (by decide)).trans rfl)
      have y6 := H3.out.rcell 3 rfl (g := gN) rfl _ ((ndsC_get hza 6 (by decide)).trans rfl)
      have y7 := H3.out.rcell 3 rfl (g := gN) rfl _ ((ndsC_get hza 7 (by decide)).trans rfl)
      have y8 := H3.out.rcell 3 rfl (g := gN) rfl _ ((ndsC_get hza 8 (by decide)).trans rfl)
      have y9 := H3.out.rcell 3 rfl (g := gN) rfl _ ((ndsC_get hza 9 (by decide)).trans rfl)
      have z0 : W3.frozen? ⟨gN, i * 10, none⟩ = false := H3.out.rfroz 3 rfl (g := gN) rfl (i * 10)
      have z1 := H3.out.rfroz 3 rfl (g := gN) rfl (i * 10 + 1)
      have z2 := H3.out.rfroz 3 rfl (g := gN) rfl (i * 10 + 2)
      have z3 := H3.out.rfroz 3 rfl (g := gN) rfl (i * 10 + 3)
      have z4 := H3.out.rfroz 3 rfl (g := gN) rfl (i * 10 + 4)
      have z5 := H3.out.rfroz 3 rfl (g := gN) rfl (i * 10 + 5)
      have z6 := H3.out.rfroz 3 rfl (g := gN) rfl (i * 10 + 6)
      have z7 := H3.out.rfroz 3 rfl (g := gN) rfl (i * 10 + 7)
      have z8 := H3.out.rfroz 3 rfl (g := gN) rfl (i * 10 + 8)
      have z9 := H3.out.rfroz 3 rfl (g := gN) rfl (i * 10 + 9)
      clear hza
      unfold kW at c2 d9
      refine Reg.wp_region_text (by kernel_rfl) (by kernel_rfl) ?_
      go_wp2_with fail
      refine ⟨by kernel_rfl, ?_⟩
      go_wp2_with fail
      go_roundg (g1 - 1)
      case measure => omega
      case rel =>
        refine ⟨i + 1, by omega, by go_num, ?_⟩
        have h1 := Mem.Hs.rsetN (i := 3) (g := gN) rfl (ndC N (kW N.kids.length p)) W3 _ _ (i * 10) H3.out rfl
        rw [setL_ndsC N (kW N.kids.length p) _ i (by omega), HNs.out] at h1
        exact h1.tail.drew
  case neg =>
    have hki : ¬ (i : Int) < (us.length : Int) := by omega
    obtain rfl : i = us.length := by omega
    have e1 : NF.take us.length ++ NL.drop us.length = NF := by
      rw [HNF.out, List.take_append_of_le_length (by rw [nlF_len HPl.out]; omega), List.take_of_length_le (by rw [nlF_len HPl.out]; omega)]
    have e2 : (kidsL us).take us.length ++ D.drop us.length = kidsL us := by
      rw [List.take_of_length_le (by rw [kidsL_len]; omega), List.drop_eq_nil_of_le (by omega), List.append_nil]
    rw [e1, e2] at Hh
    clear e1 e2
    go_wp2_with fail
    go_loopg [7] fs.length (fun m v7 wr => ∃ i : Nat, i + m = fs.length ∧ v7 = .int .i64 (i : Int) ∧ Hs A w0 wr (.blk b 25 [.slice an us.length cn, .slice af fs.length cf] :: kst x gN cN gF cF us.length fs.length (.slice aK us.length cK) NF (FF.take i ++ FC.drop i) (klG (kidsL us) Ps tl) rs))
    case atStart => exact ⟨0, by omega, rfl, by rw [List.take_zero, List.nil_append, List.drop_zero]; exact Hh.out⟩
    case round =>
    obtain ⟨i, him, rfl, hh⟩ := hrel
    have Hi := Lib.hid hh
    have b1 := hh.cell 0 rfl 1 rfl
    have c3 := hh.cell 1 rfl 3 rfl
    unfold kW at c3
    clear hh Hh b0
    by_cases hlt : i < fs.length
    case pos =>
      have hki : (i : Int) < (fs.length : Int) := by omega
      have hki5 : (i : Int) < (fs.length : Int) + 5 := by omega
      have hk0 : (0 : Int) ≤ (i : Int) := by omega
      obtain ⟨q, hq⟩ : ∃ q, fs[i]? = some q := ⟨_, List.getElem?_eq_getElem hlt⟩
      obtain ⟨y, hy⟩ : ∃ y, (FF.take i ++ FC.drop i)[i]? = some y := ⟨_, List.getElem?_eq_getElem (by rw [List.length_append, List.length_take, List.length_drop]; omega)⟩
      have yj : wr.cell? ⟨gF, i, none⟩ = some (.int .i64 y) := Hi.out.rcell 3 rfl (g := gF) rfl i (ints_get hy)
      have zj : wr.frozen? ⟨gF, i, none⟩ = false := Hi.out.rfroz 3 rfl (g := gF) rfl i
      have hts : (FF.take i ++ FC.drop i).set i q = FF.take (i + 1) ++ FC.drop (i + 1) := td_set (by rw [HFF.out, List.getElem?_append_left hlt]; exact hq) (by omega)
      have HTs := Lib.hid hts
      obtain ⟨gu, ou, rfl, q2⟩ := rdS_int (HTr.out wr [.blk b 25 [.slice an us.length cn, .slice af fs.length cf]] _ _ _ Hi.out).funcs hq
      clear hy hq hts
      go_wp2_with fail
      refine Reg.wp_region_text (by kernel_rfl) (by kernel_rfl) ?_
      go_wp2_with fail
      refine ⟨by kernel_rfl, ?_⟩
      go_wp2_with fail
      go_roundg (gk - 1)
      case measure => omega
      case rel =>
        refine ⟨i + 1, by omega, by go_num, ?_⟩
        have h1 := (Hi.out.rset 3 rfl (g := gF) rfl i (.int .i64 q)).drew
        rw [ints_set, HTs.out] at h1
        exact h1
    case neg =>
      have hki : ¬ (i : Int) < (fs.length : Int) := by omega
      obtain rfl : i = fs.length := by omega
      have e1 : FF.take fs.length ++ FC.drop fs.length = FF := by
        rw [HFF.out, List.take_append_of_le_length (by omega), List.take_of_length_le (by omega)]
      rw [e1, HFF.out, HNF.out] at Hi
      clear e1
      go_wp2_with fail
      go_end0
      exact ⟨rfl, Hi.out.tail⟩
end Go.Proofs.YtllahgnpjodgmaaDoor
