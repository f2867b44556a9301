/- quernlaw3.TreeKids, the walk. -/
import Derived.Test.YtllahgnpjodgmaaDoorQ26
import Derived.Test.YtllahgnpjodgmaaDoorQ27
import Derived.StillTailTactics
set_option linter.unusedVariables false
namespace Go.Proofs.YtllahgnpjodgmaaDoor
open Go Go.RowKit Mem Pm
/-- What lay in a row is there when something has been appended to it. -/
theorem old_kept {P : Program} {w w' : World} {v v' : Value} (t ty e : TypeId) (i : TypeInfo) (z : Value) (ht : P.underlying t = some (.slice e)) (hi : P.info? e = some i) (hz : i.zero = some z) (hsz : 0 < i.size)
    (n : Nat) (xs : List Value) (hown : w.ownsRow 0 e i.size v n xs) (a : Addr) (m c : Nat) (news : List Value) (hl : news.length = m * i.size) (hnews : ∀ j u, news[j]? = some u → w.cell? (a.add j) = some u) (h1 : ∀ u ∈ news, u.oneCell' = true)
    (h63 : n + m ≤ maxLen) (hbytes : (n + m) * i.bytes ≤ 140737488355328) (hr : (Builtin.append_ #[t, t] ty #[v, .slice (some a) m c]).run P w = .ok v' w') (h' : w'.ownsRow 0 e i.size v' (n + m) (xs ++ news)) (g : Nat) (hv : v.ownBlock = some g) :
    ∀ j u, xs[j]? = some u → w'.cell? ⟨g, j, none⟩ = some u := by
  intro j u hu
  have hsmall : n + m ≤ 9223372036854775807 := by simp only [maxLen] at h63; omega
  have hadd : (⟨g, 0, none⟩ : Addr).add j = ⟨g, j, none⟩ := by rw [Addr.add_lit, Nat.zero_add]
  rcases hown.2 with ⟨rfl, rfl⟩ | ⟨g', cap, cur, rfl, hbg, hg, hnc, hcm, hcs, htake⟩
  · simp [Value.ownBlock] at hv
  · obtain rfl : g' = g := by simpa [Value.ownBlock] using hv
    have hjl := (List.getElem?_eq_some_iff.1 hu).1
    by_cases hroom : n + m ≤ cap
    · have hfit : n * i.size + news.length ≤ cur.size := by rw [hl, hcs, ← Nat.add_mul]; exact Nat.mul_le_mul_right _ hroom
      have hr' := run_append_room (P := P) w t ty e i ht hi g' n cap cur hg a m c news hl hnews h1 hroom hfit
      rw [hr'] at hr
      injection hr with e1 e2
      subst e1
      rw [← hadd]
      exact h'.cells (g := g') rfl j u (by rw [List.getElem?_append_left hjl]; exact hu)
    · have holds : ∀ j u, xs[j]? = some u → w.cell? ((⟨g', 0, none⟩ : Addr).add j) = some u := hown.cells (g := g') rfl
      have hr' := run_append_grow (P := P) w t ty e i z ht hi hz ⟨g', 0, none⟩ n cap xs hown.1 holds a m c news hl hnews (by omega) (by omega) (growslice_fits (by omega) hbytes)
      rw [hr'] at hr
      injection hr with e1 e2
      subst e2
      have hc0 := holds j u hu
      rw [hadd] at hc0
      have hlt := block_lt_of_cell hc0
      exact (World.cell?_of_block (heap_alloc_old w.drew _ hlt)).trans hc0
namespace Mem
namespace Hs
variable {A : Nat → Prop} {w0 w : World} {rs : List Res}
/-- As stepPush; and what lay in the old row is still there. -/
theorem stepPush2 {P : Program} {ops : Array Oper} {o : Oper} {a : Act} {K : Act → World → Prop} {Q : Exit → Act → World → Prop} {E : Prop} (hgd : o.guard = none) (s x : Operand) (t : TypeId)
    (ho : o.op = .call { callee := .builtin .append, args := #[s, x], argTypes := #[t, t] })
    (e : TypeId) (inf : TypeInfo) (z : Value) (size bytes : Nat) (ht : P.underlying t = some (.slice e)) (hinf : P.info? e = some inf) (hz : inf.zero = some z)
    (hsize : inf.size = size) (hby : inf.bytes = bytes) (hzs : z.cells.size = size) (hsz : 0 < size) (hbb : bytes ≤ 1000)
    (i : Nat) (v : Value) (n : Nat) (xs : List Value) (hi : rs[i]? = some (.row e size v n xs)) (ad : Addr) (m c : Nat) (news : List Value)
    (hs : a.eval s = v) (hx : a.eval x = .slice (some ad) m c) (hm : 0 < m)
    (hl : news.length = m * size) (h1 : (news.all fun u => u.oneCell') = true) (hn : n + m ≤ 1000000001)
    (hc : ∀ j u, news[j]? = some u → w.cell? (ad.add j) = some u) (H : Hs A w0 w rs)
    (h : ∀ v' w', Hs A w0 w' (rs.set i (.row e size v' (n + m) (xs ++ news))) → (∀ g j u, v.ownBlock = some g → xs[j]? = some u → w'.cell? ⟨g, j, none⟩ = some u) → K (a.put o.dst v') w') : if Region.wanted o (yielded ops a.tmps) = true then Oper.wp P o a w K Q else E := by
  have hw : Region.wanted o (yielded ops a.tmps) = true := by simp [Region.wanted, hgd]
  rw [if_pos hw]
  subst hsize
  subst hby
  have hown := H.get hi
  have hnm : n + m ≤ maxLen := by simp only [maxLen]; omega
  have hbt : (n + m) * inf.bytes ≤ 140737488355328 := by
    have : (n + m) * inf.bytes ≤ 1000000001 * 1000 := Nat.mul_le_mul (by omega) hbb
    omega
  obtain ⟨g, cap, w', hr, hown', hgr, hat, _⟩ := run_append_lies (P := P) w t o.type 0 e inf z inf.size inf.bytes ht hinf hz rfl rfl hzs hsz v n xs hown.1 ad m c news hl hc (fun u hu => List.all_eq_true.1 h1 u hu) hm hnm hbt (Nat.zero_le _) w.heap.size rfl
  unfold Oper.wp execOp
  simp only [ho, resolve, invoke, builtin, Sem.run_bind, Sem.run_pure, Result.andThen_ok, List.map_toArray, List.map_cons, List.map_nil, hs, hx, hr]
  have H' : Hs A w0 w' (rs.set i (.row e inf.size (.slice (some ⟨g, 0, none⟩) (n + m) cap) (n + m) (xs ++ news))) := by
    refine H.turn hi ((Ch.refl _ _).grown hgr fun g hg => .inl hg) ⟨hown', fun k hk => ?_⟩ ?_
    · have hk' : k = g := by simpa [Value.ownBlock] using hk.symm
      subst hk'
      rcases hat with h2 | h2
      · exact hown.2 _ h2
      · intro h3; have := H.alt' _ h3; omega
    · rcases hat with h2 | h2
      · left; show (Value.slice (some ⟨g, 0, none⟩) (n + m) cap).ownBlock = v.ownBlock; rw [h2]; rfl
      · right; intro k hk
        have hk' : k = g := by simpa [Res.own, Value.ownBlock] using hk.symm
        omega
  exact h _ _ H' fun g' j u hg' hu => old_kept t o.type e inf z ht hinf hz hsz n xs hown.1 ad m c news hl hc (fun u hu => List.all_eq_true.1 h1 u hu) hnm hbt hr hown' g' hg' j u hu
end Hs
end Mem
open Mem
/-- A tree of rows reads as one. -/
theorem treeRd_rows {A : Nat → Prop} {w0 w : World} {rs : List Res} (H : Hs A w0 w rs) {U : List Nd} {funcs : List Int} {V : List Value} {vN vF : Value} (hl : V.length = U.length) (i j : Nat) (hi : rs[i]? = some (.row 45 10 vN U.length (ndsC (U.zip V)))) (hj : rs[j]? = some (.row 3 1 vF funcs.length (ints funcs)))
    (hk : ∀ q ∈ U.zip V, RdS w q.2 q.1.kids.length (ints q.1.kids)) : TreeRd w U funcs vN vF := ⟨⟨V, hl, rdS_row H i hi, hk⟩, rdS_row H j hj⟩
theorem kid_rds {A : Nat → Prop} {w0 w : World} {rs : List Res} (H : Hs A w0 w rs) {Y : List (Nd × Value)} (h : ∀ r ∈ kidRows Y, r ∈ rs) : ∀ q ∈ Y, RdS w q.2 q.1.kids.length (ints q.1.kids) := fun q hq => by
  obtain ⟨k, hk⟩ := List.getElem?_of_mem (h _ (List.mem_map.2 ⟨q, hq, rfl⟩))
  exact rdS_row H k hk
theorem zip_set {α β : Type} (u : α) (v : β) : ∀ (A : List α) (B : List β) (i : Nat), (A.zip B).set i (u, v) = (A.set i u).zip (B.set i v)
  | [], _, _ => rfl
  | _ :: _, [], i => by cases i <;> rfl
  | a :: A, b :: B, 0 => rfl
  | a :: A, b :: B, i + 1 => by
    show (a, b) :: (A.zip B).set i (u, v) = (a, b) :: (A.set i u).zip (B.set i v)
    rw [zip_set u v A B i]
theorem ndsC_setg (u : Value) (c : Nat) (y : Nd × Value) : ∀ (l : List (Nd × Value)) (i : Nat) (x : Nd × Value), l[i]? = some x → (ndC x.1 x.2).set c u = ndC y.1 y.2 → c < 10 → (ndsC l).set (i * 10 + c) u = ndsC (l.set i y)
  | [], i, x, h, _, _ => by simp at h
  | z :: l, 0, x, h, hc, hlt => by
    injection h with h
    subst h
    show (ndC z.1 z.2 ++ ndsC l).set (0 * 10 + c) u = ndC y.1 y.2 ++ ndsC l
    rw [Nat.zero_mul, Nat.zero_add, List.set_append_left _ _ hlt, hc]
  | z :: l, i + 1, x, h, hc, hlt => by
    have ih := ndsC_setg u c y l i x h hc hlt
    show (ndC z.1 z.2 ++ ndsC l).set ((i + 1) * 10 + c) u = ndC z.1 z.2 ++ ndsC (l.set i y)
    rw [show (i + 1) * 10 + c = (ndC z.1 z.2).length + (i * 10 + c) by show _ = 10 + _; omega, set_app, ih]
def kRes (bt bx : Nat) (nd fu vN : Value) (n : Nat) (vF : Value) (funcs : List Int) (Z Y : List (Nd × Value)) : List Res :=
  .blk bx 25 [vN, vF] :: .blk bt 25 [nd, fu] :: .row 45 10 vN n (ndsC Z) :: .row 3 1 vF funcs.length (ints funcs) :: kidRows Y
theorem slot_q (i n : Int) (hn : 0 < n) (hn2 : n ≤ 4000000000000000000) (m : Int) (hm : slotF i n = m) (w : World) : Calls Tryd.prog 20 #[.int .i64 i, .int .i64 n] w fun e w' => e = .returned (.int .i64 m) ∧ w' = w :=
  (slot_c i n hn hn2 w).mono fun e w' ⟨h1, h2⟩ => ⟨by rw [h1, hm], h2.symm⟩
theorem kidRows_set (Z : List (Nd × Value)) (a : Nat) (n : Nd) (v : Value) : (kidRows Z).set a (.row 3 1 v n.kids.length (ints n.kids)) = kidRows (Z.set a (n, v)) := by unfold kidRows; rw [List.map_set]
theorem kids_read {A : Nat → Prop} {w0 w : World} {bt bx : Nat} {nd fu vN vF : Value} {funcs : List Int} {nodes : List Nd} {kvs : List Value} {a : Nat} {n : Nd} {v : Value} (hl : kvs.length = nodes.length)
    (H : Hs A w0 w (kRes bt bx nd fu vN nodes.length vF funcs ((nodes.zip kvs).set a (n, v)) ((nodes.zip kvs).set a (n, v)))) : TreeRd w (nodes.set a n) funcs vN vF := by
  have e : (nodes.set a n).zip (kvs.set a v) = (nodes.zip kvs).set a (n, v) := (zip_set n v nodes kvs a).symm
  refine treeRd_rows H (V := kvs.set a v) (by rw [List.length_set, List.length_set, hl]) 2 3 ?_ rfl ?_
  · rw [e, List.length_set]; rfl
  · rw [e]
    exact kid_rds H (Y := (nodes.zip kvs).set a (n, v)) (fun r hr => List.mem_append_right [_, _, _, _] hr)
theorem kids_small {nodes : List Nd} {funcs : List Int} (h : Small nodes funcs) {a : Nat} {n : Nd} (hk : n.kids.length ≤ 1000000) (hs : n.name.size ≤ 9223372036854775807) : Small (nodes.set a n) funcs := by
  refine ⟨by rw [List.length_set]; exact h.nl, h.fl, fun x hx => ?_⟩
  rcases List.mem_or_eq_of_mem_set hx with h1 | rfl
  · exact h.each x h1
  · exact ⟨by omega, hs⟩
set_option maxRecDepth 100000 in
set_option maxHeartbeats 16000000 in
theorem treeKids_c (nodes : List Nd) (funcs : List Int) (nd fu : Value) (i j how : Int) (w : World) (hin : TreeIn w nodes funcs nd fu) (htab : Tab w) :
    Calls Tryd.prog 9 #[.agg #[nd, fu], .int .i64 i, .int .i64 j, .int .i64 how] w fun e w' => e = .returned (.bool true) ∧ Fr w w' := by
  obtain ⟨i0, hi0, hz0, hz1, hz2⟩ := info_parts infoInt
  obtain ⟨i1, hi1, hy0, hy1, hy2⟩ := info_parts infoNode
  obtain ⟨h, hn, hf, he, hv⟩ := hin
  obtain ⟨an, cn, rfl, hcn⟩ : ∃ an cn, nd = .slice an nodes.length cn ∧ nodes.length ≤ cn := by obtain ⟨_, _, ⟨a, c, h1, h2, _⟩, _⟩ := h.nds; exact ⟨a, c, h1, h2⟩
  obtain ⟨af, cf, rfl, hcf⟩ : ∃ af cf, fu = .slice af funcs.length cf ∧ funcs.length ≤ cf := by obtain ⟨a, c, h1, h2, _⟩ := h.funcs; exact ⟨a, c, h1, h2⟩
  have HT := Lib.hid h
  have HE := Lib.hid he
  have HTab := Lib.hid htab
  have HV := Lib.hid hv
  have H1 := Lib.hid ((Hs.start w).alloc [.slice an nodes.length cn, .slice af funcs.length cf] 25)
  clear h he htab hv
  go_enter Tryd.func9, Tryd.ntmps9
  go_wp2_with fail
  refine (fits_c nodes funcs _ _ _ (HT.out.fr (fr_of_kp H1.out.kp)) hn hf HE.out).mono ?_
  rintro e w1 ⟨bfit, rfl, hf1, hfit⟩
  replace H1 := Lib.hid (H1.out.ch0 hf1)
  have HFit := Lib.hid hfit
  clear hf1 hfit
  have b0 := H1.out.cell 0 rfl 0 rfl
  have b1 := H1.out.cell 0 rfl 1 rfl
  cases bfit with
  | false =>
    have HF := Lib.hid (fr_of_kp H1.out.kp)
    go_wp2_with fail
    go_ret
    exact ⟨rfl, HF.out⟩
  | true =>
  by_cases hn0 : nodes.length = 0
  · have q2 : ((nodes.length : Int) == 0) = true := beq_iff_eq.2 (by omega)
    have HF := Lib.hid (fr_of_kp H1.out.kp)
    clear hn0
    go_wp2_with fail
    go_ret
    exact ⟨rfl, HF.out⟩
  have q2 : ((nodes.length : Int) == 0) = false := beq_eq_false_iff_ne.2 (by omega)
  obtain ⟨z1, z2, z3⟩ := fits_kids (HFit.out rfl)
  have Z3 := Lib.hid z3
  clear HFit
  have hsm : Small nodes funcs := ⟨by omega, by omega, fun n hm => ⟨by have := z3 n hm; omega, by have := (HE.out n hm).2; omega⟩⟩
  have HSm := Lib.hid hsm
  clear z3 hsm
  have hn1 : (0 : Int) < (nodes.length : Int) := by omega
  have hn4 : (nodes.length : Int) ≤ 4000000000000000000 := by omega
  go_wp2_with fail
  refine (alive_c _ (tab_fr HTab.out (fr_of_kp H1.out.kp))).mono ?_
  rintro e w2 ⟨rfl, hf2⟩
  replace H1 := Lib.hid (H1.out.ch0 hf2)
  replace b0 := fr_cell hf2 b0
  replace b1 := fr_cell hf2 b1
  clear hf2
  go_wp2_with fail
  refine (check_c nodes funcs _ _ _ (HT.out.fr (fr_of_kp H1.out.kp)) HSm.out).mono ?_
  rintro e w3 ⟨rfl, hf3⟩
  replace H1 := Lib.hid (H1.out.ch0 hf3)
  replace b0 := fr_cell hf3 b0
  replace b1 := fr_cell hf3 b1
  clear hf3
  have e0 : errT true = 0 := rfl
  have e30 : errT false = 30 := rfl
  cases hcb : Tm.check nodes funcs with
  | false =>
    have HF := Lib.hid (fr_of_kp H1.out.kp)
    clear hcb
    go_wp2_with (first | (go_at_call 18; refine (num_c _ _).mono ?_; rintro e w' ⟨rfl, rfl⟩))
    go_ret
    exact ⟨rfl, HF.out⟩
  | true =>
  have HCb := Lib.hid hcb
  clear hcb
  go_wp2_with (first | (go_at_call 18; refine (num_c _ _).mono ?_; rintro e w' ⟨rfl, rfl⟩))
  refine (copied_c nodes funcs _ _ _ (HT.out.fr (fr_of_kp H1.out.kp)) (by omega) (by omega) (fun n hm => by have := Z3.out n hm; omega)).mono ?_
  rintro e w4 ⟨vN, vF, kvs, rfl, hkl, hg⟩
  have H2 := Lib.hid ((hg _ _ _ H1.out).perm List.perm_append_comm)
  clear hg H1 b0 b1
  obtain ⟨Z, hZ⟩ : ∃ Z, Z = nodes.zip kvs := ⟨_, rfl⟩
  rw [← hZ] at H2
  obtain ⟨aN, cN, rfl, hcN, hgN⟩ := H2.out.form 1 rfl
  obtain ⟨gN, rfl, _⟩ := hgN (by omega)
  obtain ⟨aF, cF, rfl, hcF, _⟩ := H2.out.form 2 rfl
  have hzl : Z.length = nodes.length := by rw [hZ, List.length_zip]; omega
  obtain ⟨bx, hbx⟩ : ∃ bx, bx = w4.heap.size := ⟨_, rfl⟩
  obtain ⟨bt, hbt⟩ : ∃ bt, bt = w.heap.size := ⟨_, rfl⟩
  rw [← hbt] at H2
  have H4 : Hid (Hs (fun k => k < bt) w (w4.alloc (.cells #[.slice (some ⟨gN, 0, none⟩) nodes.length cN, .slice aF funcs.length cF] 25)) (kRes bt bx (.slice an nodes.length cn) (.slice af funcs.length cf) (.slice (some ⟨gN, 0, none⟩) nodes.length cN) nodes.length (.slice aF funcs.length cF) funcs Z Z)) := Lib.hid (by
    rw [hbx]; exact H2.out.alloc [.slice (some ⟨gN, 0, none⟩) nodes.length cN, .slice aF funcs.length cF] 25)
  have HBt := Lib.hid hbt
  have HZ := Lib.hid hZ
  have HZl := Lib.hid hzl
  have HKl := Lib.hid hkl
  clear H2 hZ hzl hkl hgN
  obtain ⟨ra1, ra2⟩ := slotF_range i _ hn1
  obtain ⟨a, ha⟩ : ∃ a : Nat, slotF i (nodes.length : Int) = (a : Int) := ⟨(slotF i nodes.length).toNat, by omega⟩
  have hal : a < nodes.length := by omega
  have HA := Lib.hid ha
  clear ra1 ra2 ha
  have ia0 : (0 : Int) ≤ (a : Int) := by omega
  have iaN : (a : Int) < (nodes.length : Int) := by omega
  obtain ⟨N, hN⟩ : ∃ N, nodes[a]? = some N := ⟨_, List.getElem?_eq_getElem hal⟩
  obtain ⟨kv, hkv⟩ : ∃ kv, kvs[a]? = some kv := ⟨_, List.getElem?_eq_getElem (by rw [HKl.out]; exact hal)⟩
  have hza : Z[a]? = some (N, kv) := by rw [HZ.out, List.getElem?_zip_eq_some]; exact ⟨hN, hkv⟩
  have hkr : (kRes bt bx (.slice an nodes.length cn) (.slice af funcs.length cf) (.slice (some ⟨gN, 0, none⟩) nodes.length cN) nodes.length (.slice aF funcs.length cF) funcs Z Z)[a + 4]? = some (.row 3 1 kv N.kids.length (ints N.kids)) :=
    kidRows_get (r1 := .row 45 10 (.slice (some ⟨gN, 0, none⟩) nodes.length cN) nodes.length (ndsC Z)) (r2 := .row 3 1 (.slice aF funcs.length cF) funcs.length (ints funcs)) hza
  obtain ⟨ak, ck, rfl, hck, hgk⟩ := H4.out.form (a + 4) hkr
  have hNm : N ∈ nodes := List.mem_of_getElem? hN
  have hNk := Z3.out N hNm
  have HN := Lib.hid hN
  have HKv := Lib.hid hkv
  have HZa := Lib.hid hza
  have HKr := Lib.hid hkr
  have HGk := Lib.hid hgk
  clear hN hkv hza hkr hgk hNm
  go_upto_region 8 with fail
  obtain ⟨W0, hW0⟩ : ∃ W, W = w4.alloc (.cells #[.slice (some ⟨gN, 0, none⟩) nodes.length cN, .slice aF funcs.length cF] 25) := ⟨_, rfl⟩
  rw [← hW0] at H4 ⊢
  rw [← hbx]
  rw [← hbt]
  clear hW0 hbx hbt
  have c0 := H4.out.cell 0 rfl 0 rfl
  have c1 := H4.out.cell 0 rfl 1 rfl
  have z0 := H4.out.froz 0 rfl 0
  have b0 := H4.out.cell 1 rfl 0 rfl
  have x9 := H4.out.rcell 2 rfl (g := gN) rfl _ ((ndsC_get HZa.out 9 (by decide)).trans rfl)
  have z9 := H4.out.rfroz 2 rfl (g := gN) rfl (a * 10 + 9)
  go_wp2_with fail
  refine (slot_c _ _ hn1 hn4 _).mono ?_
  rintro e w' ⟨rfl, rfl⟩
  rw [HA.out]
  obtain ⟨m, hm⟩ : ∃ m, bits .and .i64 how 3 = m := ⟨_, rfl⟩
  obtain ⟨m0, m3⟩ := and3 how
  rw [hm] at m0 m3

  have hM := Lib.hid hm
  go_upto_region 14 with fail
  by_cases hA : m = 0 ∨ N.kids = []
  case pos =>
    go_cut [84] (fun v84 wx => v84 = .bool true ∧ wx = W0)
    case first =>
      by_cases hm0 : m = 0
      · rw [hm0] at hm
        go_wp2_with fail
        go_meet
        case rel => exact ⟨rfl, rfl⟩
      · have hk0 : N.kids = [] := hA.resolve_left hm0
        have hl0 : N.kids.length = 0 := by rw [hk0]; rfl
        have qm : (m == 0) = false := beq_eq_false_iff_ne.2 hm0
        have qk : ((N.kids.length : Int) == 0) = true := beq_iff_eq.2 (by omega)
        clear hl0 hk0
        go_wp2_with fail
        go_meet
        case rel => exact ⟨rfl, rfl⟩
    case rest =>
    obtain ⟨rfl, rfl⟩ := hcut
    obtain ⟨W0, rfl⟩ : ∃ W0, W0 = wc := ⟨_, rfl⟩
    have Hn := Lib.hid (H4.out.alloc (ndC ({ kind := 20 } : Nd) (.slice none 0 0)) 45)
    have hn9 : nodes.length ≤ 1000000000 := by omega
    clear H4 z9 x9
    go_wp2_with (at_builtin; go_must (refine Hs.push rfl _ _ 22 rfl 45 i1 _ 10 104 (by kernel_rfl) hi1 hy0 hy1 hy2 rfl (Nat.succ_pos _) (Nat.le_of_ble_eq_true rfl) 3 (.slice (some ⟨gN, 0, none⟩) nodes.length cN) nodes.length (ndsC Z) rfl 0 W0.heap.size (ndC ({ kind := 20 } : Nd) (.slice none 0 0)) rfl rfl rfl rfl rfl hn9 Hn.out ?_))
    intro v7 w7 hh7
    obtain ⟨a7, c7, rfl, _, _⟩ := hh7.form 3 rfl
    have e0 := hh7.cell 1 rfl 0 rfl
    have z0 := hh7.froz 1 rfl 0
    have H8 := Lib.hid (hh7.set_ 1 rfl 0 (.slice a7 (nodes.length + 1) c7))
    have e1 := hh7.cell 1 rfl 1 rfl
    have hlk : kvs.length = nodes.length := HKl.out
    have hcells : ndsC Z ++ ndC ({ kind := 20 } : Nd) (.slice none 0 0) = ndsC ((nodes ++ [({ kind := 20 } : Nd)]).zip (kvs ++ [Value.slice none 0 0])) := by rw [HZ.out, ndsC_snoc hlk]
    have hTR : TreeRd (w7.setCell ⟨bx, 0, none⟩ (.slice a7 (nodes.length + 1) c7)) (nodes ++ [({ kind := 20 } : Nd)]) funcs (.slice a7 (nodes.length + 1) c7) (.slice aF funcs.length cF) := by
      refine treeRd_rows H8.out (V := kvs ++ [.slice none 0 0]) (by simp [hlk]) 3 4 ?_ rfl ?_
      · rw [← hcells, List.length_append]; rfl
      · rw [List.zip_append hlk.symm]
        intro q hq
        rcases List.mem_append.1 hq with h1 | h1
        · exact kid_rds H8.out (Y := Z) (fun r hr => List.mem_append_right [_, _, _, _, _] hr) q (by rw [HZ.out]; exact h1)
        · simp only [List.zip_cons_cons, List.zip_nil_left, List.mem_singleton] at h1
          subst h1
          exact ⟨_, _, rfl, Nat.le_refl _, fun h => absurd rfl h⟩
    have hcU : Tm.check (nodes ++ [({ kind := 20 } : Nd)]) funcs = false := Tm.more_nodes HCb.out rfl
    have hSmU : Small (nodes ++ [({ kind := 20 } : Nd)]) funcs := by
      refine ⟨by rw [List.length_append]; show nodes.length + 1 ≤ _; omega, by omega, fun n hn => ?_⟩
      rcases List.mem_append.1 hn with h | h
      · exact HSm.out.each n h
      · rcases List.mem_singleton.1 h with rfl; exact ⟨by decide, by decide⟩
    have hul : (nodes ++ [({ kind := 20 } : Nd)]).length = nodes.length + 1 := by rw [List.length_append]; rfl
    have HTR := Lib.hid hTR
    have HcU := Lib.hid hcU
    have HSmU := Lib.hid hSmU
    have HF := Lib.hid (fr_of_kp (by rw [← HBt.out]; exact H8.out.kp))
    clear hh7 Hn H8 hTR hcU hSmU hcells hlk
    go_wp2_with fail
    refine (check_c (nodes ++ [({ kind := 20 } : Nd)]) funcs _ _ _ HTR.out HSmU.out).mono ?_
    rintro e w9 ⟨rfl, hf9⟩
    rw [HcU.out]
    have HF9 := Lib.hid (HF.out.trans hf9)
    clear hf9
    go_wp2_with (first | (go_at_call 18; refine (num_c _ _).mono ?_; rintro e w' ⟨rfl, rfl⟩))
    go_ret
    exact ⟨rfl, HF9.out⟩
  case neg =>
  obtain ⟨hm0, hk0⟩ : m ≠ 0 ∧ N.kids ≠ [] := ⟨fun h => hA (.inl h), fun h => hA (.inr h)⟩
  have hlp : 0 < N.kids.length := List.length_pos_iff.2 hk0
  obtain ⟨gk, rfl, hgk⟩ := HGk.out hlp
  have qk : ((N.kids.length : Int) == 0) = false := beq_eq_false_iff_ne.2 (by omega)
  have hNs : N.name.size ≤ 9223372036854775807 := (HSm.out.each N (List.mem_of_getElem? HN.out)).2
  have hlN : (N.kids.length : Int) ≤ 1000000 := by omega
  have hlp1 : (0 : Int) < (N.kids.length : Int) := by omega
  have hlp4 : (N.kids.length : Int) ≤ 4000000000000000000 := by omega
  have HGk' := Lib.hid hgk
  have HNs := Lib.hid hNs
  obtain ⟨rb1, rb2⟩ := slotF_range j _ hlp1
  obtain ⟨s, hs⟩ : ∃ s : Nat, slotF j (N.kids.length : Int) = (s : Int) := ⟨(slotF j N.kids.length).toNat, by omega⟩
  have hsl : s < N.kids.length := by omega
  have HS := Lib.hid hs
  have is0 : (0 : Int) ≤ (s : Int) := by omega
  have isN : (s : Int) < (N.kids.length : Int) := by omega
  obtain ⟨x, hx⟩ : ∃ x, N.kids[s]? = some x := ⟨_, List.getElem?_eq_getElem hsl⟩
  have xs := H4.out.rcell (a + 4) HKr.out (g := gk) hgk s (ints_get hx)
  have HX := Lib.hid hx
  clear rb1 rb2 hs hx
  clear hA hk0 HGk hgk hNs
  rcases (show m = 1 ∨ m = 2 ∨ m = 3 by omega) with rfl | rfl | rfl
  case inl =>
    clear xs
    go_upto_region 17 with fail
    refine Reg.wp_region_text (by kernel_rfl) (by kernel_rfl) ?_
    go_wp2_with fail
    refine ⟨by kernel_rfl, ?_⟩
    obtain ⟨W5, hW5⟩ : ∃ W, W = (W0.setCell ⟨gN, a * 10 + 9, none⟩ (.slice (some ⟨gk, 0, none⟩) (N.kids.length - 1) ck)).drew := ⟨_, rfl⟩
    rw [← hW5]
    obtain ⟨N2, hN2⟩ : ∃ N2 : Nd, N2 = { N with kids := N.kids.take (N.kids.length - 1) } := ⟨_, rfl⟩
    have HN2 := Lib.hid hN2
    have H5 : Hid (Hs (fun k => k < bt) w W5 (kRes bt bx (.slice an nodes.length cn) (.slice af funcs.length cf) (.slice (some ⟨gN, 0, none⟩) nodes.length cN) nodes.length (.slice aF funcs.length cF) funcs (Z.set a (N2, .slice (some ⟨gk, 0, none⟩) (N.kids.length - 1) ck)) (Z.set a (N2, .slice (some ⟨gk, 0, none⟩) (N.kids.length - 1) ck)))) := Lib.hid (by
      have h1 := H4.out.rset 2 rfl (g := gN) rfl (a * 10 + 9) (.slice (some ⟨gk, 0, none⟩) (N.kids.length - 1) ck)
      rw [ndsC_setg (.slice (some ⟨gk, 0, none⟩) (N.kids.length - 1) ck) 9 (N2, .slice (some ⟨gk, 0, none⟩) (N.kids.length - 1) ck) Z a _ HZa.out (by rw [hN2]; rfl) (by decide)] at h1
      have h2 := (h1.cut (a + 4) (kidRows_get (r1 := .row 45 10 (.slice (some ⟨gN, 0, none⟩) nodes.length cN) nodes.length (ndsC (Z.set a (N2, .slice (some ⟨gk, 0, none⟩) (N.kids.length - 1) ck)))) (r2 := .row 3 1 (.slice aF funcs.length cF) funcs.length (ints funcs)) HZa.out) (Nat.sub_le N.kids.length 1)).drew
      have e1 : (ints N.kids).take ((N.kids.length - 1) * 1) = ints N2.kids := by rw [hN2, Nat.mul_one]; unfold ints; rw [List.map_take]
      have e2 : N2.kids.length = N.kids.length - 1 := by rw [hN2]; show (N.kids.take _).length = _; rw [List.length_take]; omega
      have e3 := kidRows_set Z a N2 (.slice (some ⟨gk, 0, none⟩) (N.kids.length - 1) ck)
      rw [e2, ← e1] at e3
      rw [hW5]
      unfold kRes
      rw [← e3]
      exact h2)
    have HSmU := Lib.hid (kids_small HSm.out (a := a) (n := N2) (by rw [hN2]; show (N.kids.take _).length ≤ _; rw [List.length_take]; omega) (by rw [hN2]; exact HNs.out))
    clear hW5 hN2 H4 x9 z9 b0 c0 c1 z0
    have hTR : TreeRd W5 (nodes.set a N2) funcs (.slice (some ⟨gN, 0, none⟩) nodes.length cN) (.slice aF funcs.length cF) := kids_read HKl.out (by rw [← HZ.out]; exact H5.out)
    have hcU : Tm.check (nodes.set a N2) funcs = false := Tm.other_count HCb.out HN.out (by rw [HN2.out]; show (N.kids.take (N.kids.length - 1)).length ≠ _; rw [List.length_take]; omega)
    have HTR := Lib.hid hTR
    have HcU := Lib.hid hcU
    have HF := Lib.hid (fr_of_kp (by rw [← HBt.out]; exact H5.out.kp))
    have c0 := H5.out.cell 0 rfl 0 rfl
    have c1 := H5.out.cell 0 rfl 1 rfl
    clear hTR hcU
    go_wp2_with fail
    refine (check_c (nodes.set a N2) funcs _ _ _ HTR.out HSmU.out).mono ?_
    rintro e w9 ⟨rfl, hf9⟩
    rw [HcU.out]
    have HF9 := Lib.hid (HF.out.trans hf9)
    clear hf9
    go_wp2_with (first | (go_at_call 18; refine (num_c _ _).mono ?_; rintro e w' ⟨rfl, rfl⟩))
    go_ret
    exact ⟨rfl, HF9.out⟩
  case inr.inl =>
    have hn2 : gN ≠ gk := by have := H4.out.ne (i := 2) (j := a + 4) rfl HKr.out (by omega); intro h; exact this gN rfl (by rw [h]; exact HGk'.out)
    have HNk := Lib.hid hn2
    clear hn2
    have hnk9 : N.kids.length + 1 ≤ 1000000001 := by omega
    have H4d := Lib.hid H4.out.drew
    have Hn := Lib.hid (H4d.out.alloc [.int .i64 x] 3)
    go_upto_region 19 with fail
    go_region_held3 (fun w' => w'.cell? ⟨bx, 0, none⟩ = some (.slice (some ⟨gN, 0, none⟩) nodes.length cN) ∧ w'.cell? ⟨gk, s, none⟩ = some (.int .i64 x)) (go_keep) (first
      | (go_at_call 20; refine (slot_q j _ hlp1 hlp4 s HS.out _).mono ?_; rintro e w' ⟨rfl, rfl⟩)
      | (refine Hs.stepPush2 rfl _ _ 23 rfl 3 i0 _ 1 8 (by kernel_rfl) hi0 hz0 hz1 hz2 rfl (Nat.succ_pos _) (Nat.le_of_ble_eq_true rfl) (a + 5) (.slice (some ⟨gk, 0, none⟩) N.kids.length ck) N.kids.length (ints N.kids) HKr.out _ 1 1 [.int .i64 x] rfl rfl (by decide) rfl rfl hnk9 (Hn.out.news 0 rfl) Hn.out ?_; rintro v1 w2 hh1 hold; obtain ⟨av1, cv1, rfl, _, _⟩ := hh1.form (a + 5) (List.getElem?_set_self (Nat.succ_lt_succ (List.getElem?_eq_some_iff.1 HKr.out).1)); have Hh1 := Lib.hid hh1; replace c0 := hh1.cell 1 rfl 0 rfl; replace xs := hold gk s _ HGk'.out (ints_get HX.out); replace x9 := hh1.rcell 3 rfl (g := gN) rfl _ ((ndsC_get HZa.out 9 (by decide)).trans rfl); replace z9 := hh1.rfroz 3 rfl (g := gN) rfl (a * 10 + 9); have hn1 : gN ≠ bx := (by (have := Hh1.out.ne (i := 3) (j := 1) rfl rfl (by decide); intro h; exact this gN rfl (congrArg some h.symm))); have hn2 : gN ≠ gk := HNk.out; clear hh1 hold))
    obtain ⟨W5, hW5⟩ : ∃ W, W = w2.setCell ⟨gN, a * 10 + 9, none⟩ (.slice av1 (N.kids.length + 1) cv1) := ⟨_, rfl⟩
    rw [← hW5]
    obtain ⟨N2, hN2⟩ : ∃ N2 : Nd, N2 = { N with kids := N.kids ++ [x] } := ⟨_, rfl⟩
    have HN2 := Lib.hid hN2
    have H5 : Hid (Hs (fun k => k < bt) w W5 (kRes bt bx (.slice an nodes.length cn) (.slice af funcs.length cf) (.slice (some ⟨gN, 0, none⟩) nodes.length cN) nodes.length (.slice aF funcs.length cF) funcs (Z.set a (N2, .slice av1 (N.kids.length + 1) cv1)) (Z.set a (N2, .slice av1 (N.kids.length + 1) cv1)))) := Lib.hid (by
      have h0 := Hs.tail (r := .blk W0.drew.heap.size 3 [.int .i64 x]) (rs := (kRes bt bx (.slice an nodes.length cn) (.slice af funcs.length cf) (.slice (some ⟨gN, 0, none⟩) nodes.length cN) nodes.length (.slice aF funcs.length cF) funcs Z Z).set (a + 4) (.row 3 1 (.slice av1 (N.kids.length + 1) cv1) (N.kids.length + 1) (ints N.kids ++ [.int .i64 x]))) Hh1.out
      have h1 := h0.rset 2 rfl (g := gN) rfl (a * 10 + 9) (.slice av1 (N.kids.length + 1) cv1)
      rw [ndsC_setg (.slice av1 (N.kids.length + 1) cv1) 9 (N2, .slice av1 (N.kids.length + 1) cv1) Z a _ HZa.out (by rw [hN2]; rfl) (by decide)] at h1
      have e1 : ints N.kids ++ [.int .i64 x] = ints N2.kids := by rw [hN2]; unfold ints; rw [List.map_append]; rfl
      have e2 : N2.kids.length = N.kids.length + 1 := by rw [hN2]; show (N.kids ++ [x]).length = _; rw [List.length_append]; rfl
      have e3 := kidRows_set Z a N2 (.slice av1 (N.kids.length + 1) cv1)
      rw [e2, ← e1] at e3
      rw [hW5]
      unfold kRes
      rw [← e3]
      exact h1)
    have HSmU := Lib.hid (kids_small HSm.out (a := a) (n := N2) (by rw [hN2]; show (N.kids ++ [x]).length ≤ _; rw [List.length_append]; show N.kids.length + 1 ≤ _; omega) (by rw [hN2]; exact HNs.out))
    clear hW5 hN2 H4 H4d Hn Hh1 x9 z9 b0 c0 c1 z0 xs hn1 hn2
    have hTR : TreeRd W5 (nodes.set a N2) funcs (.slice (some ⟨gN, 0, none⟩) nodes.length cN) (.slice aF funcs.length cF) := kids_read HKl.out (by rw [← HZ.out]; exact H5.out)
    have hcU : Tm.check (nodes.set a N2) funcs = false := Tm.other_count HCb.out HN.out (by rw [HN2.out]; show (N.kids ++ [x]).length ≠ _; rw [List.length_append]; show N.kids.length + 1 ≠ _; omega)
    have HTR := Lib.hid hTR
    have HcU := Lib.hid hcU
    have HF := Lib.hid (fr_of_kp (by rw [← HBt.out]; exact H5.out.kp))
    have c0 := H5.out.cell 0 rfl 0 rfl
    have c1 := H5.out.cell 0 rfl 1 rfl
    clear hTR hcU
    go_wp2_with fail
    refine (check_c (nodes.set a N2) funcs _ _ _ HTR.out HSmU.out).mono ?_
    rintro e w9 ⟨rfl, hf9⟩
    rw [HcU.out]
    have HF9 := Lib.hid (HF.out.trans hf9)
    clear hf9
    go_wp2_with (first | (go_at_call 18; refine (num_c _ _).mono ?_; rintro e w' ⟨rfl, rfl⟩))
    go_ret
    exact ⟨rfl, HF9.out⟩
  case inr.inr =>
    obtain ⟨y0, hy0⟩ : ∃ y, N.kids[0]? = some y := ⟨_, List.getElem?_eq_getElem hlp⟩
    have ys := H4.out.rcell (a + 4) HKr.out (g := gk) HGk'.out 0 (ints_get hy0)
    have hyb := (Tm.check_iff.1 HCb.out).low a N HN.out y0 (List.mem_of_getElem? hy0)
    obtain ⟨rc1, rc2⟩ := slotF_range j 9 (by decide)
    obtain ⟨c, hc⟩ : ∃ c : Nat, slotF j 9 = (c : Int) := ⟨(slotF j 9).toNat, by omega⟩
    have HC := Lib.hid hc
    have hc9 : c < 9 := by omega
    have s1 : IntKind.i64.wrap (y0 + 1) = y0 + 1 := IntWalk.i64_in _ (by omega)
    have s2 : IntKind.i64.wrap (y0 + 1 + (c : Int)) = y0 + 1 + (c : Int) := IntWalk.i64_in _ (by omega)
    have zs := H4.out.rfroz (a + 4) HKr.out (g := gk) HGk'.out s
    clear rc1 rc2 hc
    go_upto_region 10 with fail
    go_still_tail 13, (by kernel_rfl)
    still_call (slot_q j _ hlp1 hlp4 s HS.out _)
    repeat still_step
    still_call (slot_q j 9 (by decide) (by decide) c HC.out _)
    repeat still_step
    refine wpStill_nil ?_
    change wpList _ _ _ _ _ (World.drew _)
    go_wp2_with fail
    obtain ⟨W5, hW5⟩ : ∃ W, W = (W0.setCell ⟨gk, s, none⟩ (.int .i64 (y0 + 1 + (c : Int)))).drew := ⟨_, rfl⟩
    rw [← hW5]
    obtain ⟨N2, hN2⟩ : ∃ N2 : Nd, N2 = { N with kids := N.kids.set s (y0 + 1 + (c : Int)) } := ⟨_, rfl⟩
    have HN2 := Lib.hid hN2
    have H5 : Hid (Hs (fun k => k < bt) w W5 (kRes bt bx (.slice an nodes.length cn) (.slice af funcs.length cf) (.slice (some ⟨gN, 0, none⟩) nodes.length cN) nodes.length (.slice aF funcs.length cF) funcs (Z.set a (N2, .slice (some ⟨gk, 0, none⟩) N.kids.length ck)) (Z.set a (N2, .slice (some ⟨gk, 0, none⟩) N.kids.length ck)))) := Lib.hid (by
      have h1 := (H4.out.rset (a + 4) HKr.out (g := gk) HGk'.out s (.int .i64 (y0 + 1 + (c : Int)))).drew
      rw [ints_set] at h1
      have e2 : N2.kids.length = N.kids.length := by rw [hN2]; show (N.kids.set _ _).length = _; rw [List.length_set]
      have e3 := kidRows_set Z a N2 (.slice (some ⟨gk, 0, none⟩) N.kids.length ck)
      rw [e2, show N2.kids = N.kids.set s (y0 + 1 + (c : Int)) by rw [hN2]] at e3
      have e4 : ndsC (Z.set a (N2, .slice (some ⟨gk, 0, none⟩) N.kids.length ck)) = ndsC Z := by
        rw [← ndsC_setg (.slice (some ⟨gk, 0, none⟩) N.kids.length ck) 9 (N2, .slice (some ⟨gk, 0, none⟩) N.kids.length ck) Z a _ HZa.out (by rw [hN2]; rfl) (by decide)]
        exact set_self ((ndsC_get HZa.out 9 (by decide)).trans rfl)
      rw [hW5]
      unfold kRes
      rw [e4, ← e3]
      exact h1)
    have HSmU := Lib.hid (kids_small HSm.out (a := a) (n := N2) (by rw [hN2]; show (N.kids.set _ _).length ≤ _; rw [List.length_set]; omega) (by rw [hN2]; exact HNs.out))
    clear hN2 H4 x9 z9 b0 c0 c1 z0 xs ys zs s1 s2
    have xs : W5.cell? ⟨gk, s, none⟩ = some (.int .i64 (y0 + 1 + (c : Int))) := H5.out.rcell (a + 4) (kidRows_get (r1 := .row 45 10 (.slice (some ⟨gN, 0, none⟩) nodes.length cN) nodes.length (ndsC (Z.set a (N2, .slice (some ⟨gk, 0, none⟩) N.kids.length ck)))) (r2 := .row 3 1 (.slice aF funcs.length cF) funcs.length (ints funcs)) (List.getElem?_set_self (by rw [HZl.out]; exact hal))) (g := gk) HGk'.out s (ints_get (by rw [HN2.out]; exact List.getElem?_set_self hsl))
    have b0 := H5.out.cell 1 rfl 0 rfl
    have hfw := fr_of_kp (w := w) (w' := W5) (by rw [← HBt.out]; exact H5.out.kp)
    obtain ⟨tg, t0, tk, tc, htn, hkr0, _, _, _, _, _, _, _, _, _, t9⟩ := node_at (HT.out.fr hfw) hal
    have hNe2 : nodes[a] = N := by have := HN.out; rw [List.getElem?_eq_getElem hal] at this; injection this
    rw [hNe2] at hkr0 t9
    obtain ⟨kg, ko, hkn, tx⟩ := rdS_int hkr0 HX.out
    subst htn
    subst hkn
    have HNe : Hid (N.kids.set s (y0 + 1 + (c : Int)) = N.kids → y0 + 1 + (c : Int) = x) := Lib.hid (fun h0 => by
      have h1 := congrArg (fun l => l[s]?) h0
      simp only [List.getElem?_set_self hsl, HX.out, Option.some.injEq] at h1
      exact h1)
    clear hfw hkr0 hNe2 hW5
    go_wp2_with fail
    refine (slot_q j _ hlp1 hlp4 s HS.out _).mono ?_
    rintro e w' ⟨rfl, rfl⟩
    by_cases hxy : y0 + 1 + (c : Int) = x
    · have qx : (y0 + 1 + (c : Int) == x) = true := beq_iff_eq.2 hxy
      have HF := Lib.hid (fr_of_kp (w := w) (w' := w') (by rw [← HBt.out]; exact H5.out.kp))
      clear hxy
      go_wp2_with fail
      refine Reg.wp_region_text (by kernel_rfl) (by kernel_rfl) ?_
      go_wp2_with fail
      refine ⟨by kernel_rfl, ?_⟩
      go_wp2_with fail
      go_ret
      exact ⟨rfl, HF.out.drew⟩
    have qx : (y0 + 1 + (c : Int) == x) = false := beq_eq_false_iff_ne.2 hxy
    go_wp2_with fail
    refine Reg.wp_region_text (by kernel_rfl) (by kernel_rfl) ?_
    go_wp2_with fail
    refine ⟨by kernel_rfl, ?_⟩
    clear xs t9 tx b0
    have H6 := Lib.hid H5.out.drew
    have hTR : TreeRd w'.drew (nodes.set a N2) funcs (.slice (some ⟨gN, 0, none⟩) nodes.length cN) (.slice aF funcs.length cF) := kids_read HKl.out (by rw [← HZ.out]; exact H6.out)
    have hcU : Tm.check (nodes.set a N2) funcs = false := Tm.other_kid HCb.out HN.out (by rw [HN2.out]; intro h0; exact hxy (HNe.out h0)) (by rw [HN2.out]; show (N.kids.set _ _).length = _; rw [List.length_set]) (by rw [HN2.out])
    have HTR := Lib.hid hTR
    have HcU := Lib.hid hcU
    have HF := Lib.hid (fr_of_kp (by rw [← HBt.out]; exact H6.out.kp))
    have c0 := H6.out.cell 0 rfl 0 rfl
    have c1 := H6.out.cell 0 rfl 1 rfl
    clear hTR hcU
    go_wp2_with fail
    refine (check_c (nodes.set a N2) funcs _ _ _ HTR.out HSmU.out).mono ?_
    rintro e w9 ⟨rfl, hf9⟩
    rw [HcU.out]
    have HF9 := Lib.hid (HF.out.trans hf9)
    clear hf9
    go_wp2_with (first | (go_at_call 18; refine (num_c _ _).mono ?_; rintro e w' ⟨rfl, rfl⟩))
    go_ret
    exact ⟨rfl, HF9.out⟩
end Go.Proofs.YtllahgnpjodgmaaDoor
