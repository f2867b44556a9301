/- quernlaw4's parses: true for every list of tokens. -/
import Derived.Test.YthodjlhjfaccpaaLt
import Derived.Deep.DeepCutAuto
import Derived.Deep.QuietTactic
import Derived.BigQuiet
set_option linter.unusedVariables false
namespace Go.Proofs.Ythodjlhjfaccpaa
open Go Go.RowKit Mem Pm

/-- A tree's part of a list of resources. -/
def tr (r : PRes) (nd fu ne : Value) (kvs : List Value) : List Res := treeRes r.nodes r.funcs r.nest nd fu ne kvs
theorem tr_lens {A : Nat → Prop} {w0 w : World} {pre rest : List Res} {r : PRes} {nd fu ne : Value} {kvs : List Value} (hk : kvs.length = r.nodes.length) (h : Hs A w0 w (pre ++ (tr r nd fu ne kvs ++ rest))) :
    r.nodes.length ≤ 9223372036854775807 ∧ r.funcs.length ≤ 9223372036854775807 ∧ r.nest.length ≤ 9223372036854775807 ∧ ∀ n ∈ r.nodes, n.kids.length ≤ 9223372036854775807 := by
  have hm : ∀ q ∈ tr r nd fu ne kvs, q ∈ pre ++ (tr r nd fu ne kvs ++ rest) := fun q hq => List.mem_append.2 (.inr (List.mem_append.2 (.inl hq)))
  refine ⟨row_len h (hm _ (List.mem_cons_self ..)), row_len h (hm _ (List.mem_cons_of_mem _ (List.mem_cons_self ..))), row_len h (hm _ (List.mem_cons_of_mem _ (List.mem_cons_of_mem _ (List.mem_cons_self ..)))), fun n hn => ?_⟩
  obtain ⟨i, hi, he⟩ := List.getElem_of_mem hn
  have hz : (n, kvs[i]'(by omega)) ∈ r.nodes.zip kvs := by
    rw [List.mem_iff_getElem]
    exact ⟨i, by rw [List.length_zip]; omega, by rw [List.getElem_zip, he]⟩
  exact row_len h (hm _ (List.mem_cons_of_mem _ (List.mem_cons_of_mem _ (List.mem_cons_of_mem _ (List.mem_map.2 ⟨_, hz, rfl⟩)))))

theorem RdS.kp {w w' : World} {v : Value} {n : Nat} {xs : List Value} (h : RdS w v n xs) (hk : Kp (fun k => k < w.heap.size) w w') : RdS w' v n xs :=
  h.fr ⟨hk.os, hk.tape, hk.output, hk.size, fun k hk' _ => hk.block k hk'⟩
def xor1 (x : Int) : Int := bits .xor .i64 x 1
def tw (t : Tok) : Tok := { t with at_ := xor1 t.at_, value := if t.kind = 2 then xor1 t.value else t.value }
def mix (l : List Tok) (k : Nat) : List Tok := (l.take k).map tw ++ l.drop k
theorem mix_len (l : List Tok) (k : Nat) : (mix l k).length = l.length := by simp [mix]; omega
theorem mix_get (l : List Tok) (k : Nat) (h : k < l.length) : (mix l k)[k]? = some l[k] := by
  unfold mix
  rw [List.getElem?_append_right (by simp; omega)]
  simp [Nat.min_eq_left (Nat.le_of_lt h), List.getElem?_drop]

theorem mix_succ (l : List Tok) (k : Nat) (t : Tok) (h : l[k]? = some t) : mix l (k + 1) = (mix l k).set k (tw t) := by
  have hk : k < l.length := (List.getElem?_eq_some_iff.1 h).1
  have he : l[k] = t := (List.getElem?_eq_some_iff.1 h).2
  unfold mix
  rw [List.set_append_right _ _ (by simp; omega)]
  have e1 : k - ((l.take k).map tw).length = 0 := by simp; omega
  rw [e1, List.drop_eq_getElem_cons hk, List.set_cons_zero, List.take_add_one, h, List.map_append, List.append_assoc]
  rfl
theorem toksC_set : ∀ (l : List Tok) (k j : Nat) (t t' : Tok) (u : Value), l[k]? = some t → j < 4 → (tokC t).set j u = tokC t' → (toksC l).set (k * 4 + j) u = toksC (l.set k t')
  | [], k, j, t, t', u, h, _, _ => by simp at h
  | x :: r, 0, j, t, t', u, h, hj, he => by
    simp at h
    subst h
    unfold toksC
    rw [List.flatMap_cons, List.set_cons_zero, List.flatMap_cons, List.set_append_left _ _ (by rw [tokC_len]; omega), Nat.zero_mul, Nat.zero_add, he]
  | x :: r, k + 1, j, t, t', u, h, hj, he => by
    have ih := toksC_set r k j t t' u (by simpa using h) hj he
    unfold toksC at ih ⊢
    rw [List.flatMap_cons, List.set_cons_succ, List.flatMap_cons, List.set_append_right _ _ (by rw [tokC_len]; omega), tokC_len, show (k + 1) * 4 + j - 4 = k * 4 + j by omega, ih]

set_option maxRecDepth 100000 in
set_option maxHeartbeats 16000000 in
theorem parses_c (l : List Tok) (en : Int) (a : Option Addr) (cap : Nat) (w : World) (h : RdS w (.slice a l.length cap) l.length (toksC l)) (hl : l.length ≤ 100000) (hnm : ∀ t ∈ l, t.name.size ≤ 9223372036854775807) :
    Calls Try.prog 8 #[.slice a l.length cap, .int .i64 en] w fun e w' => e = .returned (.bool true) ∧ Kp (fun k => k < w.heap.size) w w' := by
  have H := Lib.hid h
  have Hnm := Lib.hid hnm
  clear h hnm
  go_enter Try.func8, Try.ntmps8
  go_wp2_with fail
  refine (tokens_c l a cap w H.out (by omega)).mono ?_
  rintro e w1 ⟨a1, c1, rfl, hg1⟩
  have h1 := hg1 _ _ _ (Hs.start w)
  have hf1 : ∀ {v n xs}, RdS w v n xs → RdS w1 v n xs := fun {v n xs} hh => hh.fr ⟨h1.kp.os, h1.kp.tape, h1.kp.output, h1.kp.size, fun k hk _ => h1.kp.block k hk⟩
  have Hl1 := Lib.hid (hf1 H.out)
  obtain ⟨a1', c1', he, hcap1, hgg⟩ := h1.form 0 rfl
  injection he with he1 _ he2
  subst he1 he2
  obtain ⟨gc, rfl, hgc⟩ := hgg (Nat.succ_pos _)
  have H1 := Lib.hid h1
  have Hgc := Lib.hid hgc
  have hlc : (l.length : Int) ≤ (c1 : Int) := by omega
  clear h1 hg1 hf1 hgg hgc
  go_wp2_with fail
  have r1 : RdS w1 (.slice (some ⟨gc, 0, none⟩) l.length c1) l.length (toksC l) := RdS.pre (ys := marksC) (rdS_row H1.out 0 rfl) (Nat.le_add_right _ _)
  refine (parse_f l en w1 _ c1 r1 (by omega)).mono ?_
  rintro e w2 ⟨nd1, fu1, ne1, kvs1, hk1, rfl, hg2⟩
  have h2 := (hg2 _ _ _ H1.out).frontP (p := [.row 48 4 (.slice (some ⟨gc, 0, none⟩) (l.length + 2) c1) (l.length + 2) (toksC l ++ marksC)]) (m := [])
  obtain ⟨an1, cn1, rfl, _, _⟩ := h2.form 1 rfl
  obtain ⟨af1, cf1, rfl, _, _⟩ := h2.form 2 rfl
  obtain ⟨ae1, ce1, rfl, _, _⟩ := h2.form 3 rfl
  generalize hR : ans l en = R at h2 hk1 ⊢
  have HR := Lib.hid hR
  have H2 := Lib.hid (h2.alloc [.slice an1 R.nodes.length cn1, .slice af1 R.funcs.length cf1] 35)
  have Hk1 := Lib.hid hk1
  have Hl2 := Lib.hid (Hl1.out.fr ((show Fr w1 w2 by have h1 := hg2.kp; exact ⟨h1.os, h1.tape, h1.output, h1.size, fun k hk _ => h1.block k hk⟩).alloc (.cells #[.slice an1 R.nodes.length cn1, .slice af1 R.funcs.length cf1] 35)))
  clear r1 hg2 hk1 h2 hR
  go_wp2_with fail
  generalize hB1 : w2.heap.size = B1 at H2 ⊢
  generalize World.alloc w2 _ = W2 at H2 Hl2 ⊢
  clear hB1
  have hrp := refParse_f l en W2 _ cap Hl2.out (by omega) Hnm.out
  rw [HR.out] at hrp
  refine hrp.mono ?_
  clear hrp
  rintro e w3 ⟨nd2, fu2, ne2, kvs2, hk2, rfl, hg3⟩
  have h3 := (hg3 _ _ _ H2.out).frontP (p := [.blk B1 35 [.slice an1 R.nodes.length cn1, .slice af1 R.funcs.length cf1], .row 48 4 (.slice (some ⟨gc, 0, none⟩) (l.length + 2) c1) (l.length + 2) (toksC l ++ marksC)])
    (m := tr R (.slice an1 R.nodes.length cn1) (.slice af1 R.funcs.length cf1) (.slice ae1 R.nest.length ce1) kvs1 ++ [])
  obtain ⟨an2, cn2, rfl, _, _⟩ := h3.form 2 rfl
  obtain ⟨af2, cf2, rfl, _, _⟩ := h3.form 3 rfl
  obtain ⟨ae2, ce2, rfl, _, _⟩ := h3.form 4 rfl
  have H3 := Lib.hid (show Hs (fun k => k < w.heap.size) w _ ([.blk w3.heap.size 35 [.slice an2 R.nodes.length cn2, .slice af2 R.funcs.length cf2], .blk B1 35 [.slice an1 R.nodes.length cn1, .slice af1 R.funcs.length cf1], .row 48 4 (.slice (some ⟨gc, 0, none⟩) (l.length + 2) c1) (l.length + 2) (toksC l ++ marksC)] ++
      (tr R (.slice an2 R.nodes.length cn2) (.slice af2 R.funcs.length cf2) (.slice ae2 R.nest.length ce2) kvs2 ++ (tr R (.slice an1 R.nodes.length cn1) (.slice af1 R.funcs.length cf1) (.slice ae1 R.nest.length ce1) kvs1 ++ []))) from
    h3.alloc [.slice an2 R.nodes.length cn2, .slice af2 R.funcs.length cf2] 35)
  have Hk2 := Lib.hid hk2
  have Hl3 := Lib.hid (Hl2.out.fr ((show Fr W2 w3 by have h1 := hg3.kp; exact ⟨h1.os, h1.tape, h1.output, h1.size, fun k hk _ => h1.block k hk⟩).alloc (.cells #[.slice an2 R.nodes.length cn2, .slice af2 R.funcs.length cf2] 35)))
  clear hg3 hk2 h3
  go_wp2_with fail
  generalize hB2 : w3.heap.size = B2 at H3 ⊢
  generalize World.alloc w3 _ = W3 at H3 Hl3 ⊢
  clear hB2
  refine (num_c _ _).mono ?_
  rintro e w' ⟨rfl, rfl⟩
  have q1 : (R.code != R.code) = false := by rw [bne_eq_false_iff_eq]
  have q2 : (R.at_ != R.at_) = false := by rw [bne_eq_false_iff_eq]
  -- what the trees read as
  have hT2 := treeRd_of Hk2.out H3.out
  have hL := tr_lens Hk2.out H3.out
  have hT1 := treeRd_of (pre := [.blk B2 35 [.slice an2 R.nodes.length cn2, .slice af2 R.funcs.length cf2], .blk B1 35 [.slice an1 R.nodes.length cn1, .slice af1 R.funcs.length cf1], .row 48 4 (.slice (some ⟨gc, 0, none⟩) (l.length + 2) c1) (l.length + 2) (toksC l ++ marksC)] ++ tr R (.slice an2 R.nodes.length cn2) (.slice af2 R.funcs.length cf2) (.slice ae2 R.nest.length ce2) kvs2) Hk1.out (by
    have := H3.out
    rw [← List.append_assoc] at this
    exact this)
  have HT1 := Lib.hid hT1
  have HT2 := Lib.hid hT2
  have HL := Lib.hid hL
  have b20 := H3.out.cell 0 rfl 0 rfl
  have b21 := H3.out.cell 0 rfl 1 rfl
  have b10 := H3.out.cell 1 rfl 0 rfl
  have b11 := H3.out.cell 1 rfl 1 rfl
  clear hT1 hT2 hL b20 b21 b10 b11
  go_wp2_with fail
  refine (sameInts_t R.nest _ _ _ HT1.out.2 HT2.out.2 HL.out.2.2.1).mono ?_
  rintro e w4 ⟨rfl, hf4⟩
  have H4 := Lib.hid (H3.out.ch0 hf4)
  have HT1' := Lib.hid (HT1.out.1.fr hf4)
  have HT2' := Lib.hid (HT2.out.1.fr hf4)
  have Hl4 := Lib.hid (Hl3.out.fr hf4)
  have b20 := H4.out.cell 0 rfl 0 rfl
  have b21 := H4.out.cell 0 rfl 1 rfl
  have b10 := H4.out.cell 1 rfl 0 rfl
  have b11 := H4.out.cell 1 rfl 1 rfl
  clear hf4
  go_wp2_with fail
  refine (same_t R.nodes R.funcs _ _ _ _ _ HT1'.out HT2'.out HL.out.1 HL.out.2.1 HL.out.2.2.2).mono ?_
  rintro e w5 ⟨rfl, hf5⟩
  have H5 := Lib.hid (H4.out.ch0 hf5)
  have HT1'' := Lib.hid (HT1'.out.fr hf5)
  have HT2'' := Lib.hid (HT2'.out.fr hf5)
  have Hl5 := Lib.hid (Hl4.out.fr hf5)
  have m0 := H5.out.rcell 2 rfl Hgc.out (l.length * 4) (u := .int .i64 (-71)) (by rw [List.getElem?_append_right (by rw [toksC_len]; omega), toksC_len, Nat.sub_self]; rfl)
  have m1 := H5.out.rcell 2 rfl Hgc.out ((l.length + 1) * 4) (u := .int .i64 (-72)) (by rw [List.getElem?_append_right (by rw [toksC_len]; omega), toksC_len, show (l.length + 1) * 4 - l.length * 4 = 4 by omega]; rfl)
  have i0 : (0 : Int) ≤ (l.length : Int) := by omega
  have i1 : (l.length : Int) < (l.length : Int) + 2 := by omega
  have i2 : (l.length : Int) + 1 < (l.length : Int) + 2 := by omega
  have i3 : (0 : Int) ≤ (l.length : Int) + 1 := by omega
  have i4 : ((l.length : Int) + 1).toNat = l.length + 1 := by omega
  clear hf5 b20 b21 b10 b11
  go_wp2_with fail
  go_loopg [15] l.length (fun m i wr => ∃ k : Nat, k + m = l.length ∧ i = .int .i64 (k : Int) ∧
    Hs (fun k => k < w.heap.size) w wr ([.blk B2 35 [.slice an2 R.nodes.length cn2, .slice af2 R.funcs.length cf2], .blk B1 35 [.slice an1 R.nodes.length cn1, .slice af1 R.funcs.length cf1], .row 48 4 (.slice (some ⟨gc, 0, none⟩) (l.length + 2) c1) (l.length + 2) (toksC (mix l k) ++ marksC)] ++
      (tr R (.slice an2 R.nodes.length cn2) (.slice af2 R.funcs.length cf2) (.slice ae2 R.nest.length ce2) kvs2 ++ (tr R (.slice an1 R.nodes.length cn1) (.slice af1 R.funcs.length cf1) (.slice ae1 R.nest.length ce1) kvs1 ++ []))))
  case atStart => exact ⟨0, by omega, rfl, H5.out⟩
  case round =>
    obtain ⟨k, hk, rfl, hh⟩ := hrel
    have Hh := Lib.hid hh
    by_cases hlt : k < l.length
    · have hki : (k : Int) < (l.length : Int) := by omega
      have hk0 : (0 : Int) ≤ (k : Int) := by omega
      have hk2 : (k : Int) < (l.length : Int) + 2 := by omega
      have ht : l[k]? = some l[k] := List.getElem?_eq_getElem hlt
      have hm := mix_get l k hlt
      obtain ⟨bt, off, rfl, hbt, t0, t1, t2, t3⟩ := rd_tok (rd_of_rdS (H.out.kp hh.kp)) ht
      have gg := fun (j : Nat) (hj : j < 4) (u : Value) (hu : (tokC l[k])[j]? = some u) => hh.rcell 2 rfl Hgc.out (k * 4 + j) (u := u) (by rw [List.getElem?_append_left (by rw [toksC_len, mix_len]; omega), toksC_get hm j hj]; exact hu)
      have d0 := gg 0 (by omega) _ rfl
      have d1 := gg 1 (by omega) _ rfl
      have d2 := gg 2 (by omega) _ rfl
      have d3 := gg 3 (by omega) _ rfl
      rw [Nat.add_zero] at d0
      have z1 := hh.rfroz 2 rfl Hgc.out (k * 4 + 1)
      have z2 := hh.rfroz 2 rfl Hgc.out (k * 4 + 2)
      generalize l[k] = t at t0 t1 t2 t3 d0 d1 d2 d3 ht hm
      clear hh gg
      have Ht := Lib.hid ht
      have Hm := Lib.hid hm
      clear ht hm
      have hset1 : (toksC (mix l k) ++ marksC).set (k * 4 + 1) (.int .i64 (xor1 t.at_)) = toksC ((mix l k).set k { t with at_ := xor1 t.at_ }) ++ marksC := by
        rw [List.set_append_left _ _ (by rw [toksC_len, mix_len]; omega), toksC_set _ k 1 t { t with at_ := xor1 t.at_ } _ Hm.out (by omega) rfl]
      have Hs1 := Lib.hid hset1
      clear hset1
      by_cases hkk : t.kind = 2
      · have qk : (t.kind == 2) = true := beq_iff_eq.2 hkk
        have hset2 : (toksC ((mix l k).set k { t with at_ := xor1 t.at_ }) ++ marksC).set (k * 4 + 2) (.int .i64 (xor1 t.value)) = toksC (mix l (k + 1)) ++ marksC := by
          rw [List.set_append_left _ _ (by rw [toksC_len, List.length_set, mix_len]; omega), toksC_set _ k 2 { t with at_ := xor1 t.at_ } (tw t) _ (by rw [List.getElem?_set_self (by rw [mix_len]; omega)]) (by omega) (by unfold tw; rw [if_pos hkk]; rfl), List.set_set, mix_succ l k t Ht.out]
        have Hs2 := Lib.hid hset2
        clear hset2 hkk
        go_wp2_with fail
        go_quiet (fail)
        have Hq := Lib.hid (Hh.out.drewN nq)
        have d0q : (wr.drewN nq).cell? ⟨gc, k * 4, none⟩ = some (.int .i64 t.kind) := d0
        have d1q : (wr.drewN nq).cell? ⟨gc, k * 4 + 1, none⟩ = some (.int .i64 t.at_) := d1
        have d2q : (wr.drewN nq).cell? ⟨gc, k * 4 + 2, none⟩ = some (.int .i64 t.value) := d2
        have z1q : (wr.drewN nq).frozen? ⟨gc, k * 4 + 1, none⟩ = false := z1
        have z2q : (wr.drewN nq).frozen? ⟨gc, k * 4 + 2, none⟩ = false := z2
        clear d0 d1 d2 d3 z1 z2 t0 t1 t2 t3
        generalize World.drewN wr nq = wq at Hq d0q d1q d2q z1q z2q ⊢
        go_wp2_with fail
        go_roundg (gk - 1)
        case measure => omega
        case rel =>
          refine ⟨k + 1, by omega, by go_num, ?_⟩
          have h3 := (Hq.out.rset 2 rfl Hgc.out (k * 4 + 1) (.int .i64 (xor1 t.at_))).rset 2 rfl Hgc.out (k * 4 + 2) (.int .i64 (xor1 t.value))
          simp only [List.cons_append, List.nil_append, List.set_cons_succ, List.set_cons_zero] at h3 ⊢
          rw [Hs1.out, Hs2.out] at h3
          exact h3
      · have qk : (t.kind == 2) = false := beq_eq_false_iff_ne.2 hkk
        have hset2 : toksC ((mix l k).set k { t with at_ := xor1 t.at_ }) ++ marksC = toksC (mix l (k + 1)) ++ marksC := by
          rw [mix_succ l k t Ht.out]
          have : tw t = { t with at_ := xor1 t.at_ } := by unfold tw; rw [if_neg hkk]
          rw [this]
        have Hs2 := Lib.hid hset2
        clear hset2 hkk
        go_wp2_with fail
        go_quiet (fail)
        have Hq := Lib.hid (Hh.out.drewN nq)
        have d0q : (wr.drewN nq).cell? ⟨gc, k * 4, none⟩ = some (.int .i64 t.kind) := d0
        have d1q : (wr.drewN nq).cell? ⟨gc, k * 4 + 1, none⟩ = some (.int .i64 t.at_) := d1
        have d2q : (wr.drewN nq).cell? ⟨gc, k * 4 + 2, none⟩ = some (.int .i64 t.value) := d2
        have z1q : (wr.drewN nq).frozen? ⟨gc, k * 4 + 1, none⟩ = false := z1
        have z2q : (wr.drewN nq).frozen? ⟨gc, k * 4 + 2, none⟩ = false := z2
        clear d0 d1 d2 d3 z1 z2 t0 t1 t2 t3
        generalize World.drewN wr nq = wq at Hq d0q d1q d2q z1q z2q ⊢
        go_wp2_with fail
        go_roundg (gk - 1)
        case measure => omega
        case rel =>
          refine ⟨k + 1, by omega, by go_num, ?_⟩
          have h3 := Hq.out.rset 2 rfl Hgc.out (k * 4 + 1) (.int .i64 (xor1 t.at_))
          simp only [List.cons_append, List.nil_append, List.set_cons_succ, List.set_cons_zero] at h3 ⊢
          rw [Hs1.out, Hs2.out] at h3
          exact h3
    · obtain rfl : k = l.length := by omega
      have hki : ¬ (l.length : Int) < (l.length : Int) := by omega
      have hL2 : (mix l l.length).length = l.length := mix_len _ _
      have hnm2 : ∀ t ∈ mix l l.length, t.name.size ≤ 9223372036854775807 := by
        intro t ht
        unfold mix at ht
        rw [List.drop_length, List.append_nil, List.take_length] at ht
        obtain ⟨u, hu, rfl⟩ := List.mem_map.1 ht
        exact Hnm.out u hu
      generalize mix l l.length = l2 at Hh hL2 hnm2
      have Hnm2 := Lib.hid hnm2
      have HL2 := Lib.hid hL2
      obtain ⟨i0, hi0, hz0, hz1, hz2⟩ := info_parts infoTok
      have hcp : 0 < l.length → ∃ d, some (⟨gc, 0, none⟩ : Addr) = some d ∧ ∀ j u, (toksC l2)[j]? = some u → wr.cell? (d.add j) = some u := fun _ =>
        ⟨_, rfl, fun j u hu => by rw [Addr.add_lit, Nat.zero_add]; exact Hh.out.rcell 2 rfl Hgc.out j (by rw [List.getElem?_append_left (List.getElem?_eq_some_iff.1 hu).1]; exact hu)⟩
      have Hcp := Lib.hid hcp
      clear hh hcp hnm2 hL2
      go_wp2_with (at_builtin; go_must (refine Hs.copy rfl _ _ 22 rfl 48 i0 _ 4 40 (by kernel_rfl) hi0 hz0 hz1 hz2 rfl (Nat.succ_pos _) (Nat.le_of_ble_eq_true rfl) (some ⟨gc, 0, none⟩) l.length c1 (toksC l2) rfl rfl (by rw [toksC_len, HL2.out]) (toksC_one l2) (by omega) Hcp.out Hh.out ?_))
      intro v6 w6 hh6
      obtain ⟨ax, cx, rfl, _, _⟩ := hh6.form 0 rfl
      have H6 := Lib.hid hh6
      clear hh6 hz0 hz1 hz2 hi0
      go_wp2_with fail
      have h6 : Hs (fun k => k < w.heap.size) w w6 ([.row 48 4 (.slice ax l.length cx) l.length (toksC l2), .blk B2 35 [.slice an2 R.nodes.length cn2, .slice af2 R.funcs.length cf2], .blk B1 35 [.slice an1 R.nodes.length cn1, .slice af1 R.funcs.length cf1], .row 48 4 (.slice (some ⟨gc, 0, none⟩) (l.length + 2) c1) (l.length + 2) (toksC l2 ++ marksC)] ++ (tr R (.slice an2 R.nodes.length cn2) (.slice af2 R.funcs.length cf2) (.slice ae2 R.nest.length ce2) kvs2 ++ tr R (.slice an1 R.nodes.length cn1) (.slice af1 R.funcs.length cf1) (.slice ae1 R.nest.length ce1) kvs1)) := by
        have := H6.out
        simpa only [List.cons_append, List.nil_append, List.append_nil] using this
      have r6 : RdS w6 (.slice (some ⟨gc, 0, none⟩) l2.length c1) l2.length (toksC l2) := by
        rw [HL2.out]
        exact RdS.pre (ys := marksC) (rdS_row h6 3 rfl) (Nat.le_add_right _ _)
      have hp6 := parse_f l2 en w6 _ c1 r6 (by have := HL2.out; omega)
      rw [HL2.out] at hp6
      have H6' := Lib.hid h6
      generalize hS : ans l2 en = S at hp6
      have HS := Lib.hid hS
      clear r6 h6 hS
      refine hp6.mono ?_
      clear hp6
      rintro e w7 ⟨nd3, fu3, ne3, kvs3, hk3, rfl, hg7⟩
      have h7 := (hg7 _ _ _ H6'.out).frontP (p := [.row 48 4 (.slice ax l.length cx) l.length (toksC l2), .blk B2 35 [.slice an2 R.nodes.length cn2, .slice af2 R.funcs.length cf2], .blk B1 35 [.slice an1 R.nodes.length cn1, .slice af1 R.funcs.length cf1], .row 48 4 (.slice (some ⟨gc, 0, none⟩) (l.length + 2) c1) (l.length + 2) (toksC l2 ++ marksC)]) (m := tr R (.slice an2 R.nodes.length cn2) (.slice af2 R.funcs.length cf2) (.slice ae2 R.nest.length ce2) kvs2 ++ tr R (.slice an1 R.nodes.length cn1) (.slice af1 R.funcs.length cf1) (.slice ae1 R.nest.length ce1) kvs1)
      obtain ⟨an3, cn3, rfl, _, _⟩ := h7.form 4 rfl
      obtain ⟨af3, cf3, rfl, _, _⟩ := h7.form 5 rfl
      obtain ⟨ae3, ce3, rfl, _, _⟩ := h7.form 6 rfl
      have H7 := Lib.hid (h7.alloc [.slice an3 S.nodes.length cn3, .slice af3 S.funcs.length cf3] 35)
      have Hk3 := Lib.hid hk3
      clear hg7 hk3 h7
      go_wp2_with fail
      generalize hB3 : w7.heap.size = B3 at H7 ⊢
      generalize World.alloc w7 _ = W7 at H7 ⊢
      clear hB3
      have h7 : Hs (fun k => k < w.heap.size) w W7 ([.blk B3 35 [.slice an3 S.nodes.length cn3, .slice af3 S.funcs.length cf3], .row 48 4 (.slice ax l.length cx) l.length (toksC l2), .blk B2 35 [.slice an2 R.nodes.length cn2, .slice af2 R.funcs.length cf2], .blk B1 35 [.slice an1 R.nodes.length cn1, .slice af1 R.funcs.length cf1], .row 48 4 (.slice (some ⟨gc, 0, none⟩) (l.length + 2) c1) (l.length + 2) (toksC l2 ++ marksC)] ++ (tr S (.slice an3 S.nodes.length cn3) (.slice af3 S.funcs.length cf3) (.slice ae3 S.nest.length ce3) kvs3 ++ (tr R (.slice an2 R.nodes.length cn2) (.slice af2 R.funcs.length cf2) (.slice ae2 R.nest.length ce2) kvs2 ++ tr R (.slice an1 R.nodes.length cn1) (.slice af1 R.funcs.length cf1) (.slice ae1 R.nest.length ce1) kvs1))) := H7.out
      have r7 : RdS W7 (.slice ax l2.length cx) l2.length (toksC l2) := by
        rw [HL2.out]
        exact rdS_row h7 1 rfl
      have hp7 := refParse_f l2 en W7 _ cx r7 (by have := HL2.out; omega) Hnm2.out
      rw [HL2.out, HS.out] at hp7
      have H7' := Lib.hid h7
      clear r7 h7
      refine hp7.mono ?_
      clear hp7
      rintro e w8 ⟨nd4, fu4, ne4, kvs4, hk4, rfl, hg8⟩
      have h8 := (hg8 _ _ _ H7'.out).frontP (p := [.blk B3 35 [.slice an3 S.nodes.length cn3, .slice af3 S.funcs.length cf3], .row 48 4 (.slice ax l.length cx) l.length (toksC l2), .blk B2 35 [.slice an2 R.nodes.length cn2, .slice af2 R.funcs.length cf2], .blk B1 35 [.slice an1 R.nodes.length cn1, .slice af1 R.funcs.length cf1], .row 48 4 (.slice (some ⟨gc, 0, none⟩) (l.length + 2) c1) (l.length + 2) (toksC l2 ++ marksC)]) (m := tr S (.slice an3 S.nodes.length cn3) (.slice af3 S.funcs.length cf3) (.slice ae3 S.nest.length ce3) kvs3 ++ (tr R (.slice an2 R.nodes.length cn2) (.slice af2 R.funcs.length cf2) (.slice ae2 R.nest.length ce2) kvs2 ++ tr R (.slice an1 R.nodes.length cn1) (.slice af1 R.funcs.length cf1) (.slice ae1 R.nest.length ce1) kvs1))
      obtain ⟨an4, cn4, rfl, _, _⟩ := h8.form 5 rfl
      obtain ⟨af4, cf4, rfl, _, _⟩ := h8.form 6 rfl
      obtain ⟨ae4, ce4, rfl, _, _⟩ := h8.form 7 rfl
      have H8 := Lib.hid (h8.alloc [.slice an4 S.nodes.length cn4, .slice af4 S.funcs.length cf4] 35)
      have Hk4 := Lib.hid hk4
      clear hg8 hk4 h8
      go_wp2_with fail
      generalize hB4 : w8.heap.size = B4 at H8 ⊢
      generalize World.alloc w8 _ = W8 at H8 ⊢
      clear hB4
      have h8 : Hs (fun k => k < w.heap.size) w W8 ([.blk B4 35 [.slice an4 S.nodes.length cn4, .slice af4 S.funcs.length cf4], .blk B3 35 [.slice an3 S.nodes.length cn3, .slice af3 S.funcs.length cf3], .row 48 4 (.slice ax l.length cx) l.length (toksC l2), .blk B2 35 [.slice an2 R.nodes.length cn2, .slice af2 R.funcs.length cf2], .blk B1 35 [.slice an1 R.nodes.length cn1, .slice af1 R.funcs.length cf1], .row 48 4 (.slice (some ⟨gc, 0, none⟩) (l.length + 2) c1) (l.length + 2) (toksC l2 ++ marksC)] ++ (tr S (.slice an4 S.nodes.length cn4) (.slice af4 S.funcs.length cf4) (.slice ae4 S.nest.length ce4) kvs4 ++ (tr S (.slice an3 S.nodes.length cn3) (.slice af3 S.funcs.length cf3) (.slice ae3 S.nest.length ce3) kvs3 ++ (tr R (.slice an2 R.nodes.length cn2) (.slice af2 R.funcs.length cf2) (.slice ae2 R.nest.length ce2) kvs2 ++ (tr R (.slice an1 R.nodes.length cn1) (.slice af1 R.funcs.length cf1) (.slice ae1 R.nest.length ce1) kvs1 ++ []))))) := by
        have := H8.out
        rw [List.append_nil]
        exact this
      have g4 := treeRd_of Hk4.out h8
      have l4 := tr_lens Hk4.out h8
      rw [← List.append_assoc] at h8
      have g3 := treeRd_of Hk3.out h8
      rw [← List.append_assoc] at h8
      have g2 := treeRd_of Hk2.out h8
      have l2_ := tr_lens Hk2.out h8
      rw [← List.append_assoc] at h8
      have g1 := treeRd_of Hk1.out h8
      have G1 := Lib.hid g1.1
      have G2 := Lib.hid g2.1
      have G3 := Lib.hid g3
      have G4 := Lib.hid g4
      have L4 := Lib.hid l4
      have L2 := Lib.hid l2_
      have HH8 := Lib.hid (show Hs (fun k => k < w.heap.size) w W8 ([.blk B4 35 [.slice an4 S.nodes.length cn4, .slice af4 S.funcs.length cf4], .blk B3 35 [.slice an3 S.nodes.length cn3, .slice af3 S.funcs.length cf3], .row 48 4 (.slice ax l.length cx) l.length (toksC l2), .blk B2 35 [.slice an2 R.nodes.length cn2, .slice af2 R.funcs.length cf2], .blk B1 35 [.slice an1 R.nodes.length cn1, .slice af1 R.funcs.length cf1], .row 48 4 (.slice (some ⟨gc, 0, none⟩) (l.length + 2) c1) (l.length + 2) (toksC l2 ++ marksC)] ++ (tr S (.slice an4 S.nodes.length cn4) (.slice af4 S.funcs.length cf4) (.slice ae4 S.nest.length ce4) kvs4 ++ (tr S (.slice an3 S.nodes.length cn3) (.slice af3 S.funcs.length cf3) (.slice ae3 S.nest.length ce3) kvs3 ++ (tr R (.slice an2 R.nodes.length cn2) (.slice af2 R.funcs.length cf2) (.slice ae2 R.nest.length ce2) kvs2 ++ tr R (.slice an1 R.nodes.length cn1) (.slice af1 R.funcs.length cf1) (.slice ae1 R.nest.length ce1) kvs1)))) from H8.out)
      clear h8 g1 g2 g3 g4 l4 l2_ q1 q2 m0 m1
      have q3 : (S.code == S.code) = true := beq_self_eq_true _
      have q4 : (S.at_ == S.at_) = true := beq_self_eq_true _
      refine (num_c _ _).mono ?_
      rintro e w' ⟨rfl, rfl⟩
      go_wp2_with fail
      refine (sameInts_t S.nest _ _ _ G3.out.2 G4.out.2 L4.out.2.2.1).mono ?_
      rintro e w9 ⟨rfl, hf9⟩
      have H9 := Lib.hid (HH8.out.ch0 hf9)
      have G1' := Lib.hid (G1.out.fr hf9)
      have G2' := Lib.hid (G2.out.fr hf9)
      have G3' := Lib.hid (G3.out.1.fr hf9)
      have G4' := Lib.hid (G4.out.1.fr hf9)
      have b40 := H9.out.cell 0 rfl 0 rfl
      have b41 := H9.out.cell 0 rfl 1 rfl
      have b30 := H9.out.cell 1 rfl 0 rfl
      have b31 := H9.out.cell 1 rfl 1 rfl
      clear hf9
      go_wp2_with fail
      refine (same_t S.nodes S.funcs _ _ _ _ _ G3'.out G4'.out L4.out.1 L4.out.2.1 L4.out.2.2.2).mono ?_
      rintro e w10 ⟨rfl, hf10⟩
      have H10 := Lib.hid (H9.out.ch0 hf10)
      have G1'' := Lib.hid (G1'.out.fr hf10)
      have G2'' := Lib.hid (G2'.out.fr hf10)
      clear b40 b41 b30 b31 hf10
      have b20 := H10.out.cell 3 rfl 0 rfl
      have b21 := H10.out.cell 3 rfl 1 rfl
      have b10 := H10.out.cell 4 rfl 0 rfl
      have b11 := H10.out.cell 4 rfl 1 rfl
      go_wp2_with fail
      refine (same_t R.nodes R.funcs _ _ _ _ _ G1''.out G2''.out L2.out.1 L2.out.2.1 L2.out.2.2.2).mono ?_
      rintro e w11 ⟨rfl, hf11⟩
      have HK := Lib.hid (H10.out.ch0 hf11).kp
      clear hf11 b20 b21 b10 b11
      go_wp2_with fail
      go_ret
      exact ⟨rfl, HK.out⟩
end Go.Proofs.Ythodjlhjfaccpaa
