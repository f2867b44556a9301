/- quernlaw4's alive: the plain part.
quernlaw4's alive: the walk.
quernlaw4's ParseTokens and ParseTexts: the walk.
An argument that is a slice of tokens, opened: a list of tokens that it reads as. -/
import Derived.Test.YthodjlhjfaccpaaTx
import Derived.Lib.SlBytesConst
import Derived.Deep.Slices
import Derived.Deep.Fields
import Derived.ChangeSame
set_option linter.unusedVariables false
namespace Go.Proofs.Ythodjlhjfaccpaa
open Go Go.RowKit Mem Pm

def aliveText : List UInt8 := [102, 117, 110, 99, 32, 109, 97, 105, 110, 40, 41, 32, 123, 32, 120, 32, 61, 32, 45, 97, 91, 49, 93, 59, 32, 125]
def aliveToks : List Tok := [⟨10, 0, 0, ⟨#[]⟩⟩, ⟨1, 5, 0, ⟨#[109, 97, 105, 110]⟩⟩, ⟨40, 9, 0, ⟨#[]⟩⟩, ⟨41, 10, 0, ⟨#[]⟩⟩, ⟨42, 12, 0, ⟨#[]⟩⟩, ⟨1, 14, 0, ⟨#[120]⟩⟩, ⟨48, 16, 0, ⟨#[]⟩⟩, ⟨56, 18, 0, ⟨#[]⟩⟩, ⟨1, 19, 0, ⟨#[97]⟩⟩, ⟨44, 20, 0, ⟨#[]⟩⟩, ⟨2, 21, 1, ⟨#[]⟩⟩, ⟨45, 22, 0, ⟨#[]⟩⟩, ⟨47, 23, 0, ⟨#[]⟩⟩, ⟨43, 25, 0, ⟨#[]⟩⟩]
theorem alive_toks : Lx.tokens aliveText = (aliveToks, 0, 0) := by rfl
theorem alive_a : (fun r : PRes => (r.code, r.at_, r.nest, r.nodes.length)) (ans aliveToks 26) = (0, 0, [3], 7) := by kernel_rfl
theorem alive_n3 : (ans aliveToks 26).nodes[3]?.map (fun n => n.op) = some 20 := by kernel_rfl
theorem alive_n6 : (ans aliveToks 26).nodes[6]?.map (fun n => (n.close, n.name.data)) = some (25, #[109, 97, 105, 110]) := by kernel_rfl
theorem alive_b : (fun r : PRes => (r.code, r.at_)) (ans (aliveToks.take 3) 26) = (41, 26) := by kernel_rfl
theorem alive_c : (fun r : PRes => (r.code, r.at_)) (ans (aliveToks.drop 1) 26) = (40, 5) := by kernel_rfl
end Go.Proofs.Ythodjlhjfaccpaa

set_option linter.unusedVariables false
namespace Go.Proofs.Ythodjlhjfaccpaa
open Go Go.RowKit Mem Pm

theorem Mem.Gives.fr' {w w' : World} {res : List Res} (h : Gives w w' res) : Fr w w' :=
  ⟨h.kp.os, h.kp.tape, h.kp.output, h.kp.size, fun k hk _ => h.kp.block k hk⟩
theorem fr_kp {w w' : World} (h : Fr w w') : Kp (fun k => k < w.heap.size) w w' := Kp.of_ch h (fun _ => id) (fun _ _ => id)
theorem fr_cell {w w' : World} (h : Fr w w') {b o : Nat} {v : Value} (hc : w.cell? ⟨b, o, none⟩ = some v) : w'.cell? ⟨b, o, none⟩ = some v :=
  (World.cell?_of_block (h.block b (block_lt_of_cell hc) id)).trans hc

set_option maxRecDepth 100000 in
set_option maxHeartbeats 8000000 in
theorem alive_c0 (w : World) : Calls Try.prog 7 #[] w fun e w' => e = .returned (.bool true) ∧ Kp (fun k => k < w.heap.size) w w' := by
  have kc := fun (w : World) (C : Array Value) (n c : Nat) => Lib.run_convert_bytes_const (P := Try.prog) w 25 5 C n c (by kernel_rfl) (by kernel_rfl)
  go_enter Try.func7, Try.ntmps7
  go_wp2_with fail
  clear kc
  obtain ⟨W1, hW1⟩ : ∃ W1, w.alloc (.cells (bytesC aliveText).toArray 5 (26, 27)) = W1 := ⟨_, rfl⟩
  have hF1 : Fr w W1 := by rw [← hW1]; exact (Ch.refl _ _).alloc _
  have hr : RdS W1 (.slice (some ⟨w.heap.size, 0, none⟩) aliveText.length 26) aliveText.length (bytesC aliveText) := by
    refine ⟨_, _, rfl, by decide, fun _ => ⟨_, 0, rfl, fun j u hu => ?_⟩⟩
    rw [← hW1, World.cell?_alloc_mark, Nat.zero_add, List.getElem?_toArray]
    exact hu
  have HF1 := Lib.hid hF1
  have Hr := Lib.hid hr
  show Calls _ _ _ (w.alloc (.cells (bytesC aliveText).toArray 5 (26, 27))) _
  rw [hW1]
  clear hF1 hr hW1
  have ht := refTokens_c aliveText _ 26 W1 Hr.out (by decide)
  rw [alive_toks] at ht
  refine ht.mono ?_
  clear ht
  rintro e w2 ⟨a2, c2, rfl, hg2⟩
  have hF2 : Fr w w2 := HF1.out.trans hg2.fr'
  have hh2 := hg2 _ _ _ (Hs.start W1)
  obtain ⟨a2', c2', he, hcap2, hgg⟩ := hh2.form 0 rfl
  injection he with he1 _ he2
  subst he1 he2
  obtain ⟨g2, rfl, _⟩ := hgg (by decide)
  have hl2 : RdS w2 (.slice (some ⟨g2, 0, none⟩) aliveToks.length c2) aliveToks.length (toksC aliveToks) := rdS_row hh2 0 rfl
  have HF2 := Lib.hid hF2
  have Hl2 := Lib.hid hl2
  have hcc : (14 : Int) ≤ (c2 : Int) := by have : 14 ≤ c2 := hcap2; omega
  clear hF2 hh2 hl2 hg2 hgg hcap2
  dsimp only
  rw [show aliveToks.length = 14 from rfl]
  go_wp2_with fail
  have hpa := parse_f aliveToks 26 w2 _ c2 Hl2.out (by decide)
  refine hpa.mono ?_
  clear hpa
  obtain ⟨R, hR⟩ : ∃ R, ans aliveToks 26 = R := ⟨_, rfl⟩
  have hRa := alive_a
  have hRb := alive_n3
  have hRc := alive_n6
  rw [hR] at hRa hRb hRc ⊢
  clear hR
  simp only [Prod.mk.injEq] at hRa
  obtain ⟨hc0, hat0, hnest, hnn⟩ := hRa
  rintro e w3 ⟨nd, fu, ne, kvs, hk, rfl, hg3⟩
  have h3 := hg3 _ _ _ (Hs.start w2)
  have hT := treeRd_of (pre := []) hk h3
  have hN := hT.2
  obtain ⟨kv2, hk2, hnd, _⟩ := hT.1.nds
  obtain ⟨af, cf, rfl, _, _⟩ := hT.1.funcs
  rw [hnest] at hN
  obtain ⟨an, cn, rfl, hcn, hNc⟩ := hN
  obtain ⟨gn, on, rfl, hNd⟩ := hNc (by simp [ints])
  have n0 : w3.cell? ⟨gn, on, none⟩ = some (.int .i64 3) := hNd 0 _ rfl
  have z3 : ∃ kv, (R.nodes.zip kv2)[3]? = some (R.nodes[3], kv) := ⟨kv2[3], by rw [List.getElem?_eq_getElem (by rw [List.length_zip]; omega), List.getElem_zip]⟩
  have z6 : ∃ kv, (R.nodes.zip kv2)[6]? = some (R.nodes[6], kv) := ⟨kv2[6], by rw [List.getElem?_eq_getElem (by rw [List.length_zip]; omega), List.getElem_zip]⟩
  obtain ⟨kv3, z3⟩ := z3
  obtain ⟨kv6, z6⟩ := z6
  obtain ⟨gd, od, cd, hd, hc3⟩ := rdS_cells hnd (by rw [List.length_zip]; omega) z3
  obtain ⟨gd', od', cd', hd', hc6⟩ := rdS_cells hnd (by rw [List.length_zip]; omega) z6
  rw [hd] at hd'
  injection hd' with h71 _ h72
  injection h71 with h71
  injection h71 with h73 h74
  subst h72 h73 h74 hd
  have e3 : R.nodes[3].op = 20 := by rw [List.getElem?_eq_getElem (by omega)] at hRb; injection hRb
  have e6 : (R.nodes[6].close, R.nodes[6].name.data) = (25, #[109, 97, 105, 110]) := by rw [List.getElem?_eq_getElem (by omega)] at hRc; injection hRc
  have d36 := hc3 6 _ (by omega) rfl
  have d63 := hc6 3 _ (by omega) rfl
  have d68 := hc6 8 _ (by omega) rfl
  rw [e3] at d36
  rw [show R.nodes[6].close = 25 from congrArg Prod.fst e6] at d63
  rw [show R.nodes[6].name = ⟨#[109, 97, 105, 110]⟩ by have := congrArg Prod.snd e6; cases hnm : R.nodes[6].name; rw [hnm] at this; dsimp only at this; rw [this]] at d68
  have HF3 := Lib.hid (HF2.out.trans hg3.fr')
  have Hl3 := Lib.hid (Hl2.out.fr hg3.fr')
  rw [hc0, hat0, hnn, show ([3] : List Int).length = 1 from rfl]
  clear h3 hT hg3 hk hNc hNd hcn hnd hc3 hc6 hk2 e3 e6 z3 z6 hRb hRc hc0 hat0 hnest hnn
  have Hd36 := Lib.hid d36
  have Hd63 := Lib.hid d63
  have Hd68 := Lib.hid d68
  have Hn0 := Lib.hid n0
  clear d36 d63 d68 n0
  go_wp2_with fail
  obtain ⟨B1, hB1⟩ : ∃ B1, w3.heap.size = B1 := ⟨_, rfl⟩
  have hA3 : Fr w3 (w3.alloc (.cells #[.slice (some ⟨gd, od, none⟩) 7 cd, .slice af R.funcs.length cf] 35)) := (Ch.refl _ _).alloc _
  have b0 : (w3.alloc (.cells #[.slice (some ⟨gd, od, none⟩) 7 cd, .slice af R.funcs.length cf] 35)).cell? ⟨B1, 0, none⟩ = some (.slice (some ⟨gd, od, none⟩) 7 cd) := by rw [← hB1]; simp
  rw [hB1]
  generalize World.alloc w3 _ = W3 at hA3 b0 ⊢
  have HF4 := Lib.hid (HF3.out.trans hA3)
  have Hl4 := Lib.hid (Hl3.out.fr hA3)
  have He36 := Lib.hid (fr_cell hA3 Hd36.out)
  have He63 := Lib.hid (fr_cell hA3 Hd63.out)
  have He68 := Lib.hid (fr_cell hA3 Hd68.out)
  have Hm0 := Lib.hid (fr_cell hA3 Hn0.out)
  have Hb0 := Lib.hid b0
  clear hA3 b0 hB1 Hd36 Hd63 Hd68 Hn0
  -- the first three
  have hpb := parse_f (aliveToks.take 3) 26 W3 (some ⟨g2, 0, none⟩) c2 (RdS.pre (ys := toksC (aliveToks.drop 3)) (Hl4.out : RdS W3 _ _ (toksC (aliveToks.take 3) ++ toksC (aliveToks.drop 3))) (by decide)) (by decide)
  refine hpb.mono ?_
  clear hpb
  obtain ⟨R2, hR2⟩ : ∃ R, ans (aliveToks.take 3) 26 = R := ⟨_, rfl⟩
  have hRa := alive_b
  rw [hR2] at hRa ⊢
  clear hR2
  simp only [Prod.mk.injEq] at hRa
  obtain ⟨hc0, hat0⟩ := hRa
  rintro e w5 ⟨nd2, fu2, ne2, kvs2, hk2, rfl, hg5⟩
  have h5 := hg5 _ _ _ (Hs.start W3)
  obtain ⟨an2, cn2, rfl, _, _⟩ := h5.form 0 rfl
  obtain ⟨af2, cf2, rfl, _, _⟩ := h5.form 1 rfl
  obtain ⟨ae2, ce2, rfl, _, _⟩ := h5.form 2 rfl
  rw [hc0, hat0]
  have hA5 := hg5.fr'
  have HF5 := Lib.hid (HF4.out.trans hA5)
  have Hl5 := Lib.hid (Hl4.out.fr hA5)
  have Hd36 := Lib.hid (fr_cell hA5 He36.out)
  have Hd63 := Lib.hid (fr_cell hA5 He63.out)
  have Hd68 := Lib.hid (fr_cell hA5 He68.out)
  have Hn0 := Lib.hid (fr_cell hA5 Hm0.out)
  have Ha0 := Lib.hid (fr_cell hA5 Hb0.out)
  clear hA5 h5 hg5 hk2 hc0 hat0 He36 He63 He68 Hm0 Hb0
  go_wp2_with fail
  have hA5 : Fr w5 (w5.alloc (.cells #[.slice an2 R2.nodes.length cn2, .slice af2 R2.funcs.length cf2] 35)) := (Ch.refl _ _).alloc _
  generalize w5.heap.size = B2
  generalize World.alloc w5 _ = W5 at hA5 ⊢
  have HF6 := Lib.hid (HF5.out.trans hA5)
  have Hl6 := Lib.hid (Hl5.out.fr hA5)
  have He36 := Lib.hid (fr_cell hA5 Hd36.out)
  have He63 := Lib.hid (fr_cell hA5 Hd63.out)
  have He68 := Lib.hid (fr_cell hA5 Hd68.out)
  have Hm0 := Lib.hid (fr_cell hA5 Hn0.out)
  have Hb0 := Lib.hid (fr_cell hA5 Ha0.out)
  clear hA5 Hd36 Hd63 Hd68 Hn0 Ha0
  -- all but the first
  have hr6 : RdS W5 (.slice (some ⟨g2, 4, none⟩) (aliveToks.drop 1).length (c2 - 1)) (aliveToks.drop 1).length (toksC (aliveToks.drop 1)) := by
    obtain ⟨a', cap', he, hcap, hr⟩ := Hl6.out
    injection he with he1 _ he2
    subst he1 he2
    obtain ⟨g', off', ha, hcell⟩ := hr (by simp [aliveToks, toksC, tokC])
    injection ha with ha
    injection ha with ha1 ha2
    subst ha1 ha2
    refine ⟨_, _, rfl, ?_, fun _ => ⟨_, 4, rfl, fun j u hu => ?_⟩⟩
    · have : aliveToks.length = 14 := rfl
      rw [List.length_drop]; omega
    · rw [← Nat.zero_add (4 + j)]
      refine hcell (4 + j) u ?_
      have hsp : toksC aliveToks = tokC ⟨10, 0, 0, ⟨#[]⟩⟩ ++ toksC (aliveToks.drop 1) := rfl
      rw [hsp, List.getElem?_append_right (by simp [tokC])]
      rw [show 4 + j - (tokC ⟨10, 0, 0, ⟨#[]⟩⟩).length = j by simp [tokC]]
      exact hu
  have hpc := parse_f (aliveToks.drop 1) 26 W5 (some ⟨g2, 4, none⟩) (c2 - 1) hr6 (by decide)
  refine hpc.mono ?_
  clear hpc hr6
  obtain ⟨R3, hR3⟩ : ∃ R, ans (aliveToks.drop 1) 26 = R := ⟨_, rfl⟩
  have hRa := alive_c
  rw [hR3] at hRa ⊢
  clear hR3
  simp only [Prod.mk.injEq] at hRa
  obtain ⟨hc0, hat0⟩ := hRa
  rintro e w7 ⟨nd3, fu3, ne3, kvs3, hk3, rfl, hg7⟩
  have h7 := hg7 _ _ _ (Hs.start W5)
  obtain ⟨an3, cn3, rfl, _, _⟩ := h7.form 0 rfl
  obtain ⟨af3, cf3, rfl, _, _⟩ := h7.form 1 rfl
  obtain ⟨ae3, ce3, rfl, _, _⟩ := h7.form 2 rfl
  rw [hc0, hat0]
  have hA7 := (hg7.fr').alloc (.cells #[.slice an3 R3.nodes.length cn3, .slice af3 R3.funcs.length cf3] 35)
  have HF7 := Lib.hid (HF6.out.trans hA7)
  have Hd36 := Lib.hid (fr_cell hA7 He36.out)
  have Hd63 := Lib.hid (fr_cell hA7 He63.out)
  have Hd68 := Lib.hid (fr_cell hA7 He68.out)
  have Hn0 := Lib.hid (fr_cell hA7 Hm0.out)
  have Ha0 := Lib.hid (fr_cell hA7 Hb0.out)
  clear hA7 h7 hg7 hk3 hc0 hat0 He36 He63 He68 Hm0 Hb0
  go_wp2_with fail
  generalize w7.heap.size = B3
  generalize World.alloc w7 _ = W7 at HF7 Hd36 Hd63 Hd68 Hn0 Ha0 ⊢
  refine (num_c _ _).mono ?_
  rintro e w' ⟨rfl, rfl⟩
  have n0 := Hn0.out
  have a0 := Ha0.out
  go_wp2_with fail
  refine (num_c _ _).mono ?_
  rintro e w' ⟨rfl, rfl⟩
  go_wp2_with fail
  refine (num_c _ _).mono ?_
  rintro e w' ⟨rfl, rfl⟩
  have d36 := Hd36.out
  have d63 := Hd63.out
  have d68 := Hd68.out
  simp only [Nat.reduceMul, Nat.reduceAdd] at d36 d63 d68
  go_wp2_with fail
  go_ret
  exact ⟨rfl, fr_kp HF7.out⟩
end Go.Proofs.Ythodjlhjfaccpaa

set_option linter.unusedVariables false
namespace Go.Proofs.Ythodjlhjfaccpaa
open Go Go.RowKit Mem Pm

set_option maxRecDepth 100000 in
set_option maxHeartbeats 4000000 in
theorem parseTokens_c (l : List Tok) (en : Int) (a : Option Addr) (cap : Nat) (w : World) (h : RdS w (.slice a l.length cap) l.length (toksC l)) (hl : l.length ≤ 9223372036854775807) (hnm : ∀ t ∈ l, t.name.size ≤ 9223372036854775807) :
    Calls Try.prog 3 #[.slice a l.length cap, .int .i64 en] w fun e w' => e = .returned (.bool true) ∧ Kp (fun k => k < w.heap.size) w w' := by
  have H := Lib.hid h
  have Hnm := Lib.hid hnm
  clear h hnm
  by_cases hm : 65000 < l.length
  · have hmi : (65000 : Int) < (l.length : Int) := by omega
    go_enter Try.func3, Try.ntmps3
    go_wp2_with fail
    go_ret
    exact ⟨rfl, Kp.refl _ _⟩
  · have hmi : ¬ (65000 : Int) < (l.length : Int) := by omega
    go_enter Try.func3, Try.ntmps3
    go_wp2_with fail
    refine (alive_c0 w).mono ?_
    rintro e w1 ⟨rfl, hk1⟩
    have hf1 : Fr w w1 := ⟨hk1.os, hk1.tape, hk1.output, hk1.size, fun k hk _ => hk1.block k hk⟩
    have HF1 := Lib.hid hf1
    clear hk1 hf1
    go_wp2_with fail
    refine (parses_c l en a cap w1 (H.out.fr HF1.out) (by omega) Hnm.out).mono ?_
    rintro e w2 ⟨rfl, hk2⟩
    have HK2 := Lib.hid hk2
    clear hk2
    go_wp2_with fail
    go_ret
    exact ⟨rfl, (fr_kp HF1.out).trans (HK2.out.mono fun k hk => Nat.lt_of_lt_of_le hk HF1.out.size)⟩
end Go.Proofs.Ythodjlhjfaccpaa

set_option linter.unusedVariables false
namespace Go.Proofs.Ythodjlhjfaccpaa
open Go Go.RowKit Mem Pm Go.ChangeShapes Go.WideShapes Go.Deep

section
variable {H : Type} {enc : TypeId × Value → H} {P : Program} {w : World} {base : Nat} {spare : Nat → Bool} {held : Bool}
/-- A slice of structs of one-cell fields: each field's cell and reading. -/
theorem open_slice_flds {t e : TypeId} {fs : Array Field} {fuel : Nat} {cs : List Value} {x : DataW H × List MemPlace} (ht : P.underlying t = some (.slice e)) (he : P.underlying e = some (.struct fs))
    (hone : oneCellFields P fs = true) (hC : P.cellsOf e = fs.size) (h : DataW.trod enc P w base spare held fuel t cs = some x) :
    cs = [.slice none 0 0] ∨
    ∃ (a : Addr) (len cap : Nat), cs = [.slice (some a) len cap] ∧ len ≤ cap ∧ cap ≤ maxLen ∧
      ∀ i, i < len → ∀ (j : Nat) (f : Field), fs[j]? = some f → ∃ (n : Nat) (v : Value) (y : DataW H × List MemPlace), w.cell? (a.add (i * fs.size + j)) = some v ∧ DataW.trod enc P w base spare held n f.type [v] = some y := by
  rcases open_slice ht h with h0 | ⟨a, len, cap, m, n, D, Pl, hcs, hb, hl, hm, hmm, hx, hi⟩
  · exact .inl h0.1
  · refine .inr ⟨a, len, cap, hcs, hl, hm, fun i hil j f hj => ?_⟩
    have him : i < m := by rw [hmm]; split <;> omega
    obtain ⟨cs', hc, ht'⟩ := hi i him
    rw [hC] at hc
    obtain ⟨ys, n', hn', hy, hlen, hyl, hf⟩ := DataW.trod_struct he ht'
    obtain ⟨_, hcl, hat⟩ := World.cells?_some hc
    obtain ⟨ho, hk⟩ := hone_of hone j f hj
    have hjl : j < fs.size := (Array.getElem?_eq_some_iff.1 hj).1
    have hcell := hat j hjl
    have hv : cs'[j]? = some (cs'[j]'(by omega)) := List.getElem?_eq_getElem (by omega)
    have h1 := hf j f hj
    rw [ho, hk] at h1
    have hone' : (cs'.drop j).take 1 = [cs'[j]'(by omega)] := by
      rw [List.drop_eq_getElem_cons (by omega)]
      rfl
    rw [hone'] at h1
    have hys : ys[j]? = some (ys[j]'(by omega)) := List.getElem?_eq_getElem (by omega)
    refine ⟨_, _, _, ?_, h1.trans hys⟩
    rw [← Go.Deep.add_add, hcell, hv]

theorem toks_open {fuel : Nat} {a : Option Addr} {len cap : Nat} {x : DataW H × List MemPlace} (h : DataW.trod enc Try.prog w base spare held fuel 22 [.slice a len cap] = some x) :
    ∃ l : List Tok, l.length = len ∧ len ≤ maxLen ∧ RdS w (.slice a len cap) len (toksC l) ∧ ∀ t ∈ l, t.name.size ≤ maxLen := by
  rcases open_slice_flds Try.underlying22 Try.underlying48 (by kernel_rfl) (by kernel_rfl) h with h0 | ⟨a', len', cap', hcs, hl, hm, hi⟩
  · injection h0 with h0
    injection h0 with h1 h2 h3
    subst h1 h2 h3
    exact ⟨[], rfl, Nat.zero_le _, ⟨_, _, rfl, Nat.le_refl _, fun h => absurd rfl h⟩, fun t ht => by cases ht⟩
  · injection hcs with hcs
    injection hcs with h1 h2 h3
    subst h1 h2 h3
    have hall : ∀ n, n ≤ len → ∃ l : List Tok, l.length = n ∧ (∀ j u, (toksC l)[j]? = some u → w.cell? (a'.add j) = some u) ∧ ∀ t ∈ l, t.name.size ≤ maxLen := by
      intro n
      induction n with
      | zero => exact fun _ => ⟨[], rfl, (fun j u hu => by simp [toksC] at hu), (fun t ht => by cases ht)⟩
      | succ n ih =>
        intro hn
        obtain ⟨l, hll, hlc, hln⟩ := ih (by omega)
        obtain ⟨n0, v0, y0, c0, t0⟩ := hi n (by omega) 0 _ rfl
        obtain ⟨n1, v1, y1, c1, t1⟩ := hi n (by omega) 1 _ rfl
        obtain ⟨n2, v2, y2, c2, t2⟩ := hi n (by omega) 2 _ rfl
        obtain ⟨n3, v3, y3, c3, t3⟩ := hi n (by omega) 3 _ rfl
        obtain ⟨k0, e0, _, _⟩ := DataW.trod_int Try.underlying3 t0
        obtain ⟨k1, e1, _, _⟩ := DataW.trod_int Try.underlying3 t1
        obtain ⟨k2, e2, _, _⟩ := DataW.trod_int Try.underlying3 t2
        obtain ⟨s3, e3, _, hs3⟩ := DataW.trod_string Try.underlying9 t3
        injection e0 with e0
        injection e1 with e1
        injection e2 with e2
        injection e3 with e3
        subst e0 e1 e2 e3
        refine ⟨l ++ [⟨k0, k1, k2, s3⟩], by rw [List.length_append, hll]; rfl, fun j u hu => ?_, fun t ht => ?_⟩
        · have hsp : toksC (l ++ [⟨k0, k1, k2, s3⟩]) = toksC l ++ tokC ⟨k0, k1, k2, s3⟩ := by unfold toksC; rw [List.flatMap_append]; simp
          rw [hsp] at hu
          rcases Nat.lt_or_ge j (toksC l).length with hj | hj
          · rw [List.getElem?_append_left hj] at hu; exact hlc j u hu
          · rw [List.getElem?_append_right hj] at hu
            rw [toksC_len, hll] at hj hu
            have hj4 : j - n * 4 < 4 := (List.getElem?_eq_some_iff.1 hu).1
            have hcase : j = n * 4 + 0 ∨ j = n * 4 + 1 ∨ j = n * 4 + 2 ∨ j = n * 4 + 3 := by omega
            rcases hcase with rfl | rfl | rfl | rfl
            · rw [show n * 4 + 0 - n * 4 = 0 by omega] at hu; injection hu with hu; subst hu; exact c0
            · rw [show n * 4 + 1 - n * 4 = 1 by omega] at hu; injection hu with hu; subst hu; exact c1
            · rw [show n * 4 + 2 - n * 4 = 2 by omega] at hu; injection hu with hu; subst hu; exact c2
            · rw [show n * 4 + 3 - n * 4 = 3 by omega] at hu; injection hu with hu; subst hu; exact c3
        · rcases List.mem_append.1 ht with ht | ht
          · exact hln t ht
          · rw [List.mem_singleton] at ht; subst ht; exact hs3
    obtain ⟨l, hll, hlc, hln⟩ := hall len (Nat.le_refl _)
    refine ⟨l, hll, by omega, ⟨_, _, rfl, hl, fun hne => ?_⟩, hln⟩
    obtain ⟨b, off, spot⟩ := a'
    have hpos : ∃ u, (toksC l)[0]? = some u := by
      cases hx : toksC l with
      | nil => exact absurd hx hne
      | cons u r => exact ⟨u, rfl⟩
    obtain ⟨u0, hu0⟩ := hpos
    have hspot : spot = none := by simpa [Addr.add] using World.cell?_spot (hlc 0 u0 hu0)
    subst hspot
    exact ⟨b, off, rfl, fun j u hu => by rw [← Addr.add_lit]; exact hlc j u hu⟩
end
end Go.Proofs.Ythodjlhjfaccpaa
