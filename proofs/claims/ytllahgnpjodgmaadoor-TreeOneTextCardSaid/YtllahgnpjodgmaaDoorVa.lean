/- An argument that is a tree, opened: its nodes, kids, functions, and how long they are.
quernlaw3.fits, num.
quernlaw3.sample.
quernlaw3.alive.
quernlaw3.copied.
quernlaw3.slot, turn. -/
import Derived.Test.YtllahgnpjodgmaaDoorBa
import Derived.Deep.Slices
import Derived.Deep.Fields
import Derived.ChangeSame
import Derived.SizedLaws
import Derived.Lib.SmallJoins
import Derived.Test.YtllahgnpjodgmaaDoorT8
import Derived.Deep.DeepCutAuto
import Derived.Test.YtllahgnpjodgmaaDoorUh
import Derived.Laws.BytesArg
set_option linter.unusedVariables false
namespace Go.Proofs.YtllahgnpjodgmaaDoor
open Go Go.RowKit Mem Pm Go.ChangeShapes Go.WideShapes Go.Deep Go.Joins
section
variable {H : Type} {enc : TypeId × Value → H} {w : World} {base : Nat} {spare : Nat → Bool} {held : Bool}
theorem weights_all {P : Program} {e : TypeId} {n : Nat} {d : DataW H} : ∀ {l : List (DataW H)}, d ∈ l → n ∈ d.weights P e → n ∈ DataW.weightsAll P e l
  | x :: l, hd, hn => by
    simp only [DataW.weightsAll, List.mem_append]
    rcases List.mem_cons.1 hd with rfl | h
    · exact .inl hn
    · exact .inr (weights_all h hn)
set_option maxRecDepth 100000 in
theorem ints_open {fuel : Nat} {v : Value} {x : DataW H × List MemPlace} (h : DataW.trod enc Tryd.prog w base spare held fuel 23 [v] = some x) (hw : ∀ n ∈ x.1.weights Tryd.prog 23, n ≤ reachBytes) :
    ∃ l : List Int, l.length ≤ 140737488355328 ∧ RdS w v l.length (ints l) := by
  rcases open_slice Tryd.underlying23 h with ⟨hcs, _⟩ | ⟨a, len, cap, m, n, D, Pl, hcs, hb, hl, hm, hmm, hx, hi⟩
  · injection hcs with hcs
    subst hcs
    exact ⟨[], Nat.zero_le _, ⟨_, _, rfl, Nat.le_refl _, fun h => absurd rfl h⟩⟩
  · injection hcs with hcs
    subst hcs
    have hall : ∀ n, n ≤ len → ∃ l : List Int, l.length = n ∧ ∀ j u, (ints l)[j]? = some u → w.cell? (a.add j) = some u := by
      intro n
      induction n with
      | zero => exact fun _ => ⟨[], rfl, fun j u hu => by simp [ints] at hu⟩
      | succ n ih =>
        intro hn
        obtain ⟨l, hll, hlc⟩ := ih (by omega)
        obtain ⟨cs', hc, ht'⟩ := hi n (by rw [hmm]; split <;> omega)
        obtain ⟨k, hk, _, _⟩ := DataW.trod_int Tryd.underlying3 ht'
        subst hk
        obtain ⟨_, hcl, hat⟩ := World.cells?_some hc
        have h1 : Tryd.prog.cellsOf 3 = 1 := by kernel_rfl
        have hc0 := hat 0 (by rw [h1]; exact Nat.zero_lt_one)
        refine ⟨l ++ [k], by rw [List.length_append, hll]; rfl, fun j u hu => ?_⟩
        have hsp : ints (l ++ [k]) = ints l ++ [.int .i64 k] := by simp [ints]
        rw [hsp] at hu
        rcases Nat.lt_or_ge j (ints l).length with hj | hj
        · rw [List.getElem?_append_left hj] at hu; exact hlc j u hu
        · rw [List.getElem?_append_right hj] at hu
          have hj0 : j - (ints l).length = 0 := by have := (List.getElem?_eq_some_iff.1 hu).1; simp at this; omega
          rw [hj0] at hu
          injection hu with hu
          subst hu
          have hjn : j = n := by rw [ints_len, hll] at hj hj0; omega
          subst hjn
          rw [h1, Nat.mul_one] at hc0
          rw [show (a.add j) = (a.add j).add 0 from by unfold Addr.add; split <;> simp_all, hc0]; rfl
    obtain ⟨l, hll, hlc⟩ := hall len (Nat.le_refl _)
    have hln : len ≤ 140737488355328 := by
      have h1 := hw ((((List.range len).map D).length + ((List.range (m - len)).map fun j => D (len + j)).length) * Tryd.prog.bytesOf 3) (by rw [hx]; simp [DataW.weights, Tryd.underlying23])
      rw [List.length_map, List.length_range] at h1
      have hb8 : Tryd.prog.bytesOf 3 = 8 := by kernel_rfl
      rw [hb8] at h1
      have := reachBytes_lt
      have h47 : (2 : Nat) ^ 47 = 140737488355328 := by decide
      omega
    refine ⟨l, by omega, ⟨_, _, by rw [hll], by omega, fun hne => ?_⟩⟩
    obtain ⟨b, off, spot⟩ := a
    have hpos : ∃ u, (ints l)[0]? = some u := by
      cases hx2 : ints l with
      | nil => exact absurd hx2 hne
      | cons u r => exact ⟨u, rfl⟩
    obtain ⟨u0, hu0⟩ := hpos
    have hspot : spot = none := by simpa [Addr.add] using World.cell?_spot (hlc 0 u0 hu0)
    subst hspot
    exact ⟨b, off, rfl, fun j u hu => by rw [← Addr.add_lit]; exact hlc j u hu⟩
theorem list10 {α : Type} {l : List α} (h : l.length = 10) : ∃ c0 c1 c2 c3 c4 c5 c6 c7 c8 c9, l = [c0, c1, c2, c3, c4, c5, c6, c7, c8, c9] :=
  match l, h with
  | [c0, c1, c2, c3, c4, c5, c6, c7, c8, c9], _ => ⟨c0, c1, c2, c3, c4, c5, c6, c7, c8, c9, rfl⟩
theorem fld_of {P : Program} {fs : Array Field} (hone : oneCellFields P fs = true) {cs' : List Value} {ys : List (DataW H × List MemPlace)} {n' : Nat} (hf : ∀ (i : Nat) (f : Field), fs[i]? = some f → DataW.trod enc P w base spare held n' f.type ((cs'.drop f.offset).take (P.cellsOf f.type)) = ys[i]?)
    {j : Nat} {f : Field} {v : Value} {y : DataW H × List MemPlace} (hj : fs[j]? = some f) (hv : cs'[j]? = some v) (hy : ys[j]? = some y) : DataW.trod enc P w base spare held n' f.type [v] = some y := by
  obtain ⟨ho, hk⟩ := hone_of hone j f hj
  have h1 := hf j f hj
  rw [ho, hk, hy] at h1
  have hl := (List.getElem?_eq_some_iff.1 hv)
  have h2 : (cs'.drop j).take 1 = [v] := by rw [List.drop_eq_getElem_cons hl.1, hl.2]; rfl
  rw [h2] at h1
  exact h1
theorem ndsC_len (l : List (Nd × Value)) : (ndsC l).length = l.length * 10 := by
  induction l with
  | nil => rfl
  | cons x l ih => show (ndC x.1 x.2 ++ ndsC l).length = _; rw [List.length_append, ih, List.length_cons]; show 10 + _ = _; omega
set_option maxRecDepth 100000 in
set_option maxHeartbeats 4000000 in
theorem nodes_open {fuel : Nat} {v : Value} {x : DataW H × List MemPlace} (h : DataW.trod enc Tryd.prog w base spare held fuel 22 [v] = some x) (hw : ∀ n ∈ x.1.weights Tryd.prog 22, n ≤ reachBytes) :
    ∃ (l : List Nd) (kvs : List Value), kvs.length = l.length ∧ l.length ≤ 140737488355328 ∧ RdS w v l.length (ndsC (l.zip kvs)) ∧ (∀ q ∈ l.zip kvs, RdS w q.2 q.1.kids.length (ints q.1.kids)) ∧
      ∀ n ∈ l, n.kids.length ≤ 140737488355328 ∧ n.name.size ≤ 140737488355328 ∧ n.value ≤ 9223372036854775807 := by
  have h47 : (2 : Nat) ^ 47 = 140737488355328 := by decide
  have hrb := reachBytes_lt
  rcases open_slice Tryd.underlying22 h with ⟨hcs, _⟩ | ⟨a, len, cap, m, n, D, Pl, hcs, hb, hl, hm, hmm, hx, hi⟩
  · injection hcs with hcs
    subst hcs
    exact ⟨[], [], rfl, Nat.zero_le _, ⟨_, _, rfl, Nat.le_refl _, fun h => absurd rfl h⟩, (fun q hq => by cases hq), (fun n hn => by cases hn)⟩
  · injection hcs with hcs
    subst hcs
    have hC : Tryd.prog.cellsOf 45 = 10 := by kernel_rfl
    have hDw : ∀ i, i < len → ∀ n ∈ (D i).weights Tryd.prog 45, n ≤ reachBytes := by
      intro i hi n hn
      refine hw n ?_
      rw [hx]
      simp only [DataW.weights, Tryd.underlying22, List.mem_cons, List.mem_append]
      exact .inr (.inl (weights_all (List.mem_map.2 ⟨i, List.mem_range.2 hi, rfl⟩) hn))
    have hall : ∀ n, n ≤ len → ∃ (l : List Nd) (kvs : List Value), l.length = n ∧ kvs.length = n ∧ (∀ j u, (ndsC (l.zip kvs))[j]? = some u → w.cell? (a.add j) = some u) ∧ (∀ q ∈ l.zip kvs, RdS w q.2 q.1.kids.length (ints q.1.kids)) ∧
        ∀ n ∈ l, n.kids.length ≤ 140737488355328 ∧ n.name.size ≤ 140737488355328 ∧ n.value ≤ 9223372036854775807 := by
      intro n
      induction n with
      | zero => exact fun _ => ⟨[], [], rfl, rfl, (fun j u hu => by simp [ndsC] at hu), (fun q hq => by cases hq), (fun n hn => by cases hn)⟩
      | succ n ih =>
        intro hn
        obtain ⟨l, kvs, hll, hkl, hlc, hlk, hln⟩ := ih (by omega)
        obtain ⟨cs', hc, ht'⟩ := hi n (by rw [hmm]; split <;> omega)
        rw [hC] at hc
        obtain ⟨ys, n', hn', hy, hlen, hyl, hf⟩ := DataW.trod_struct Tryd.underlying45 ht'
        obtain ⟨_, hcl, hat⟩ := World.cells?_some hc
        have hys : ys.length = 10 := hyl
        have hDn : D n = .agg (ys.map (·.1)) := congrArg Prod.fst hy
        have hdw := hDw n (by omega)
        rw [hDn] at hdw
        obtain ⟨c0, c1, c2, c3, c4, c5, c6, c7, c8, c9, rfl⟩ := list10 hcl
        obtain ⟨y0, y1, y2, y3, y4, y5, y6, y7, y8, y9, rfl⟩ := list10 hys
        obtain ⟨k0, e0, _, w0⟩ := DataW.trod_int Tryd.underlying3 (fld_of (by kernel_rfl) hf (j := 0) rfl rfl rfl)
        obtain ⟨k1, e1, _, w1⟩ := DataW.trod_int Tryd.underlying3 (fld_of (by kernel_rfl) hf (j := 1) rfl rfl rfl)
        obtain ⟨k2, e2, _, w2⟩ := DataW.trod_int Tryd.underlying3 (fld_of (by kernel_rfl) hf (j := 2) rfl rfl rfl)
        obtain ⟨k3, e3, _, w3⟩ := DataW.trod_int Tryd.underlying3 (fld_of (by kernel_rfl) hf (j := 3) rfl rfl rfl)
        obtain ⟨k4, e4, _, w4⟩ := DataW.trod_int Tryd.underlying3 (fld_of (by kernel_rfl) hf (j := 4) rfl rfl rfl)
        obtain ⟨k5, e5, _, w5⟩ := DataW.trod_int Tryd.underlying3 (fld_of (by kernel_rfl) hf (j := 5) rfl rfl rfl)
        obtain ⟨k6, e6, _, w6⟩ := DataW.trod_int Tryd.underlying3 (fld_of (by kernel_rfl) hf (j := 6) rfl rfl rfl)
        obtain ⟨k7, e7, _, w7⟩ := DataW.trod_int Tryd.underlying3 (fld_of (by kernel_rfl) hf (j := 7) rfl rfl rfl)
        obtain ⟨s8, e8, d8, _⟩ := DataW.trod_string Tryd.underlying9 (fld_of (by kernel_rfl) hf (j := 8) rfl rfl rfl)
        have e0' : c0 = .int .i64 k0 := (List.cons.inj e0).1
        subst e0'
        have e1' : c1 = .int .i64 k1 := (List.cons.inj e1).1
        subst e1'
        have e2' : c2 = .int .i64 k2 := (List.cons.inj e2).1
        subst e2'
        have e3' : c3 = .int .i64 k3 := (List.cons.inj e3).1
        subst e3'
        have e4' : c4 = .int .i64 k4 := (List.cons.inj e4).1
        subst e4'
        have e5' : c5 = .int .i64 k5 := (List.cons.inj e5).1
        subst e5'
        have e6' : c6 = .int .i64 k6 := (List.cons.inj e6).1
        subst e6'
        have e7' : c7 = .int .i64 k7 := (List.cons.inj e7).1
        subst e7'
        have e8' : c8 = .string s8 := (List.cons.inj e8).1
        subst e8'
        have hagg : ∀ n ∈ DataW.weightsEach Tryd.prog (([3, 3, 3, 3, 3, 3, 3, 3, 9, 23] : List TypeId)) [y0.1, y1.1, y2.1, y3.1, y4.1, y5.1, y6.1, y7.1, y8.1, y9.1], n ≤ reachBytes := by
          intro n hn
          refine hdw n ?_
          simp only [DataW.weights, Tryd.underlying45]
          exact hn
        obtain ⟨ks, hkl9, hkr⟩ := ints_open (fld_of (by kernel_rfl) hf (j := 9) rfl rfl rfl) (fun n hn => hagg n (DataW.weights_mem_each (j := 9) rfl rfl n hn))
        have hs8 : s8.size ≤ 140737488355328 := by
          have h1 := hagg s8.data.toList.length (DataW.weights_mem_each (j := 8) (d := y8.1) rfl rfl _ (by rw [d8]; simp [DataW.weights]))
          rw [Array.length_toList] at h1
          have h2 : s8.size = s8.data.size := rfl
          omega
        have hv7 : k7 ≤ 9223372036854775807 := by
          have h1 := w7
          unfold Lit.wf at h1
          simp only [Bool.and_eq_true, decide_eq_true_eq] at h1
          exact h1.2
        refine ⟨l ++ [⟨k0, k1, k2, k3, k4, k5, k6, k7, s8, ks⟩], kvs ++ [c9], by rw [List.length_append, hll]; rfl, by rw [List.length_append, hkl]; rfl, ?_, ?_, ?_⟩
        · intro j u hu
          have hsp : ndsC ((l ++ [(⟨k0, k1, k2, k3, k4, k5, k6, k7, s8, ks⟩ : Nd)]).zip (kvs ++ [c9])) = ndsC (l.zip kvs) ++ [.int .i64 k0, .int .i64 k1, .int .i64 k2, .int .i64 k3, .int .i64 k4, .int .i64 k5, .int .i64 k6, .int .i64 k7, .string s8, c9] := by
            rw [List.zip_append (by rw [hll, hkl])]; unfold ndsC; rw [List.flatMap_append]; simp [ndC]
          rw [hsp] at hu
          have hnl : (ndsC (l.zip kvs)).length = n * 10 := by rw [ndsC_len, List.length_zip, hll, hkl, Nat.min_self]
          rcases Nat.lt_or_ge j (ndsC (l.zip kvs)).length with hj | hj
          · rw [List.getElem?_append_left hj] at hu; exact hlc j u hu
          · rw [List.getElem?_append_right hj, hnl] at hu
            rw [hnl] at hj
            have hj10 : j - n * 10 < 10 := (List.getElem?_eq_some_iff.1 hu).1
            have hh := hat (j - n * 10) hj10
            rw [Go.Deep.add_add, show n * 10 + (j - n * 10) = j by omega] at hh
            rw [hh]; exact hu
        · intro q hq
          rw [List.zip_append (by rw [hll, hkl])] at hq
          rcases List.mem_append.1 hq with h1 | h1
          · exact hlk q h1
          · simp only [List.zip_cons_cons, List.zip_nil_left, List.mem_singleton] at h1
            subst h1; exact hkr
        · intro q hq
          rcases List.mem_append.1 hq with h1 | h1
          · exact hln q h1
          · rw [List.mem_singleton] at h1
            subst h1; exact ⟨hkl9, hs8, hv7⟩
    obtain ⟨l, kvs, hll, hkl, hlc, hlk, hln⟩ := hall len (Nat.le_refl _)
    have hl47 : len ≤ 140737488355328 := by
      have h1 := hw ((((List.range len).map D).length + ((List.range (m - len)).map fun j => D (len + j)).length) * Tryd.prog.bytesOf 45) (by rw [hx]; simp [DataW.weights, Tryd.underlying22])
      rw [List.length_map, List.length_range] at h1
      have hb8 : Tryd.prog.bytesOf 45 = 104 := by kernel_rfl
      rw [hb8] at h1
      omega
    refine ⟨l, kvs, by rw [hll, hkl], by omega, ⟨_, _, by rw [hll], by omega, fun hne => ?_⟩, hlk, hln⟩
    obtain ⟨b, off, spot⟩ := a
    have hpos : ∃ u, (ndsC (l.zip kvs))[0]? = some u := by
      cases hx2 : ndsC (l.zip kvs) with
      | nil => exact absurd hx2 hne
      | cons u r => exact ⟨u, rfl⟩
    obtain ⟨u0, hu0⟩ := hpos
    have hspot : spot = none := by simpa [Addr.add] using World.cell?_spot (hlc 0 u0 hu0)
    subst hspot
    exact ⟨b, off, rfl, fun j u hu => by rw [← Addr.add_lit]; exact hlc j u hu⟩
/-- A tree that came in. -/
structure TreeIn (w : World) (nodes : List Nd) (funcs : List Int) (nd fu : Value) : Prop where
  rd : TreeRd w nodes funcs nd fu
  nl : nodes.length ≤ 140737488355328
  fl : funcs.length ≤ 140737488355328
  each : ∀ n ∈ nodes, n.kids.length ≤ 9000000000000000000 ∧ n.name.size ≤ 9000000000000000000
  val : ∀ n ∈ nodes, n.value ≤ 9223372036854775807
set_option maxRecDepth 100000 in
theorem tree_open {r : Reach} {b0 : Nat} {v : Value} {d : DataW H} {p : List MemPlace} (hv : Value.okWide Tryd.prog w r b0 25 v) (h : DataW.Trod enc Tryd.prog w base spare held 25 v d p) (hw : ∀ n ∈ d.weights Tryd.prog 25, n ≤ reachBytes) :
    ∃ (nodes : List Nd) (funcs : List Int) (nd fu : Value), v = .agg #[nd, fu] ∧ TreeIn w nodes funcs nd fu := by
  obtain ⟨v0, v1, y0, y1, n, rfl, rfl, _, h0, h1⟩ := open_agg2 Tryd.underlying25 (by kernel_rfl) (by kernel_rfl) hv h
  have hagg : ∀ n ∈ DataW.weightsEach Tryd.prog (([22, 23] : List TypeId)) [y0.1, y1.1], n ≤ reachBytes := by
    intro n hn
    refine hw n ?_
    simp only [DataW.weights, Tryd.underlying25]
    exact hn
  obtain ⟨l, kvs, g1, g2, g3, g4, g5⟩ := nodes_open h0 (fun n hn => hagg n (DataW.weights_mem_each (j := 0) rfl rfl n hn))
  obtain ⟨f, f1, f2⟩ := ints_open h1 (fun n hn => hagg n (DataW.weights_mem_each (j := 1) rfl rfl n hn))
  exact ⟨l, f, v0, v1, rfl, ⟨⟨⟨kvs, g1, g3, g4⟩, f2⟩, g2, f1, fun n hn => ⟨by have := (g5 n hn).1; omega, by have := (g5 n hn).2.1; omega⟩, fun n hn => (g5 n hn).2.2⟩⟩
end
end Go.Proofs.YtllahgnpjodgmaaDoor

set_option linter.unusedVariables false
namespace Go.Proofs.YtllahgnpjodgmaaDoor
open Go Go.RowKit Mem Pm
/-- Nodes, kids, names. -/
def bulk (l : List Nd) : Nat := (l.map fun n => n.kids.length + n.name.size / 64).sum
def deepN (l : List Nd) : Nat := (l.filter fun n => n.kind == 3).length
def FitsP (nodes : List Nd) (funcs : List Int) : Prop := nodes.length + funcs.length + bulk nodes ≤ 120000 ∧ deepN nodes * (nodes.length + funcs.length + bulk nodes) ≤ 16777216
theorem bulk_take {l : List Nd} {i : Nat} {n : Nd} (h : l[i]? = some n) : bulk (l.take (i + 1)) = bulk (l.take i) + (n.kids.length + n.name.size / 64) := by
  rw [List.take_add_one, h]; unfold bulk; simp
theorem deep_take {l : List Nd} {i : Nat} {n : Nd} (h : l[i]? = some n) : deepN (l.take (i + 1)) = deepN (l.take i) + if n.kind = 3 then 1 else 0 := by
  rw [List.take_add_one, h]; unfold deepN
  rw [List.filter_append, List.length_append]
  congr 1
  by_cases hk : n.kind = 3
  · simp [hk]
  · simp [hk]
theorem deep_le (l : List Nd) : deepN l ≤ l.length := List.length_filter_le _ _
set_option maxRecDepth 100000 in
set_option maxHeartbeats 16000000 in
theorem fits_c (nodes : List Nd) (funcs : List Int) (nd fu : Value) (w : World) (h : TreeRd w nodes funcs nd fu) (hn : nodes.length ≤ 140737488355328) (hf : funcs.length ≤ 140737488355328) (he : ∀ n ∈ nodes, n.kids.length ≤ 9000000000000000000 ∧ n.name.size ≤ 9000000000000000000) :
    Calls Tryd.prog 11 #[.agg #[nd, fu]] w fun e w' => ∃ b : Bool, e = .returned (.bool b) ∧ Fr w w' ∧ (b = true → FitsP nodes funcs) := by
  obtain ⟨an, cn, rfl, hcn⟩ : ∃ an cn, nd = .slice an nodes.length cn ∧ nodes.length ≤ cn := by obtain ⟨_, _, ⟨a, c, h1, h2, _⟩, _⟩ := h.nds; exact ⟨a, c, h1, h2⟩
  obtain ⟨af, cf, rfl, hcf⟩ : ∃ af cf, fu = .slice af funcs.length cf ∧ funcs.length ≤ cf := by obtain ⟨a, c, h1, h2, _⟩ := h.funcs; exact ⟨a, c, h1, h2⟩
  have HT := Lib.hid h
  have HE := Lib.hid he
  have H1 := Lib.hid ((Hs.start w).alloc [.slice an nodes.length cn, .slice af funcs.length cf] 25)
  have hni : (nodes.length : Int) ≤ 140737488355328 := by omega
  have hfi : (funcs.length : Int) ≤ 140737488355328 := by omega
  clear h he
  go_enter Tryd.func11, Tryd.ntmps11
  go_wp2_with fail
  obtain ⟨W0, hW0⟩ : ∃ W0, W0 = w.alloc (.cells #[.slice an nodes.length cn, .slice af funcs.length cf] 25) := ⟨_, rfl⟩
  rw [← hW0]
  obtain ⟨bt, hbt⟩ : ∃ bt, bt = w.heap.size := ⟨_, rfl⟩
  rw [← hbt]
  have H2 : Hid (Hs (fun k => k < w.heap.size) w W0 [.blk bt 25 [.slice an nodes.length cn, .slice af funcs.length cf]]) := Lib.hid (by rw [hbt, hW0]; exact H1.out)
  clear H1 hW0 hbt
  go_loopg [3, 4, 5] nodes.length (fun m v3 v4 v5 wr => ∃ i N D : Nat, i + m = nodes.length ∧ v5 = .int .i64 (i : Int) ∧ v3 = .int .i64 (N : Int) ∧ v4 = .int .i64 (D : Int) ∧ N = nodes.length + funcs.length + bulk (nodes.take i) ∧ D = deepN (nodes.take i) ∧
    Hs (fun k => k < w.heap.size) w wr [.blk bt 25 [.slice an nodes.length cn, .slice af funcs.length cf]])
  case atStart => exact ⟨0, nodes.length + funcs.length, 0, by omega, rfl, by go_num, rfl, by unfold bulk; simp, rfl, H2.out⟩
  case round =>
  obtain ⟨i, N, D, hi, rfl, rfl, rfl, hN, hD, hh⟩ := hrel
  have b0 := hh.cell 0 rfl 0 rfl
  have b1 := hh.cell 0 rfl 1 rfl
  have Hh := Lib.hid hh
  have HFr := Lib.hid (fr_of_kp hh.kp)
  have HN := Lib.hid hN
  have HD := Lib.hid hD
  have hDi : D ≤ i := by rw [hD]; have := deep_le (nodes.take i); rw [List.length_take] at this; omega
  clear hh hN hD H2
  by_cases hlt : i < nodes.length
  case pos =>
    have q0 : decide ((i : Int) < (nodes.length : Int)) = true := decide_eq_true (by omega)
    have hki : (i : Int) < (nodes.length : Int) := by omega
    have hk0 : (0 : Int) ≤ (i : Int) := by omega
    by_cases hNm : N ≤ 120000
    · have q1 : decide ((N : Int) ≤ 120000) = true := decide_eq_true (by omega)
      have hNi : (N : Int) ≤ 120000 := by omega
      obtain ⟨g, off, ak, ck, rfl, _, x0, _, _, _, _, _, _, _, x8, x9⟩ := node_at HT.out hlt
      replace x0 := fr_cell HFr.out x0
      replace x8 := fr_cell HFr.out x8
      replace x9 := fr_cell HFr.out x9
      have hx : nodes[i]? = some nodes[i] := List.getElem?_eq_getElem hlt
      have hbt := bulk_take hx
      have hdt := deep_take hx
      obtain ⟨he1, he2⟩ := HE.out _ (List.getElem_mem hlt)
      have HBt := Lib.hid hbt
      have HDt := Lib.hid hdt
      clear hx hbt hdt
      generalize nodes[i] = M at x0 x8 x9 he1 he2 HBt HDt
      have he3 : (M.kids.length : Int) ≤ 9000000000000000000 := by omega
      have he4 : (M.name.size : Int) ≤ 9000000000000000000 := by omega
      have hDi2 : (D : Int) ≤ 140737488355328 := by omega
      go_upto_region 6 with fail
      refine Reg.wp_region_text (by kernel_rfl) (by kernel_rfl) ?_
      go_wp2_with fail
      refine ⟨by kernel_rfl, ?_⟩
      cases e3 : (M.kind == 3) with
      | true =>
        have hk3 : M.kind = 3 := beq_iff_eq.1 e3
        have HK3 := Lib.hid hk3
        clear hk3
        go_wp2_with fail
        go_roundg (gk - 1)
        case measure => omega
        case rel =>
          refine ⟨i + 1, N + (M.kids.length + M.name.size / 64), D + 1, by omega, by go_num, ?_, by go_num, ?_, ?_, Hh.out.drew⟩
          · exact congrArg _ (by omega)
          · rw [HBt.out, HN.out]; omega
          · rw [HDt.out, if_pos HK3.out, HD.out]
      | false =>
        have hk3 : ¬ M.kind = 3 := beq_eq_false_iff_ne.1 e3
        have HK3 := Lib.hid hk3
        clear hk3
        go_wp2_with fail
        go_roundg (gk - 1)
        case measure => omega
        case rel =>
          refine ⟨i + 1, N + (M.kids.length + M.name.size / 64), D, by omega, by go_num, ?_, rfl, ?_, ?_, Hh.out.drew⟩
          · exact congrArg _ (by omega)
          · rw [HBt.out, HN.out]; omega
          · rw [HDt.out, if_neg HK3.out, HD.out]; rfl
    · have q1 : decide ((N : Int) ≤ 120000) = false := decide_eq_false (by omega)
      go_wp2_with fail
      go_ret
      exact ⟨false, rfl, HFr.out, fun h => by cases h⟩
  case neg =>
    have q0 : decide ((i : Int) < (nodes.length : Int)) = false := decide_eq_false (by omega)
    have htk : nodes.take i = nodes := List.take_of_length_le (by omega)
    by_cases hNm : N ≤ 120000
    · have q1 : decide ((N : Int) ≤ 120000) = true := decide_eq_true (by omega)
      have hm : D * N ≤ 120000 * 120000 := Nat.mul_le_mul (by have := HN.out; omega) hNm
      obtain ⟨X, hX⟩ : ∃ X : Nat, X = D * N := ⟨_, rfl⟩
      have hXi : (D : Int) * (N : Int) = (X : Int) := by rw [hX]; exact (Int.natCast_mul D N).symm
      rw [← hX] at hm
      have hXb : (X : Int) ≤ 14400000000 := by omega
      have hX0 : (0 : Int) ≤ (X : Int) := by omega
      have HX := Lib.hid hX
      have HTk := Lib.hid htk
      clear hX htk
      cases q2 : decide ((X : Int) ≤ 16777216) with
      | true =>
        have hq : X ≤ 16777216 := by have := of_decide_eq_true q2; omega
        have HQ := Lib.hid hq
        clear hq
        go_wp2_with fail
        go_ret
        refine ⟨true, rfl, HFr.out, fun _ => ?_⟩
        have e1 := HN.out
        have e2 := HD.out
        rw [HTk.out] at e1 e2
        have e3 := HX.out
        have e4 := HQ.out
        rw [e2, e1] at e3
        exact ⟨by rw [← e1]; exact hNm, by rw [← e3]; exact e4⟩
      | false =>
        go_wp2_with fail
        go_ret
        exact ⟨false, rfl, HFr.out, fun h => by cases h⟩
    · have q1 : decide ((N : Int) ≤ 120000) = false := decide_eq_false (by omega)
      go_wp2_with fail
      go_ret
      exact ⟨false, rfl, HFr.out, fun h => by cases h⟩
set_option maxRecDepth 100000 in
set_option maxHeartbeats 2000000 in
theorem num_c (k : Int) (w : World) : Calls Tryd.prog 18 #[.int .i64 k] w fun e w' => e = .returned (.int .i64 k) ∧ w = w' := by
  go_enter Tryd.func18, Tryd.ntmps18
  go_wp2_with fail
  go_ret
  exact ⟨rfl, rfl⟩
end Go.Proofs.YtllahgnpjodgmaaDoor

set_option linter.unusedVariables false
namespace Go.Proofs.YtllahgnpjodgmaaDoor
open Go Go.RowKit Mem Pm
def sampleN : List Nd := [⟨20, 0, 0, 0, 0, 0, 0, 1, ⟨#[]⟩, []⟩, ⟨20, 0, 0, 0, 0, 0, 0, 2, ⟨#[]⟩, []⟩, ⟨31, 0, 0, 0, 0, 0, 2, 0, ⟨#[]⟩, [0, 1]⟩, ⟨5, 0, 0, 0, 0, 0, 0, 0, ⟨#[120]⟩, [2]⟩, ⟨3, 0, 0, 0, 0, 0, 0, 0, ⟨#[]⟩, [3]⟩, ⟨1, 0, 0, 0, 0, 0, 0, 0, ⟨#[109, 97, 105, 110]⟩, [4]⟩]
def sampleM : List Nd := [⟨20, 0, 0, 0, 0, 0, 1, 1, ⟨#[]⟩, []⟩, ⟨20, 0, 0, 0, 0, 0, 0, 2, ⟨#[]⟩, []⟩, ⟨31, 0, 0, 0, 0, 0, 2, 0, ⟨#[]⟩, [0, 1]⟩, ⟨5, 0, 0, 0, 0, 0, 0, 0, ⟨#[120]⟩, [2]⟩, ⟨3, 0, 0, 0, 0, 0, 0, 0, ⟨#[]⟩, [3]⟩, ⟨1, 0, 0, 0, 0, 0, 0, 0, ⟨#[109, 97, 105, 110]⟩, [4]⟩]
def sampleS : List UInt8 := [102, 117, 110, 99, 32, 109, 97, 105, 110, 40, 41, 32, 123, 10, 9, 120, 32, 61, 32, 49, 32, 45, 32, 50, 59, 10, 125, 10]
theorem sample_check : Tm.check sampleN [5] = true := by kernel_rfl
theorem sample_not : Tm.check sampleM [5] = false := by kernel_rfl
theorem sample_print : Tm.print sampleN [5] = sampleS := by kernel_rfl
def sl (g n : Nat) : Value := .slice (some ⟨g, 0, none⟩) n n
def sampleC (b : Nat) : List Value := ndsC (sampleN.zip [.slice none 0 0, .slice none 0 0, sl (b + 1) 2, sl (b + 2) 1, sl (b + 3) 1, sl (b + 4) 1])
theorem treeTy : ∃ x, Tryd.prog.underlying 25 = some (.struct x) := by
  have hb : (match Tryd.prog.underlying 25 with | some (.struct _) => true | _ => false) = true := by kernel_rfl
  generalize Tryd.prog.underlying 25 = o at hb
  cases o with
  | none => cases hb
  | some t => cases t <;> first | exact ⟨_, rfl⟩ | cases hb
set_option maxRecDepth 100000 in
set_option maxHeartbeats 16000000 in
theorem sample_c (w : World) : Calls Tryd.prog 25 #[] w fun e w' => ∃ b, e = .returned (.agg #[sl (b + 5) 6, sl (b + 6) 1]) ∧
    Gives w w' [.blk (b + 6) 3 [.int .i64 5], .blk (b + 5) 45 (sampleC b), .blk (b + 4) 3 [.int .i64 4], .blk (b + 3) 3 [.int .i64 3], .blk (b + 2) 3 [.int .i64 2], .blk (b + 1) 3 [.int .i64 0, .int .i64 1]] := by
  obtain ⟨b, hb⟩ : ∃ b, b = w.heap.size := ⟨_, rfl⟩
  have h := (((((((Hs.start w).alloc [sl (b + 5) 6, sl (b + 6) 1] 25).alloc [.int .i64 0, .int .i64 1] 3).alloc [.int .i64 2] 3).alloc [.int .i64 3] 3).alloc [.int .i64 4] 3).alloc (sampleC b) 45).alloc [.int .i64 5] 3
  simp only [size_alloc'] at h
  rw [← hb] at h
  have h' : Hs (fun k => k < b) w _ [.blk (b + 6) 3 [.int .i64 5], .blk (b + 5) 45 (sampleC b), .blk (b + 4) 3 [.int .i64 4], .blk (b + 3) 3 [.int .i64 3], .blk (b + 2) 3 [.int .i64 2], .blk (b + 1) 3 [.int .i64 0, .int .i64 1], .blk b 25 [sl (b + 5) 6, sl (b + 6) 1]] := h
  rw [hb] at h'
  obtain ⟨x, hu⟩ := treeTy
  clear h
  have H := Lib.hid h'
  have HU := Lib.hid hu
  clear h' hu hb
  go_enter Tryd.func25, Tryd.ntmps25
  go_wp2_with fail
  refine bodyPost_ret (results_cell_row (p := 0) (ty := 25) rfl _ _ w.heap.size 25 #[sl (w.heap.size + 5) 6, sl (w.heap.size + 6) 1] (0, 0) _ rfl ((H.out.get (i := 6) rfl).1) HU.out rfl (by kernel_rfl)) rfl ⟨w.heap.size, rfl, gives_of ?_⟩
  exact H.out.sub (List.sublist_append_left [_, _, _, _, _, _] [_])
end Go.Proofs.YtllahgnpjodgmaaDoor

set_option linter.unusedVariables false
namespace Go.Proofs.YtllahgnpjodgmaaDoor
open Go Go.RowKit Mem Pm
theorem rdS_blk {A : Nat → Prop} {w0 w : World} {rs : List Res} (h : Hs A w0 w rs) (i : Nat) {g n : Nat} {t : TypeId} {cs : List Value} (hi : rs[i]? = some (.blk g t cs)) : RdS w (sl g n) n cs :=
  ⟨_, _, rfl, Nat.le_refl _, fun _ => ⟨g, 0, rfl, fun j u hu => by rw [Nat.zero_add]; exact h.cell i hi j hu⟩⟩
def sampleRes (b : Nat) (cs : List Value) : List Res := [.blk (b + 6) 3 [.int .i64 5], .blk (b + 5) 45 cs, .blk (b + 4) 3 [.int .i64 4], .blk (b + 3) 3 [.int .i64 3], .blk (b + 2) 3 [.int .i64 2], .blk (b + 1) 3 [.int .i64 0, .int .i64 1]]
theorem sample_rd {A : Nat → Prop} {w0 w : World} {b : Nat} {rs : List Res} (l : List Nd) (hl : l = sampleN ∨ l = sampleM) (h : Hs A w0 w (sampleRes b (ndsC (l.zip [.slice none 0 0, .slice none 0 0, sl (b + 1) 2, sl (b + 2) 1, sl (b + 3) 1, sl (b + 4) 1])) ++ rs)) :
    TreeRd w l [5] (sl (b + 5) 6) (sl (b + 6) 1) := by
  have hn : RdS w (.slice none 0 0) 0 [] := ⟨_, _, rfl, Nat.le_refl _, fun h => absurd rfl h⟩
  rcases hl with rfl | rfl
  · refine ⟨⟨[.slice none 0 0, .slice none 0 0, sl (b + 1) 2, sl (b + 2) 1, sl (b + 3) 1, sl (b + 4) 1], rfl, rdS_blk h 1 rfl, ?_⟩, rdS_blk h 0 rfl⟩
    intro x hx
    simp only [sampleN, List.zip_cons_cons, List.zip_nil_left, List.mem_cons, List.not_mem_nil, or_false] at hx
    rcases hx with rfl | rfl | rfl | rfl | rfl | rfl
    · exact hn
    · exact hn
    · exact rdS_blk h 5 rfl
    · exact rdS_blk h 4 rfl
    · exact rdS_blk h 3 rfl
    · exact rdS_blk h 2 rfl
  · refine ⟨⟨[.slice none 0 0, .slice none 0 0, sl (b + 1) 2, sl (b + 2) 1, sl (b + 3) 1, sl (b + 4) 1], rfl, rdS_blk h 1 rfl, ?_⟩, rdS_blk h 0 rfl⟩
    intro x hx
    simp only [sampleM, List.zip_cons_cons, List.zip_nil_left, List.mem_cons, List.not_mem_nil, or_false] at hx
    rcases hx with rfl | rfl | rfl | rfl | rfl | rfl
    · exact hn
    · exact hn
    · exact rdS_blk h 5 rfl
    · exact rdS_blk h 4 rfl
    · exact rdS_blk h 3 rfl
    · exact rdS_blk h 2 rfl
theorem sample_small (l : List Nd) (hl : l = sampleN ∨ l = sampleM) : Small l [5] := by
  rcases hl with rfl | rfl
  · exact ⟨by decide, by decide, by decide⟩
  · exact ⟨by decide, by decide, by decide⟩
set_option maxRecDepth 100000 in
set_option maxHeartbeats 16000000 in
theorem alive_c (w : World) (htab : Tab w) : Calls Tryd.prog 12 #[] w fun e w' => e = .returned (.bool true) ∧ Fr w w' := by
  have HTab := Lib.hid htab
  clear htab
  go_enter Tryd.func12, Tryd.ntmps12
  go_wp2_with fail
  refine (sample_c _).mono ?_
  rintro e w1 ⟨b, rfl, hg⟩
  have H1 := Lib.hid ((hg _ _ _ (Hs.start w)).alloc [sl (b + 5) 6, sl (b + 6) 1] 25)
  clear hg
  have H2 := Lib.hid (H1.out.mid (l := sampleRes b (sampleC b)) (m := []))
  have T2 := Lib.hid (sample_rd (A := fun k => k < w.heap.size) sampleN (.inl rfl) H2.out)
  have HP := Lib.hid (tab_fr HTab.out (fr_of_kp H2.out.kp))
  have b0 := H2.out.cell 6 rfl 0 rfl
  have b1 := H2.out.cell 6 rfl 1 rfl
  clear H1
  unfold sl at b0 b1 ⊢
  go_wp2_with fail
  refine (print_c sampleN [5] _ _ _ T2.out (sample_small _ (.inl rfl)) HP.out (by decide) (by decide) (fun _ => by rw [sample_print]; decide)).mono ?_
  rintro e w2 (⟨hno, _⟩ | ⟨_, v, rfl, hg⟩)
  · exact absurd hno (by rw [sample_check]; simp)
  rw [sample_print] at hg
  have H3 := Lib.hid ((hg _ _ _ H2.out).mid (l := sampleRes b (sampleC b) ++ [.blk w1.heap.size 25 [sl (b + 5) 6, sl (b + 6) 1]]) (m := []))
  have T3 := Lib.hid (sample_rd (A := fun k => k < w.heap.size) sampleN (.inl rfl) H3.out)
  clear hg HP T2 H2 b0 b1
  have b0 := H3.out.cell 6 rfl 0 rfl
  have b1 := H3.out.cell 6 rfl 1 rfl
  unfold sl at b0 b1
  go_wp2_with fail
  refine (check_c sampleN [5] _ _ _ T3.out (sample_small _ (.inl rfl))).mono ?_
  rintro e w3 ⟨rfl, hf⟩
  rw [sample_check]
  have H4 := Lib.hid (H3.out.ch0 hf)
  have H5 := Lib.hid (H4.out.set_ 1 rfl 6 (.int .i64 1))
  have T5 := Lib.hid (sample_rd (A := fun k => k < w.heap.size) (w0 := w) (w := w3.setCell ⟨b + 5, 6, none⟩ (.int .i64 1)) (rs := [.blk w1.heap.size 25 [sl (b + 5) 6, sl (b + 6) 1], .row 5 1 v sampleS.length (bytesC sampleS)]) sampleM (.inr rfl) H5.out)
  replace b0 := fr_cell hf b0
  replace b1 := fr_cell hf b1
  have c6 := H4.out.cell 1 rfl 6 (u := .int .i64 0) rfl
  have z6 := H4.out.froz 1 rfl 6
  have hne : w1.heap.size ≠ b + 5 := by have := H4.out.ne (i := 6) (j := 1) rfl rfl (by decide); intro h; exact this w1.heap.size rfl (by rw [h]; rfl)
  have hne2 : b + 5 ≠ w1.heap.size := fun h => hne h.symm
  clear hf T3 H3 H4
  have i0 : (0 : Int) < 6 := by decide
  go_wp2_with fail
  refine (check_c sampleM [5] _ _ _ T5.out (sample_small _ (.inr rfl))).mono ?_
  rintro e w4 ⟨rfl, hf⟩
  rw [sample_not]
  have H6 := Lib.hid (H5.out.ch0 hf)
  have HFr := Lib.hid (fr_of_kp H6.out.kp)
  obtain ⟨av, cv, rfl, _, hgv⟩ := H6.out.form 7 rfl
  obtain ⟨gv, rfl, _⟩ := hgv (by decide)
  have hcv : ∀ i, i < 28 → w4.cell? ⟨gv, 0 + i, none⟩ = some (.int .u8 ((sampleS.map fun c => (c.toNat : Int)).getD i 0)) := by
    intro i hi
    rw [Nat.zero_add]
    obtain ⟨g', he, hc⟩ := H6.out.rdRow 7 rfl (by decide)
    injection he with he
    injection he with he1 _
    subst he1
    refine hc i _ ?_
    have hl : i < sampleS.length := hi
    unfold bytesC
    rw [List.getElem?_map, List.getElem?_eq_getElem hl, List.getD_eq_getElem?_getD, List.getElem?_map, List.getElem?_eq_getElem hl]
    rfl
  have hcon := run_convert_bytes_arg w4 30 5 (P := Tryd.prog) (by kernel_rfl) (by kernel_rfl) gv 0 28 cv (sampleS.map fun c => (c.toNat : Int)) rfl hcv 9 (by kernel_rfl)
  have hstr : strOfNums (sampleS.map fun c => (c.toNat : Int)) = ⟨#[102, 117, 110, 99, 32, 109, 97, 105, 110, 40, 41, 32, 123, 10, 9, 120, 32, 61, 32, 49, 32, 45, 32, 50, 59, 10, 125, 10]⟩ := by kernel_rfl
  rw [hstr] at hcon
  clear hf H5 T5 H6 hcv b0 b1 hstr
  have hl28 : sampleS.length = 28 := rfl
  rw [hl28]
  have e0 : errT true = 0 := rfl
  have e3 : errT false = 30 := rfl
  rw [e0, e3]
  go_wp2_with (first | (go_at_call 18; refine (num_c _ _).mono ?_; rintro e w' ⟨rfl, rfl⟩))
  go_ret
  exact ⟨rfl, HFr.out⟩
end Go.Proofs.YtllahgnpjodgmaaDoor

set_option linter.unusedVariables false
namespace Go.Proofs.YtllahgnpjodgmaaDoor
open Go Go.RowKit Mem Pm
theorem rdS_add {w : World} {a : Option Addr} {n c : Nat} {xs : List Value} (h : RdS w (.slice a n c) n xs) (hn : xs.length = n) : 0 < n → ∃ d, a = some d ∧ ∀ j u, xs[j]? = some u → w.cell? (d.add j) = some u := by
  intro h0
  obtain ⟨a', c', he, _, hr⟩ := h
  injection he with he1 _ he2
  subst he1 he2
  obtain ⟨g, off, rfl, hc⟩ := hr (fun h => by rw [h] at hn; simp at hn; omega)
  refine ⟨_, rfl, fun j u hu => ?_⟩
  have hadd : (⟨g, off, none⟩ : Addr).add j = ⟨g, off + j, none⟩ := by unfold Addr.add; split <;> simp_all
  rw [hadd]; exact hc j u hu
theorem ints_all (l : List Int) : ((ints l).all fun u => u.oneCell') = true := by unfold ints; rw [List.all_map, List.all_eq_true]; intro x _; rfl
theorem ndsC_snoc {l : List Nd} {kvs : List Value} {n : Nd} {kv : Value} (h : kvs.length = l.length) : ndsC ((l ++ [n]).zip (kvs ++ [kv])) = ndsC (l.zip kvs) ++ ndC n kv := by
  rw [List.zip_append h.symm]
  unfold ndsC
  rw [List.flatMap_append]; simp
set_option maxRecDepth 100000 in
set_option maxHeartbeats 16000000 in
theorem copied_c (nodes : List Nd) (funcs : List Int) (nd fu : Value) (w : World) (h : TreeRd w nodes funcs nd fu) (hn : nodes.length ≤ 1000000) (hf : funcs.length ≤ 1000000) (he : ∀ n ∈ nodes, n.kids.length ≤ 1000000) :
    Calls Tryd.prog 19 #[.agg #[nd, fu]] w fun e w' => ∃ (vN vF : Value) (kvs : List Value), e = .returned (.agg #[vN, vF]) ∧ kvs.length = nodes.length ∧
      Gives w w' ([.row 45 10 vN nodes.length (ndsC (nodes.zip kvs)), .row 3 1 vF funcs.length (ints funcs)] ++ kidRows (nodes.zip kvs)) := by
  obtain ⟨i0, hi0, hz0, hz1, hz2⟩ := info_parts infoInt
  obtain ⟨i1, hi1, hy0, hy1, hy2⟩ := info_parts infoNode
  obtain ⟨an, cn, rfl, hcn⟩ : ∃ an cn, nd = .slice an nodes.length cn ∧ nodes.length ≤ cn := by obtain ⟨_, _, ⟨a, c, h1, h2, _⟩, _⟩ := h.nds; exact ⟨a, c, h1, h2⟩
  obtain ⟨af, cf, rfl, hcf⟩ : ∃ af cf, fu = .slice af funcs.length cf ∧ funcs.length ≤ cf := by obtain ⟨a, c, h1, h2, _⟩ := h.funcs; exact ⟨a, c, h1, h2⟩
  obtain ⟨x, hu⟩ := treeTy
  have HU := Lib.hid hu
  have HT := Lib.hid h
  have HE := Lib.hid he
  obtain ⟨b, hb⟩ : ∃ b, b = w.heap.size := ⟨_, rfl⟩
  have h1 := (((Hs.start w).alloc [.slice an nodes.length cn, .slice af funcs.length cf] 25).alloc [.slice none 0 0, .slice none 0 0] 25).alloc [.slice none 0 0, .slice none 0 0] 25
  simp only [size_alloc'] at h1
  have H1 := Lib.hid h1
  clear h he hu h1 hb
  go_enter Tryd.func19, Tryd.ntmps19
  go_wp2_with fail
  obtain ⟨g3, hg3⟩ : ∃ g, g = w.heap.size + 1 + 1 := ⟨_, rfl⟩
  rw [← hg3] at H1 ⊢
  obtain ⟨g2, hg2⟩ : ∃ g, g = w.heap.size + 1 := ⟨_, rfl⟩
  rw [← hg2] at H1 ⊢
  obtain ⟨g1, hg1⟩ : ∃ g, g = w.heap.size := ⟨_, rfl⟩
  have H2 : Hid (Hs (fun k => k < w.heap.size) w _ ([.blk g3 25 [.slice none 0 0, .slice none 0 0], .row 45 10 (.slice none 0 0) (0) ([]), .blk g1 25 [.slice an nodes.length cn, .slice af funcs.length cf], .blk g2 25 [.slice none 0 0, .slice none 0 0]] ++ kidRows (([] : List Nd).zip ([] : List Value)))) := Lib.hid (by
    have h := (H1.out.nil 45 10).perm ((List.Perm.swap _ _ _).trans (.cons _ (.cons _ (List.Perm.swap _ _ _))))
    rw [← hg1] at h
    rw [← hg1]
    exact h)
  rw [← hg1]
  clear H1
  go_loopg [4] nodes.length (fun m v4 wr => ∃ (i : Nat) (vN : Value) (kvs : List Value), i + m = nodes.length ∧ v4 = .int .i64 (i : Int) ∧ kvs.length = i ∧
    Hs (fun k => k < w.heap.size) w wr ([.blk g3 25 [vN, .slice none 0 0], .row 45 10 (vN) (i) (ndsC ((nodes.take i).zip kvs)), .blk g1 25 [.slice an nodes.length cn, .slice af funcs.length cf], .blk g2 25 [.slice none 0 0, .slice none 0 0]] ++ kidRows ((nodes.take i).zip kvs)))
  case atStart => exact ⟨0, _, [], by omega, rfl, rfl, by rw [← hg1] at H2 ⊢; exact H2.out⟩
  case round =>
  obtain ⟨i, vN, kvs, him, rfl, hkl, hh⟩ := hrel
  have Hh := Lib.hid hh
  have b0 := hh.cell 2 rfl 0 rfl
  have b1 := hh.cell 2 rfl 1 rfl
  have c0 := hh.cell 0 rfl 0 rfl
  have HFr := Lib.hid (fr_of_kp hh.kp)
  have HKl := Lib.hid hkl
  have n31 : g3 ≠ g1 := by have := hh.ne (i := 0) (j := 2) rfl rfl (by decide); intro h; exact this g3 rfl (by rw [h]; rfl)
  have n32 : g3 ≠ g2 := by have := hh.ne (i := 0) (j := 3) rfl rfl (by decide); intro h; exact this g3 rfl (by rw [h]; rfl)
  have n12 : g1 ≠ g2 := by have := hh.ne (i := 2) (j := 3) rfl rfl (by decide); intro h; exact this g1 rfl (by rw [h]; rfl)
  have l3 := block_lt_of_cell c0
  have l1 := block_lt_of_cell b0
  clear hh hkl H2 hg1 hg2 hg3
  by_cases hlt : i < nodes.length
  case pos =>
    have hki : (i : Int) < (nodes.length : Int) := by omega
    have hk0 : (0 : Int) ≤ (i : Int) := by omega
    obtain ⟨g, off, ak, ck, rfl, hkr, x0, x1, x2, x3, x4, x5, x6, x7, x8, x9⟩ := node_at HT.out hlt
    replace x0 := fr_cell HFr.out x0
    replace x1 := fr_cell HFr.out x1
    replace x2 := fr_cell HFr.out x2
    replace x3 := fr_cell HFr.out x3
    replace x4 := fr_cell HFr.out x4
    replace x5 := fr_cell HFr.out x5
    replace x6 := fr_cell HFr.out x6
    replace x7 := fr_cell HFr.out x7
    replace x8 := fr_cell HFr.out x8
    replace x9 := fr_cell HFr.out x9
    have hx : nodes[i]? = some nodes[i] := List.getElem?_eq_getElem hlt
    have htk : nodes.take (i + 1) = nodes.take i ++ [nodes[i]] := by rw [List.take_add_one, hx]; rfl
    have hke := HE.out _ (List.getElem_mem hlt)
    have HTk := Lib.hid htk
    have HKr := Lib.hid hkr
    clear hx htk hkr
    generalize nodes[i] = N at x0 x1 x2 x3 x4 x5 x6 x7 x8 x9 hke HTk HKr
    have Hn := Lib.hid (Hh.out.alloc (ndC N (.slice ak N.kids.length ck)) 45)
    have hk9 : N.kids.length ≤ 1000000000 := by omega
    have hr2 := HKr.out.fr (HFr.out.trans ((Ch.refl _ wr).alloc (.cells (ndC N (.slice ak N.kids.length ck)).toArray 45)))
    have HR2 := Lib.hid hr2
    clear hr2
    go_wp2_with (at_builtin; go_must (refine Hs.copy rfl _ _ 23 rfl 3 i0 _ 1 8 (by kernel_rfl) hi0 hz0 hz1 hz2 rfl (Nat.succ_pos _) (Nat.le_of_ble_eq_true rfl) ak N.kids.length ck (ints N.kids) rfl rfl (by rw [ints_len, Nat.mul_one]) (ints_all _) hk9 (rdS_add HR2.out (ints_len _)) Hn.out ?_))
    intro v5 w5 hh5
    obtain ⟨a5, c5, rfl, _, _⟩ := hh5.form 0 rfl
    have d9 := hh5.cell 1 rfl 9 rfl
    have z9 := hh5.froz 1 rfl 9
    have h6 := hh5.set_ 1 rfl 9 (.slice a5 N.kids.length c5)
    have H6 : Hid (Hs (fun k => k < w.heap.size) w (w5.setCell ⟨wr.heap.size, 9, none⟩ (.slice a5 N.kids.length c5)) (.row 3 1 (.slice a5 N.kids.length c5) N.kids.length (ints N.kids) :: .blk wr.heap.size 45 (ndC N (.slice a5 N.kids.length c5)) :: ([.blk g3 25 [vN, .slice none 0 0], .row 45 10 (vN) (i) (ndsC ((nodes.take i).zip kvs)), .blk g1 25 [.slice (some ⟨g, off, none⟩) nodes.length cn, .slice af funcs.length cf], .blk g2 25 [.slice none 0 0, .slice none 0 0]] ++ kidRows ((nodes.take i).zip kvs)))) := Lib.hid h6
    clear h6 hh5 Hn HR2 HKr x0 x1 x2 x3 x4 x5 x6 x7 x8 x9 b0 b1 c0
    go_upto_region 7 with fail
    obtain ⟨W6, hW6⟩ : ∃ W, W = w5.setCell ⟨wr.heap.size, 9, none⟩ (.slice a5 N.kids.length c5) := ⟨_, rfl⟩
    rw [← hW6] at H6 ⊢
    clear hW6 d9 z9
    have d0 := H6.out.cell 1 rfl 0 rfl
    have d1 := H6.out.cell 1 rfl 1 rfl
    have d2 := H6.out.cell 1 rfl 2 rfl
    have d3 := H6.out.cell 1 rfl 3 rfl
    have d4 := H6.out.cell 1 rfl 4 rfl
    have d5 := H6.out.cell 1 rfl 5 rfl
    have d6 := H6.out.cell 1 rfl 6 rfl
    have d7 := H6.out.cell 1 rfl 7 rfl
    have d8 := H6.out.cell 1 rfl 8 rfl
    have d9 := H6.out.cell 1 rfl 9 rfl
    have c0 := H6.out.cell 2 rfl 0 rfl
    have Hn := Lib.hid (H6.out.alloc (ndC N (.slice a5 N.kids.length c5)) 45)
    have hi9 : i ≤ 1000000000 := by omega
    go_wp2_with (at_builtin; go_must (refine Hs.push rfl _ _ 22 rfl 45 i1 _ 10 104 (by kernel_rfl) hi1 hy0 hy1 hy2 rfl (Nat.succ_pos _) (Nat.le_of_ble_eq_true rfl) 4 vN i (ndsC ((nodes.take i).zip kvs)) rfl 0 W6.heap.size (ndC N (.slice a5 N.kids.length c5)) rfl rfl rfl rfl rfl hi9 Hn.out ?_))
    intro v7 w7 hh7
    obtain ⟨a7, c7, rfl, _, _⟩ := hh7.form 4 rfl
    have e0 := hh7.cell 3 rfl 0 rfl
    have z0 := hh7.froz 3 rfl 0
    have H8 := Lib.hid (hh7.set_ 3 rfl 0 (.slice a7 (i + 1) c7))
    clear hh7 Hn H6 d0 d1 d2 d3 d4 d5 d6 d7 d8 d9 c0
    go_wp2_with fail
    go_roundg (gk - 1)
    case measure => omega
    case rel =>
      refine ⟨i + 1, .slice a7 (i + 1) c7, kvs ++ [.slice a5 N.kids.length c5], by omega, by go_num, by rw [List.length_append, HKl.out]; rfl, ?_⟩
      have hlk : kvs.length = (nodes.take i).length := by rw [List.length_take, HKl.out]; omega
      rw [HTk.out, ndsC_snoc hlk, kidRows_snoc hlk, ← List.append_assoc]
      have h1 := H8.out.tail
      have h2 : Hs (fun k => k < w.heap.size) w _ (.row 3 1 (.slice a5 N.kids.length c5) N.kids.length (ints N.kids) :: ([.blk g3 25 [.slice a7 (i + 1) c7, .slice none 0 0], .row 45 10 (.slice a7 (i + 1) c7) (i + 1) (ndsC ((nodes.take i).zip kvs) ++ ndC N (.slice a5 N.kids.length c5)), .blk g1 25 [.slice (some ⟨g, off, none⟩) nodes.length cn, .slice af funcs.length cf], .blk g2 25 [.slice none 0 0, .slice none 0 0]] ++ kidRows ((nodes.take i).zip kvs))) :=
        h1.sub ((List.sublist_cons_self _ _).cons_cons _)
      have h3 := Hs.mid (l := [.blk g3 25 [.slice a7 (i + 1) c7, .slice none 0 0], .row 45 10 (.slice a7 (i + 1) c7) (i + 1) (ndsC ((nodes.take i).zip kvs) ++ ndC N (.slice a5 N.kids.length c5)), .blk g1 25 [.slice (some ⟨g, off, none⟩) nodes.length cn, .slice af funcs.length cf], .blk g2 25 [.slice none 0 0, .slice none 0 0]] ++ kidRows ((nodes.take i).zip kvs)) (m := []) (by rw [List.append_nil]; exact h2)
      exact h3
  case neg =>
    have hki : ¬ (i : Int) < (nodes.length : Int) := by omega
    have htk : nodes.take i = nodes := List.take_of_length_le (by omega)
    have hin : i = nodes.length := by omega
    rw [htk] at Hh
    have HIn := Lib.hid hin
    have hf9 : funcs.length ≤ 1000000000 := by omega
    have HR2 := Lib.hid (HT.out.funcs.fr HFr.out)
    clear htk hin c0
    go_wp2_with (at_builtin; go_must (refine Hs.copy rfl _ _ 23 rfl 3 i0 _ 1 8 (by kernel_rfl) hi0 hz0 hz1 hz2 rfl (Nat.succ_pos _) (Nat.le_of_ble_eq_true rfl) af funcs.length cf (ints funcs) rfl rfl (by rw [ints_len, Nat.mul_one]) (ints_all _) hf9 (rdS_add HR2.out (ints_len _)) Hh.out ?_))
    intro v5 w5 hh5
    obtain ⟨a5, c5, rfl, _, _⟩ := hh5.form 0 rfl
    obtain ⟨a6, c6, rfl, _, _⟩ := hh5.form 2 rfl
    have e1 := hh5.cell 1 rfl 1 rfl
    have e0 := hh5.cell 1 rfl 0 rfl
    have z1 := hh5.froz 1 rfl 1
    have y0 := hh5.cell 4 rfl 0 rfl
    have y1 := hh5.cell 4 rfl 1 rfl
    have q0 := hh5.froz 4 rfl 0
    have q1 := hh5.froz 4 rfl 1
    have H8 := Lib.hid (((hh5.set_ 1 rfl 1 (.slice a5 funcs.length c5)).set_ 4 rfl 0 (.slice a6 i c6)).set_ 4 rfl 1 (.slice a5 funcs.length c5))
    have n23 : g2 ≠ g3 := fun h => n32 h.symm
    clear hh5 Hh HR2 b0 b1
    go_wp2_with fail
    have HB := (H8.out.get (i := 4) rfl).1
    refine bodyPost_ret (results_cell_row (p := 2) (ty := 25) rfl _ _ g2 25 #[.slice a6 i c6, .slice a5 funcs.length c5] (0, 0) _ rfl HB HU.out rfl (by kernel_rfl)) rfl ⟨.slice a6 i c6, .slice a5 funcs.length c5, kvs, rfl, by rw [HKl.out, HIn.out], gives_of ?_⟩
    have h := H8.out
    rw [← HIn.out]
    have h2 := Hs.front (l := [.row 3 1 (.slice a5 funcs.length c5) funcs.length (ints funcs), .blk g3 25 [.slice a6 i c6, .slice a5 funcs.length c5]]) h
    exact h2.sub (((List.sublist_append_right [_, _, _] (kidRows (nodes.zip kvs))).cons_cons _).cons_cons _)
end Go.Proofs.YtllahgnpjodgmaaDoor

set_option linter.unusedVariables false
namespace Go.Proofs.YtllahgnpjodgmaaDoor
open Go Go.RowKit Mem Pm
def slotF (i n : Int) : Int := if i.tmod n < 0 then i.tmod n + n else i.tmod n
theorem slotF_range (i n : Int) (hn : 0 < n) : 0 ≤ slotF i n ∧ slotF i n < n := by
  unfold slotF
  have h1 := Int.lt_tmod_of_pos i hn
  have h2 := Int.tmod_lt_of_pos i hn
  split <;> omega
set_option maxRecDepth 100000 in
set_option maxHeartbeats 2000000 in
theorem slot_c (i n : Int) (hn : 0 < n) (hn2 : n ≤ 4000000000000000000) (w : World) : Calls Tryd.prog 20 #[.int .i64 i, .int .i64 n] w fun e w' => e = .returned (.int .i64 (slotF i n)) ∧ w = w' := by
  have h1 := Int.lt_tmod_of_pos i hn
  have h2 := Int.tmod_lt_of_pos i hn
  have hS : slotF i n = if i.tmod n < 0 then i.tmod n + n else i.tmod n := rfl
  have hn0 : ¬ n = 0 := by omega
  have hn3 : (n == 0) = false := beq_eq_false_iff_ne.2 hn0
  by_cases hr : i.tmod n < 0
  · have HS := Lib.hid (show slotF i n = i.tmod n + n by rw [hS, if_pos hr])
    clear hS
    go_enter Tryd.func20, Tryd.ntmps20
    go_wp2_with fail
    go_ret
    exact ⟨by rw [HS.out]; rfl, rfl⟩
  · have HS := Lib.hid (show slotF i n = i.tmod n by rw [hS, if_neg hr])
    clear hS
    go_enter Tryd.func20, Tryd.ntmps20
    go_wp2_with fail
    go_ret
    exact ⟨by rw [HS.out]; rfl, rfl⟩
theorem set_self {α : Type} {l : List α} {i : Nat} {a : α} (h : l[i]? = some a) : l.set i a = l := by
  apply List.ext_getElem?
  intro k
  by_cases hk : i = k
  · subst hk
    rw [List.getElem?_set_self (List.getElem?_eq_some_iff.1 h).1]; exact h.symm
  · rw [List.getElem?_set_ne hk]
theorem set_mid {α : Type} (x y : α) (B : List α) : ∀ A : List α, (A ++ x :: B).set A.length y = A ++ y :: B
  | [] => rfl
  | a :: A => by show a :: (A ++ x :: B).set A.length y = _; rw [set_mid x y B A]; rfl
theorem ints_set (l : List Int) (k : Nat) (u : Int) : (ints l).set k (.int .i64 u) = ints (l.set k u) := by unfold ints; rw [List.map_set]
theorem map_step {l : List Int} {k : Nat} (f : Int → Int) (h : k < l.length) : ((l.take k).map f ++ l.drop k).set k (f l[k]) = (l.take (k + 1)).map f ++ l.drop (k + 1) := by
  have hl : ((l.take k).map f).length = k := by rw [List.length_map, List.length_take]; omega
  have hd : l.drop k = l[k] :: l.drop (k + 1) := List.drop_eq_getElem_cons h
  rw [hd]
  have := set_mid l[k] (f l[k]) (l.drop (k + 1)) ((l.take k).map f)
  rw [hl] at this
  rw [this, List.take_add_one, List.getElem?_eq_getElem h, List.map_append]
  simp
def swp (i j x : Int) : Int := if x = i then j else if x = j then i else x
set_option maxRecDepth 100000 in
set_option maxHeartbeats 8000000 in
theorem turn_c {A : Nat → Prop} {w0 : World} (w : World) (rs : List Res) (l : List Int) (v : Value) (i j : Int) (kx : Nat) (hkx : rs[kx]? = some (.row 3 1 v l.length (ints l))) (H : Hs A w0 w rs) (hl : l.length ≤ 1000000000) :
    Calls Tryd.prog 23 #[v, .int .i64 i, .int .i64 j] w fun e w' => e = .returned (.tuple #[]) ∧ Hs A w0 w' (rs.set kx (.row 3 1 v l.length (ints (l.map (swp i j))))) := by
  obtain ⟨a, c, rfl, hc, hg⟩ := H.form kx hkx
  have hrs : rs.set kx (.row 3 1 (.slice a l.length c) l.length (ints ((l.take 0).map (swp i j) ++ l.drop 0))) = rs := by
    rw [List.take_zero, List.map_nil, List.nil_append, List.drop_zero]
    exact set_self hkx
  have H1 : Hid (Hs A w0 w (rs.set kx (.row 3 1 (.slice a l.length c) l.length (ints ((l.take 0).map (swp i j) ++ l.drop 0))))) := Lib.hid (by rw [hrs]; exact H)
  have hkl : kx < rs.length := (List.getElem?_eq_some_iff.1 hkx).1
  have HKl := Lib.hid hkl
  have hcl : (l.length : Int) ≤ (c : Int) := by omega
  clear H hrs hkl hkx
  go_enter Tryd.func23, Tryd.ntmps23
  go_wp2_with fail
  go_loopg [6] l.length (fun m v6 wr => ∃ k : Nat, k + m = l.length ∧ v6 = .int .i64 (k : Int) ∧ Hs A w0 wr (rs.set kx (.row 3 1 (.slice a l.length c) l.length (ints ((l.take k).map (swp i j) ++ l.drop k)))))
  case atStart => exact ⟨0, by omega, rfl, H1.out⟩
  case round =>
  obtain ⟨k, hk, rfl, hh⟩ := hrel
  have Hh := Lib.hid hh
  have hget : (rs.set kx (.row 3 1 (.slice a l.length c) l.length (ints ((l.take k).map (swp i j) ++ l.drop k))))[kx]? = some (.row 3 1 (.slice a l.length c) l.length (ints ((l.take k).map (swp i j) ++ l.drop k))) := List.getElem?_set_self HKl.out
  clear H1
  by_cases hlt : k < l.length
  case neg =>
    have hki : ¬ (k : Int) < (l.length : Int) := by omega
    have he : (l.take k).map (swp i j) ++ l.drop k = l.map (swp i j) := by rw [List.take_of_length_le (by omega), List.drop_eq_nil_of_le (by omega), List.append_nil]
    have HE := Lib.hid he
    clear he hget hh
    go_wp2_with fail
    go_end0
    refine ⟨rfl, ?_⟩
    have h := Hh.out
    rw [HE.out] at h
    exact h
  case pos =>
    have hki : (k : Int) < (l.length : Int) := by omega
    have hk0 : (0 : Int) ≤ (k : Int) := by omega
    have hx : ((l.take k).map (swp i j) ++ l.drop k)[k]? = some l[k] := by
      rw [List.getElem?_append_right (by rw [List.length_map, List.length_take]; omega), List.length_map, List.length_take, List.getElem?_drop]
      rw [show k + (k - min k l.length) = k by omega]
      exact List.getElem?_eq_getElem hlt
    have hix := ints_get hx
    obtain ⟨g, rfl, hcell⟩ := hh.rdRow kx hget (fun h => by rw [h] at hix; cases hix)
    have cx := hcell k _ hix
    have zx := hh.rfroz kx hget (g := g) rfl k
    have hms := map_step (swp i j) hlt
    have hset : ∀ u : Int, u = swp i j l[k] → Hs A w0 (wr.setCell ⟨g, k, none⟩ (.int .i64 u)) (rs.set kx (.row 3 1 (.slice (some ⟨g, 0, none⟩) l.length c) l.length (ints ((l.take (k + 1)).map (swp i j) ++ l.drop (k + 1))))) := by
      intro u hu
      subst hu
      have h := hh.rset kx hget (g := g) rfl k (.int .i64 (swp i j l[k]))
      rw [List.set_set, ints_set, hms] at h
      exact h
    have hsame : l[k] = swp i j l[k] → (l.take k).map (swp i j) ++ l.drop k = (l.take (k + 1)).map (swp i j) ++ l.drop (k + 1) := by
      intro h0
      rw [← hms, ← h0]
      exact (set_self hx).symm
    have HSet := Lib.hid hset
    have HSame := Lib.hid hsame
    clear hms hset hsame hget hh hix hcell hx
    generalize l[k] = x at cx HSet HSame
    cases e1 : (x == i) with
    | true =>
      have hs1 : j = swp i j x := by unfold swp; rw [if_pos (beq_iff_eq.1 e1)]
      have H2 := Lib.hid (HSet.out j hs1)
      clear hs1
      go_wp2_with fail
      go_roundg (gk - 1)
      case measure => omega
      case rel => exact ⟨k + 1, by omega, by go_num, H2.out⟩
    | false =>
      cases e2 : (x == j) with
      | true =>
        have hs1 : i = swp i j x := by unfold swp; rw [if_neg (beq_eq_false_iff_ne.1 e1), if_pos (beq_iff_eq.1 e2)]
        have H2 := Lib.hid (HSet.out i hs1)
        clear hs1
        go_wp2_with fail
        go_roundg (gk - 1)
        case measure => omega
        case rel => exact ⟨k + 1, by omega, by go_num, H2.out⟩
      | false =>
        have hs1 : x = swp i j x := by unfold swp; rw [if_neg (beq_eq_false_iff_ne.1 e1), if_neg (beq_eq_false_iff_ne.1 e2)]
        have H2 := Lib.hid (HSame.out hs1)
        clear hs1
        go_wp2_with fail
        go_roundg (gk - 1)
        case measure => omega
        case rel => exact ⟨k + 1, by omega, by go_num, by rw [← H2.out]; exact Hh.out⟩
end Go.Proofs.YtllahgnpjodgmaaDoor
