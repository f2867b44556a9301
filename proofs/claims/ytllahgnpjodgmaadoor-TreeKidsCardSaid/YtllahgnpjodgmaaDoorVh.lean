/- An argument that is a tree, opened: its nodes, kids, functions, and how long they are. -/
import Derived.Test.YtllahgnpjodgmaaDoorTe
import Derived.Deep.Slices
import Derived.Deep.Fields
import Derived.ChangeSame
import Derived.SizedLaws
import Derived.Lib.SmallJoins
set_option linter.unusedVariables false
namespace Go.Proofs.YtllahgnpjodgmaaDoor
open Go Go.RowKit Mem Pm Go.ChangeShapes Go.WideShapes Go.Deep Go.Joins
section
variable {H : Type} {enc : TypeId × Value → H} {w : World} {base : Nat} {spare : Nat → Bool} {held : Bool}
theorem weights_all {P : Program} {e : TypeId} {n : Nat} {d : DataW H} : ∀ {l : List (DataW H)}, d ∈ l → n ∈ d.weights P e → n ∈ DataW.weightsAll P e l
  | x :: l, hd, hn => by
    simp only [DataW.weightsAll, List.mem_append]
    rcases List.mem_cons.1 hd with rfl | h
    · exact .inl hn
    · exact .inr (weights_all h hn)
set_option maxRecDepth 100000 in
theorem ints_open {fuel : Nat} {v : Value} {x : DataW H × List MemPlace} (h : DataW.trod enc Tryd.prog w base spare held fuel 23 [v] = some x) (hw : ∀ n ∈ x.1.weights Tryd.prog 23, n ≤ reachBytes) :
    ∃ l : List Int, l.length ≤ 140737488355328 ∧ RdS w v l.length (ints l) := by
  rcases open_slice Tryd.underlying23 h with ⟨hcs, _⟩ | ⟨a, len, cap, m, n, D, Pl, hcs, hb, hl, hm, hmm, hx, hi⟩
  · injection hcs with hcs
    subst hcs
    exact ⟨[], Nat.zero_le _, ⟨_, _, rfl, Nat.le_refl _, fun h => absurd rfl h⟩⟩
  · injection hcs with hcs
    subst hcs
    have hall : ∀ n, n ≤ len → ∃ l : List Int, l.length = n ∧ ∀ j u, (ints l)[j]? = some u → w.cell? (a.add j) = some u := by
      intro n
      induction n with
      | zero => exact fun _ => ⟨[], rfl, fun j u hu => by simp [ints] at hu⟩
      | succ n ih =>
        intro hn
        obtain ⟨l, hll, hlc⟩ := ih (by omega)
        obtain ⟨cs', hc, ht'⟩ := hi n (by rw [hmm]; split <;> omega)
        obtain ⟨k, hk, _, _⟩ := DataW.trod_int Tryd.underlying3 ht'
        subst hk
        obtain ⟨_, hcl, hat⟩ := World.cells?_some hc
        have h1 : Tryd.prog.cellsOf 3 = 1 := by kernel_rfl
        have hc0 := hat 0 (by rw [h1]; exact Nat.zero_lt_one)
        refine ⟨l ++ [k], by rw [List.length_append, hll]; rfl, fun j u hu => ?_⟩
        have hsp : ints (l ++ [k]) = ints l ++ [.int .i64 k] := by simp [ints]
        rw [hsp] at hu
        rcases Nat.lt_or_ge j (ints l).length with hj | hj
        · rw [List.getElem?_append_left hj] at hu; exact hlc j u hu
        · rw [List.getElem?_append_right hj] at hu
          have hj0 : j - (ints l).length = 0 := by have := (List.getElem?_eq_some_iff.1 hu).1; simp at this; omega
          rw [hj0] at hu
          injection hu with hu
          subst hu
          have hjn : j = n := by rw [ints_len, hll] at hj hj0; omega
          subst hjn
          rw [h1, Nat.mul_one] at hc0
          rw [show (a.add j) = (a.add j).add 0 from by unfold Addr.add; split <;> simp_all, hc0]; rfl
    obtain ⟨l, hll, hlc⟩ := hall len (Nat.le_refl _)
    have hln : len ≤ 140737488355328 := by
      have h1 := hw ((((List.range len).map D).length + ((List.range (m - len)).map fun j => D (len + j)).length) * Tryd.prog.bytesOf 3) (by rw [hx]; simp [DataW.weights, Tryd.underlying23])
      rw [List.length_map, List.length_range] at h1
      have hb8 : Tryd.prog.bytesOf 3 = 8 := by kernel_rfl
      rw [hb8] at h1
      have := reachBytes_lt
      have h47 : (2 : Nat) ^ 47 = 140737488355328 := by decide
      omega
    refine ⟨l, by omega, ⟨_, _, by rw [hll], by omega, fun hne => ?_⟩⟩
    obtain ⟨b, off, spot⟩ := a
    have hpos : ∃ u, (ints l)[0]? = some u := by
      cases hx2 : ints l with
      | nil => exact absurd hx2 hne
      | cons u r => exact ⟨u, rfl⟩
    obtain ⟨u0, hu0⟩ := hpos
    have hspot : spot = none := by simpa [Addr.add] using World.cell?_spot (hlc 0 u0 hu0)
    subst hspot
    exact ⟨b, off, rfl, fun j u hu => by rw [← Addr.add_lit]; exact hlc j u hu⟩
theorem list10 {α : Type} {l : List α} (h : l.length = 10) : ∃ c0 c1 c2 c3 c4 c5 c6 c7 c8 c9, l = [c0, c1, c2, c3, c4, c5, c6, c7, c8, c9] :=
  match l, h with
  | [c0, c1, c2, c3, c4, c5, c6, c7, c8, c9], _ => ⟨c0, c1, c2, c3, c4, c5, c6, c7, c8, c9, rfl⟩
theorem fld_of {P : Program} {fs : Array Field} (hone : oneCellFields P fs = true) {cs' : List Value} {ys : List (DataW H × List MemPlace)} {n' : Nat} (hf : ∀ (i : Nat) (f : Field), fs[i]? = some f → DataW.trod enc P w base spare held n' f.type ((cs'.drop f.offset).take (P.cellsOf f.type)) = ys[i]?)
    {j : Nat} {f : Field} {v : Value} {y : DataW H × List MemPlace} (hj : fs[j]? = some f) (hv : cs'[j]? = some v) (hy : ys[j]? = some y) : DataW.trod enc P w base spare held n' f.type [v] = some y := by
  obtain ⟨ho, hk⟩ := hone_of hone j f hj
  have h1 := hf j f hj
  rw [ho, hk, hy] at h1
  have hl := (List.getElem?_eq_some_iff.1 hv)
  have h2 : (cs'.drop j).take 1 = [v] := by rw [List.drop_eq_getElem_cons hl.1, hl.2]; rfl
  rw [h2] at h1
  exact h1
theorem ndsC_len (l : List (Nd × Value)) : (ndsC l).length = l.length * 10 := by
  induction l with
  | nil => rfl
  | cons x l ih => show (ndC x.1 x.2 ++ ndsC l).length = _; rw [List.length_append, ih, List.length_cons]; show 10 + _ = _; omega
set_option maxRecDepth 100000 in
set_option maxHeartbeats 4000000 in
theorem nodes_open {fuel : Nat} {v : Value} {x : DataW H × List MemPlace} (h : DataW.trod enc Tryd.prog w base spare held fuel 22 [v] = some x) (hw : ∀ n ∈ x.1.weights Tryd.prog 22, n ≤ reachBytes) :
    ∃ (l : List Nd) (kvs : List Value), kvs.length = l.length ∧ l.length ≤ 140737488355328 ∧ RdS w v l.length (ndsC (l.zip kvs)) ∧ (∀ q ∈ l.zip kvs, RdS w q.2 q.1.kids.length (ints q.1.kids)) ∧
      ∀ n ∈ l, n.kids.length ≤ 140737488355328 ∧ n.name.size ≤ 140737488355328 ∧ n.value ≤ 9223372036854775807 := by
  have h47 : (2 : Nat) ^ 47 = 140737488355328 := by decide
  have hrb := reachBytes_lt
  rcases open_slice Tryd.underlying22 h with ⟨hcs, _⟩ | ⟨a, len, cap, m, n, D, Pl, hcs, hb, hl, hm, hmm, hx, hi⟩
  · injection hcs with hcs
    subst hcs
    exact ⟨[], [], rfl, Nat.zero_le _, ⟨_, _, rfl, Nat.le_refl _, fun h => absurd rfl h⟩, (fun q hq => by cases hq), (fun n hn => by cases hn)⟩
  · injection hcs with hcs
    subst hcs
    have hC : Tryd.prog.cellsOf 45 = 10 := by kernel_rfl
    have hDw : ∀ i, i < len → ∀ n ∈ (D i).weights Tryd.prog 45, n ≤ reachBytes := by
      intro i hi n hn
      refine hw n ?_
      rw [hx]
      simp only [DataW.weights, Tryd.underlying22, List.mem_cons, List.mem_append]
      exact .inr (.inl (weights_all (List.mem_map.2 ⟨i, List.mem_range.2 hi, rfl⟩) hn))
    have hall : ∀ n, n ≤ len → ∃ (l : List Nd) (kvs : List Value), l.length = n ∧ kvs.length = n ∧ (∀ j u, (ndsC (l.zip kvs))[j]? = some u → w.cell? (a.add j) = some u) ∧ (∀ q ∈ l.zip kvs, RdS w q.2 q.1.kids.length (ints q.1.kids)) ∧
        ∀ n ∈ l, n.kids.length ≤ 140737488355328 ∧ n.name.size ≤ 140737488355328 ∧ n.value ≤ 9223372036854775807 := by
      intro n
      induction n with
      | zero => exact fun _ => ⟨[], [], rfl, rfl, (fun j u hu => by simp [ndsC] at hu), (fun q hq => by cases hq), (fun n hn => by cases hn)⟩
      | succ n ih =>
        intro hn
        obtain ⟨l, kvs, hll, hkl, hlc, hlk, hln⟩ := ih (by omega)
        obtain ⟨cs', hc, ht'⟩ := hi n (by rw [hmm]; split <;> omega)
        rw [hC] at hc
        obtain ⟨ys, n', hn', hy, hlen, hyl, hf⟩ := DataW.trod_struct Tryd.underlying45 ht'
        obtain ⟨_, hcl, hat⟩ := World.cells?_some hc
        have hys : ys.length = 10 := hyl
        have hDn : D n = .agg (ys.map (·.1)) := congrArg Prod.fst hy
        have hdw := hDw n (by omega)
        rw [hDn] at hdw
        obtain ⟨c0, c1, c2, c3, c4, c5, c6, c7, c8, c9, rfl⟩ := list10 hcl
        obtain ⟨y0, y1, y2, y3, y4, y5, y6, y7, y8, y9, rfl⟩ := list10 hys
        obtain ⟨k0, e0, _, w0⟩ := DataW.trod_int Tryd.underlying3 (fld_of (by kernel_rfl) hf (j := 0) rfl rfl rfl)
        obtain ⟨k1, e1, _, w1⟩ := DataW.trod_int Tryd.underlying3 (fld_of (by kernel_rfl) hf (j := 1) rfl rfl rfl)
        obtain ⟨k2, e2, _, w2⟩ := DataW.trod_int Tryd.underlying3 (fld_of (by kernel_rfl) hf (j := 2) rfl rfl rfl)
        obtain ⟨k3, e3, _, w3⟩ := DataW.trod_int Tryd.underlying3 (fld_of (by kernel_rfl) hf (j := 3) rfl rfl rfl)
        obtain ⟨k4, e4, _, w4⟩ := DataW.trod_int Tryd.underlying3 (fld_of (by kernel_rfl) hf (j := 4) rfl rfl rfl)
        obtain ⟨k5, e5, _, w5⟩ := DataW.trod_int Tryd.underlying3 (fld_of (by kernel_rfl) hf (j := 5) rfl rfl rfl)
        obtain ⟨k6, e6, _, w6⟩ := DataW.trod_int Tryd.underlying3 (fld_of (by kernel_rfl) hf (j := 6) rfl rfl rfl)
        obtain ⟨k7, e7, _, w7⟩ := DataW.trod_int Tryd.underlying3 (fld_of (by kernel_rfl) hf (j := 7) rfl rfl rfl)
        obtain ⟨s8, e8, d8, _⟩ := DataW.trod_string Tryd.underlying9 (fld_of (by kernel_rfl) hf (j := 8) rfl rfl rfl)
        have e0' : c0 = .int .i64 k0 := (List.cons.inj e0).1
        subst e0'
        have e1' : c1 = .int .i64 k1 := (List.cons.inj e1).1
        subst e1'
        have e2' : c2 = .int .i64 k2 := (List.cons.inj e2).1
        subst e2'
        have e3' : c3 = .int .i64 k3 := (List.cons.inj e3).1
        subst e3'
        have e4' : c4 = .int .i64 k4 := (List.cons.inj e4).1
        subst e4'
        have e5' : c5 = .int .i64 k5 := (List.cons.inj e5).1
        subst e5'
        have e6' : c6 = .int .i64 k6 := (List.cons.inj e6).1
        subst e6'
        have e7' : c7 = .int .i64 k7 := (List.cons.inj e7).1
        subst e7'
        have e8' : c8 = .string s8 := (List.cons.inj e8).1
        subst e8'
        have hagg : ∀ n ∈ DataW.weightsEach Tryd.prog (([3, 3, 3, 3, 3, 3, 3, 3, 9, 23] : List TypeId)) [y0.1, y1.1, y2.1, y3.1, y4.1, y5.1, y6.1, y7.1, y8.1, y9.1], n ≤ reachBytes := by
          intro n hn
          refine hdw n ?_
          simp only [DataW.weights, Tryd.underlying45]
          exact hn
        obtain ⟨ks, hkl9, hkr⟩ := ints_open (fld_of (by kernel_rfl) hf (j := 9) rfl rfl rfl) (fun n hn => hagg n (DataW.weights_mem_each (j := 9) rfl rfl n hn))
        have hs8 : s8.size ≤ 140737488355328 := by
          have h1 := hagg s8.data.toList.length (DataW.weights_mem_each (j := 8) (d := y8.1) rfl rfl _ (by rw [d8]; simp [DataW.weights]))
          rw [Array.length_toList] at h1
          have h2 : s8.size = s8.data.size := rfl
          omega
        have hv7 : k7 ≤ 9223372036854775807 := by
          have h1 := w7
          unfold Lit.wf at h1
          simp only [Bool.and_eq_true, decide_eq_true_eq] at h1
          exact h1.2
        refine ⟨l ++ [⟨k0, k1, k2, k3, k4, k5, k6, k7, s8, ks⟩], kvs ++ [c9], by rw [List.length_append, hll]; rfl, by rw [List.length_append, hkl]; rfl, ?_, ?_, ?_⟩
        · intro j u hu
          have hsp : ndsC ((l ++ [(⟨k0, k1, k2, k3, k4, k5, k6, k7, s8, ks⟩ : Nd)]).zip (kvs ++ [c9])) = ndsC (l.zip kvs) ++ [.int .i64 k0, .int .i64 k1, .int .i64 k2, .int .i64 k3, .int .i64 k4, .int .i64 k5, .int .i64 k6, .int .i64 k7, .string s8, c9] := by
            rw [List.zip_append (by rw [hll, hkl])]; unfold ndsC; rw [List.flatMap_append]; simp [ndC]
          rw [hsp] at hu
          have hnl : (ndsC (l.zip kvs)).length = n * 10 := by rw [ndsC_len, List.length_zip, hll, hkl, Nat.min_self]
          rcases Nat.lt_or_ge j (ndsC (l.zip kvs)).length with hj | hj
          · rw [List.getElem?_append_left hj] at hu; exact hlc j u hu
          · rw [List.getElem?_append_right hj, hnl] at hu
            rw [hnl] at hj
            have hj10 : j - n * 10 < 10 := (List.getElem?_eq_some_iff.1 hu).1
            have hh := hat (j - n * 10) hj10
            rw [Go.Deep.add_add, show n * 10 + (j - n * 10) = j by omega] at hh
            rw [hh]; exact hu
        · intro q hq
          rw [List.zip_append (by rw [hll, hkl])] at hq
          rcases List.mem_append.1 hq with h1 | h1
          · exact hlk q h1
          · simp only [List.zip_cons_cons, List.zip_nil_left, List.mem_singleton] at h1
            subst h1; exact hkr
        · intro q hq
          rcases List.mem_append.1 hq with h1 | h1
          · exact hln q h1
          · rw [List.mem_singleton] at h1
            subst h1; exact ⟨hkl9, hs8, hv7⟩
    obtain ⟨l, kvs, hll, hkl, hlc, hlk, hln⟩ := hall len (Nat.le_refl _)
    have hl47 : len ≤ 140737488355328 := by
      have h1 := hw ((((List.range len).map D).length + ((List.range (m - len)).map fun j => D (len + j)).length) * Tryd.prog.bytesOf 45) (by rw [hx]; simp [DataW.weights, Tryd.underlying22])
      rw [List.length_map, List.length_range] at h1
      have hb8 : Tryd.prog.bytesOf 45 = 104 := by kernel_rfl
      rw [hb8] at h1
      omega
    refine ⟨l, kvs, by rw [hll, hkl], by omega, ⟨_, _, by rw [hll], by omega, fun hne => ?_⟩, hlk, hln⟩
    obtain ⟨b, off, spot⟩ := a
    have hpos : ∃ u, (ndsC (l.zip kvs))[0]? = some u := by
      cases hx2 : ndsC (l.zip kvs) with
      | nil => exact absurd hx2 hne
      | cons u r => exact ⟨u, rfl⟩
    obtain ⟨u0, hu0⟩ := hpos
    have hspot : spot = none := by simpa [Addr.add] using World.cell?_spot (hlc 0 u0 hu0)
    subst hspot
    exact ⟨b, off, rfl, fun j u hu => by rw [← Addr.add_lit]; exact hlc j u hu⟩
/-- A tree that came in. -/
structure TreeIn (w : World) (nodes : List Nd) (funcs : List Int) (nd fu : Value) : Prop where
  rd : TreeRd w nodes funcs nd fu
  nl : nodes.length ≤ 140737488355328
  fl : funcs.length ≤ 140737488355328
  each : ∀ n ∈ nodes, n.kids.length ≤ 9000000000000000000 ∧ n.name.size ≤ 9000000000000000000
  val : ∀ n ∈ nodes, n.value ≤ 9223372036854775807
set_option maxRecDepth 100000 in
theorem tree_open {r : Reach} {b0 : Nat} {v : Value} {d : DataW H} {p : List MemPlace} (hv : Value.okWide Tryd.prog w r b0 25 v) (h : DataW.Trod enc Tryd.prog w base spare held 25 v d p) (hw : ∀ n ∈ d.weights Tryd.prog 25, n ≤ reachBytes) :
    ∃ (nodes : List Nd) (funcs : List Int) (nd fu : Value), v = .agg #[nd, fu] ∧ TreeIn w nodes funcs nd fu := by
  obtain ⟨v0, v1, y0, y1, n, rfl, rfl, _, h0, h1⟩ := open_agg2 Tryd.underlying25 (by kernel_rfl) (by kernel_rfl) hv h
  have hagg : ∀ n ∈ DataW.weightsEach Tryd.prog (([22, 23] : List TypeId)) [y0.1, y1.1], n ≤ reachBytes := by
    intro n hn
    refine hw n ?_
    simp only [DataW.weights, Tryd.underlying25]
    exact hn
  obtain ⟨l, kvs, g1, g2, g3, g4, g5⟩ := nodes_open h0 (fun n hn => hagg n (DataW.weights_mem_each (j := 0) rfl rfl n hn))
  obtain ⟨f, f1, f2⟩ := ints_open h1 (fun n hn => hagg n (DataW.weights_mem_each (j := 1) rfl rfl n hn))
  exact ⟨l, f, v0, v1, rfl, ⟨⟨⟨kvs, g1, g3, g4⟩, f2⟩, g2, f1, fun n hn => ⟨by have := (g5 n hn).1; omega, by have := (g5 n hn).2.1; omega⟩, fun n hn => (g5 n hn).2.2⟩⟩
end
end Go.Proofs.YtllahgnpjodgmaaDoor
