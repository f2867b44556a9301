/- tree.kids: all kinds.
Both ways to look whether it is a tree tell the same: the program's list of nodes that wait for their parent, the document's walk. No program here. -/
import Derived.Test.YtllahgnpjodgmaaDoorQ6
import Derived.Test.YtllahgnpjodgmaaDoorQ7
import Derived.Test.YtllahgnpjodgmaaDoorQ8
import Derived.Test.YtllahgnpjodgmaaDoorQ2
namespace Go.Proofs.YtllahgnpjodgmaaDoor
open Go Go.RowKit Mem Pm
theorem kids_c (k : Int) (l : List Int) (v : Value) (w : World) (hr : RdS w v l.length (ints l)) (hl : l.length ≤ 9223372036854775807) :
    Calls Tryd.prog 38 #[.int .i64 k, v] w fun e w' => e = .returned (.bool (Tm.kidsOk k l)) ∧ Fr w w' := by
  by_cases h1 : k = 1
  · exact kids_1 k l v w hr hl h1
  by_cases h3 : k = 3
  · exact kids_3 k l v w hr hl h3
  by_cases h4 : k = 4 ∨ k = 12
  · exact kids_4 k l v w hr hl h4
  by_cases h5 : k = 5 ∨ k = 8 ∨ k = 9 ∨ k = 27 ∨ k = 28 ∨ k = 30
  · exact kids_5 k l v w hr hl h5
  by_cases h6 : k = 6 ∨ k = 29 ∨ k = 31
  · exact kids_6 k l v w hr hl h6
  by_cases h7 : k = 7
  · exact kids_7 k l v w hr hl h7
  by_cases h10 : k = 10
  · exact kids_10 k l v w hr hl h10
  by_cases h11 : k = 11
  · exact kids_11 k l v w hr hl h11
  by_cases h25 : k = 25
  · exact kids_25 k l v w hr hl h25
  by_cases h2 : k = 2 ∨ k = 13 ∨ k = 14 ∨ k = 20 ∨ k = 21 ∨ k = 22 ∨ k = 23 ∨ k = 24 ∨ k = 26
  · exact kids_2 k l v w hr hl h2
  exact kids_no k l v w hr hl (by omega)
end Go.Proofs.YtllahgnpjodgmaaDoor

set_option linter.unusedVariables false
namespace Go.Proofs.YtllahgnpjodgmaaDoor
open Pm
namespace Tm
variable {ks : Nat → List Nat} {nodes : List Nd} {funcs : List Int}

def IO (l : List Nat) : List Int := l.map Int.ofNat
theorem IO_toNat (l : List Nat) : (IO l).map Int.toNat = l := by unfold IO; rw [List.map_map]; conv => rhs; rw [← List.map_id l]
                                                                 exact List.map_congr_left fun x _ => rfl
theorem toNat_IO {l : List Int} (h : ∀ x ∈ l, 0 ≤ x) : IO (l.map Int.toNat) = l := by
  unfold IO; rw [List.map_map]; conv => rhs; rw [← List.map_id l]
  exact List.map_congr_left fun x hx => Int.toNat_of_nonneg (h x hx)
theorem IO_append (a b : List Nat) : IO (a ++ b) = IO a ++ IO b := List.map_append
theorem IO_len (a : List Nat) : (IO a).length = a.length := List.length_map _
theorem IO_inj {a b : List Nat} (h : IO a = IO b) : a = b := by rw [← IO_toNat a, h, IO_toNat]

theorem go_add (a b i : Nat) (w : List Int) : go nodes (a + b) i w = (go nodes a i w).bind (go nodes b (i + a)) := by
  induction a generalizing i w with
  | zero => rw [Nat.zero_add]; rfl
  | succ a ih =>
    rw [show a + 1 + b = (a + b) + 1 by omega]
    show (step nodes (nodes.getD i {}) i w).bind (go nodes (a + b) (i + 1)) = ((step nodes (nodes.getD i {}) i w).bind (go nodes a (i + 1))).bind _
    cases step nodes (nodes.getD i {}) i w with
    | none => rfl
    | some w' =>
      show go nodes (a + b) (i + 1) w' = (go nodes a (i + 1) w').bind _
      rw [ih, show i + 1 + a = i + (a + 1) by omega]
theorem step_some {n : Nd} {i : Nat} {w w' : List Int} (h : step nodes n i w = some w') : fields n = true ∧ n.kids.length ≤ w.length ∧ w.drop (w.length - n.kids.length) = n.kids ∧ kidsOk n.kind (n.kids.map (kindOf nodes)) = true ∧ w' = w.take (w.length - n.kids.length) ++ [(i : Int)] := by
  unfold step at h
  split at h
  · rename_i hc
    injection h with h
    exact ⟨hc.1, hc.2.1, hc.2.2.1, hc.2.2.2, h.symm⟩
  · cases h
theorem kidsOf_eq (k : Nat) : kidsOf nodes k = ((nodes.getD k {}).kids).map Int.toNat := rfl
/-- What the program's way finds. -/
theorem go_ok : ∀ (m i : Nat) (W : List Nat) (w' : List Int), Fo (kidsOf nodes) 0 i W → go nodes m i (IO W) = some w' →
    ∃ W', w' = IO W' ∧ Fo (kidsOf nodes) 0 (i + m) W' ∧ ∀ j, i ≤ j → j < i + m → (fields (nodes.getD j {}) = true ∧ kidsOk (nodes.getD j {}).kind ((nodes.getD j {}).kids.map (kindOf nodes)) = true) ∧ ∀ k ∈ (nodes.getD j {}).kids, 0 ≤ k ∧ k < (j : Int)
  | 0, i, W, w', hf, h => by
    injection h with h
    exact ⟨W, h.symm, hf, fun j h1 h2 => by omega⟩
  | m + 1, i, W, w', hf, h => by
    have h' : (step nodes (nodes.getD i {}) i (IO W)).bind (go nodes m (i + 1)) = some w' := h
    cases hs : step nodes (nodes.getD i {}) i (IO W) with
    | none => rw [hs] at h'; cases h'
    | some w1 =>
      rw [hs] at h'
      obtain ⟨h1, h2, h3, h4, h5⟩ := step_some hs
      generalize hN : nodes.getD i {} = N at *
      rw [IO_len] at h2 h3 h5
      have hd : IO (W.drop (W.length - N.kids.length)) = N.kids := by unfold IO at h3 ⊢; rw [List.map_drop]; exact h3
      have ht : w1 = IO (W.take (W.length - N.kids.length) ++ [i]) := by rw [h5, IO_append]; unfold IO; rw [List.map_take]; rfl
      have hk : kidsOf nodes i = W.drop (W.length - N.kids.length) := by
        have h6 := congrArg (List.map Int.toNat) hd
        rw [IO_toNat] at h6
        rw [kidsOf_eq, hN]
        exact h6.symm
      have hsp : W = W.take (W.length - N.kids.length) ++ W.drop (W.length - N.kids.length) := (List.take_append_drop _ _).symm
      rw [hsp] at hf
      obtain ⟨mid, f1, f2⟩ := hf.split
      have f3 : Fo (kidsOf nodes) 0 (i + 1) (W.take (W.length - N.kids.length) ++ [i]) := f1.append (.cons (by rw [hk]; exact f2) (.nil _))
      rw [ht] at h'
      obtain ⟨W', g1, g2, g3⟩ := go_ok m (i + 1) _ w' f3 h'
      refine ⟨W', g1, by rw [show i + (m + 1) = i + 1 + m by omega]; exact g2, fun j hj1 hj2 => ?_⟩
      rcases Nat.eq_or_lt_of_le hj1 with rfl | hj
      · rw [hN]
        refine ⟨⟨h1, h4⟩, fun k hk' => ?_⟩
        rw [← hd] at hk'
        obtain ⟨x, hx, rfl⟩ := List.mem_map.1 hk'
        have := f2.mem x hx
        exact ⟨Int.natCast_nonneg _, by show ((x : Nat) : Int) < _; omega⟩
      · exact g3 j hj (by omega)
theorem kids_IO {i : Nat} (hn : ∀ k ∈ (nodes.getD i {}).kids, 0 ≤ k) : (nodes.getD i {}).kids = IO (kidsOf nodes i) := (toNat_IO hn).symm
/-- Where the numbers are in order the program's way goes through. -/
theorem go_fo (hg : ∀ j, j < nodes.length → fields (nodes.getD j {}) = true ∧ kidsOk (nodes.getD j {}).kind ((nodes.getD j {}).kids.map (kindOf nodes)) = true) (hn : ∀ j, ∀ k ∈ (nodes.getD j {}).kids, 0 ≤ k)
    {lo hi : Nat} {rs : List Nat} (h : Fo (kidsOf nodes) lo hi rs) : hi ≤ nodes.length → ∀ V : List Int, go nodes (hi - lo) lo V = some (V ++ IO rs) := by
  induction h with
  | nil lo => intro _ V; rw [Nat.sub_self]; show some V = some (V ++ []); rw [List.append_nil]
  | @cons lo r hi rs h1 h2 ih1 ih2 =>
    intro hl V
    have l1 := h1.le
    have l2 := h2.le
    rw [show hi - lo = (r - lo) + (1 + (hi - (r + 1))) by omega, go_add, ih1 (by omega) V]
    show go nodes (1 + (hi - (r + 1))) (lo + (r - lo)) _ = _
    rw [show lo + (r - lo) = r by omega, go_add]
    have hst : step nodes (nodes.getD r {}) r (V ++ IO (kidsOf nodes r)) = some (V ++ [(r : Int)]) := by
      have hk := kids_IO (hn r)
      unfold step
      rw [hk, List.length_append, Nat.add_sub_cancel]
      rw [if_pos ⟨(hg r (by omega)).1, Nat.le_add_left _ _, by rw [List.drop_left], by rw [← hk]; exact (hg r (by omega)).2⟩, List.take_left]
    show ((step nodes (nodes.getD r {}) r (V ++ IO (kidsOf nodes r))).bind (go nodes 0 (r + 1))).bind (go nodes (hi - (r + 1)) (r + 1)) = _
    rw [hst]
    show go nodes (hi - (r + 1)) (r + 1) (V ++ [(r : Int)]) = _
    rw [ih2 hl, List.append_assoc]
    rfl
theorem getD_get {i : Nat} (h : i < nodes.length) : nodes.getD i {} = nodes[i] := by rw [List.getD_eq_getElem?_getD, List.getElem?_eq_getElem h]; rfl
theorem getD_out {i : Nat} (h : nodes.length ≤ i) : nodes.getD i {} = {} := by rw [List.getD_eq_getElem?_getD, List.getElem?_eq_none h]; rfl
theorem Ok.low' (h : Ok nodes funcs) (i : Nat) : ∀ k ∈ (nodes.getD i {}).kids, 0 ≤ k ∧ k < (i : Int) := by
  intro k hk
  rcases Nat.lt_or_ge i nodes.length with hi | hi
  · rw [getD_get hi] at hk
    exact h.low i _ (List.getElem?_eq_getElem hi) k hk
  · rw [getD_out hi] at hk; cases hk
theorem check_iff : check nodes funcs = true ↔ Ok nodes funcs := by
  constructor
  · intro h
    unfold check at h
    cases hg : go nodes nodes.length 0 [] with
    | none => rw [hg] at h; cases h
    | some w =>
      rw [hg] at h
      dsimp only at h
      rw [Bool.and_eq_true, decide_eq_true_eq] at h
      obtain ⟨W, rfl, hf, hj⟩ := go_ok nodes.length 0 [] w (.nil 0) hg
      obtain ⟨rfl, h2⟩ := h
      rw [Nat.zero_add] at hf hj
      refine ⟨fun n hn => ?_, fun i n hi k hk => ?_, by rw [IO_toNat]; exact hf, fun f hf' => ?_, h2⟩
      · obtain ⟨i, hi, rfl⟩ := List.getElem_of_mem hn
        have := (hj i (Nat.zero_le _) hi).1
        rwa [getD_get hi] at this
      · obtain ⟨hi', rfl⟩ := List.getElem?_eq_some_iff.1 hi
        have := (hj i (Nat.zero_le _) hi').2
        rw [getD_get hi'] at this
        exact this k hk
      · obtain ⟨x, _, rfl⟩ := List.mem_map.1 hf'
        exact Int.natCast_nonneg _
  · intro h
    have hg := go_fo (nodes := nodes) (fun j hj => by rw [getD_get hj]; exact h.each _ (List.getElem_mem hj)) (fun j k hk => (h.low' j k hk).1) h.fo (Nat.le_refl _) []
    rw [Nat.sub_zero, List.nil_append, toNat_IO h.nn] at hg
    unfold check
    rw [hg]
    dsimp only
    rw [h.funcs, decide_eq_true rfl]
    rfl

/-- The document's walk. -/
def wr (ks : Nat → List Nat) : Nat → Nat → List Nat
  | 0, _ => []
  | d + 1, k => (ks k).flatMap (wr ks d) ++ [k]
def wrec (ks : Nat → List Nat) (k : Nat) : List Nat := wr ks (k + 1) k
theorem wr_eq (hl : ∀ i, ∀ k ∈ ks i, k < i) : ∀ (d k d' : Nat), k < d → k < d' → wr ks d k = wr ks d' k
  | 0, k, d', h, _ => by omega
  | d + 1, k, 0, _, h => by omega
  | d + 1, k, d' + 1, h, h' => by
    unfold wr
    congr 1
    rw [List.flatMap_def, List.flatMap_def]
    congr 1
    exact List.map_congr_left fun x hx => wr_eq hl d x d' (by have := hl k x hx; omega) (by have := hl k x hx; omega)
theorem wrec_eq (hl : ∀ i, ∀ k ∈ ks i, k < i) (k : Nat) : wrec ks k = (ks k).flatMap (wrec ks) ++ [k] := by
  show (ks k).flatMap (wr ks k) ++ [k] = _
  congr 1
  rw [List.flatMap_def, List.flatMap_def]
  congr 1
  exact List.map_congr_left fun x hx => wr_eq hl k x (x + 1) (hl k x hx) (by omega)
theorem fo_wrec (hl : ∀ i, ∀ k ∈ ks i, k < i) {lo hi : Nat} {rs : List Nat} (h : Fo ks lo hi rs) : rs.flatMap (wrec ks) = List.range' lo (hi - lo) := by
  induction h with
  | nil lo => rw [Nat.sub_self]; rfl
  | @cons lo r hi rs h1 h2 ih1 ih2 =>
    have l1 := h1.le
    have l2 := h2.le
    rw [List.flatMap_cons, wrec_eq hl, ih1, ih2, show hi - lo = (r - lo) + (1 + (hi - (r + 1))) by omega, ← List.range'_append_1, show lo + (r - lo) = r by omega, ← List.range'_append_1, List.append_assoc]
    rfl
theorem Fo.one {lo hi r : Nat} (h : Fo ks lo hi [r]) : Fo ks lo r (ks r) ∧ hi = r + 1 := by
  cases h with
  | cons h1 h2 => cases h2; exact ⟨h1, rfl⟩
theorem range_split {lo len : Nat} {a b : List Nat} (h : a ++ b = List.range' lo len) : a = List.range' lo a.length ∧ b = List.range' (lo + a.length) b.length ∧ a.length + b.length = len := by
  have hlen : a.length + b.length = len := by have := congrArg List.length h; rw [List.length_append, List.length_range'] at this; exact this
  rw [← hlen, ← List.range'_append_1] at h
  obtain ⟨h1, h2⟩ := List.append_inj h (by rw [List.length_range'])
  exact ⟨h1, h2, hlen⟩
theorem wrec_fo (hl : ∀ i, ∀ k ∈ ks i, k < i) : ∀ (b : Nat) (rs : List Nat) (lo len : Nat), (∀ r ∈ rs, r < b) → rs.flatMap (wrec ks) = List.range' lo len → Fo ks lo (lo + len) rs
  | 0, [], lo, len, _, h => by
    have : len = 0 := by have := congrArg List.length h; rw [List.length_range'] at this; exact this.symm
    subst this
    exact .nil _
  | 0, r :: rs, lo, len, hb, h => by have := hb r (List.mem_cons_self ..); omega
  | b + 1, [], lo, len, _, h => by
    have : len = 0 := by have := congrArg List.length h; rw [List.length_range'] at this; exact this.symm
    subst this
    exact .nil _
  | b + 1, r :: rs, lo, len, hb, h => by
    rw [List.flatMap_cons] at h
    obtain ⟨h1, h2, h3⟩ := range_split h
    have hr := hb r (List.mem_cons_self ..)
    rw [wrec_eq hl] at h1
    obtain ⟨h4, h5, h6⟩ := range_split h1
    have hone : [r].length = 1 := rfl
    rw [hone] at h5 h6
    have hr2 : r = lo + ((ks r).flatMap (wrec ks)).length := by
      have : [r] = [lo + ((ks r).flatMap (wrec ks)).length] := h5
      injection this
    have f1 := wrec_fo hl b (ks r) lo _ (fun x hx => by have := hl r x hx; omega) h4
    have hlen : (wrec ks r).length = ((ks r).flatMap (wrec ks)).length + 1 := by rw [wrec_eq hl, List.length_append]; rfl
    have f2 := wrec_fo hl (b + 1) rs (lo + (wrec ks r).length) _ (fun x hx => hb x (List.mem_cons_of_mem _ hx)) h2
    rw [← hr2] at f1
    refine .cons f1 ?_
    rw [show r + 1 = lo + (wrec ks r).length by omega, show lo + len = lo + (wrec ks r).length + (rs.flatMap (wrec ks)).length by omega]
    exact f2
termination_by b rs => (b, rs.length)

/-- The document's way: the nodes one by one. -/
def scan (nodes : List Nd) : Nat → Nat → Nat → Bool
  | 0, _, _ => true
  | m + 1, i, total => decide (total + (nodes.getD i {}).kids.length ≤ nodes.length) && (nodes.getD i {}).kids.all (fun k => decide (0 ≤ k) && decide (k < (i : Int))) &&
      kidsOk (nodes.getD i {}).kind ((nodes.getD i {}).kids.map (kindOf nodes)) && fields (nodes.getD i {}) && scan nodes m (i + 1) (total + (nodes.getD i {}).kids.length)
/-- The functions one by one. -/
def tops (nodes : List Nd) : List Int → Nat → Option Nat
  | [], at_ => some at_
  | f :: r, at_ => if 0 ≤ f ∧ f < (nodes.length : Int) ∧ kindOf nodes f = 1 ∧ (wrec (kidsOf nodes) f.toNat).take (nodes.length + 1) = List.range' at_ ((wrec (kidsOf nodes) f.toNat).take (nodes.length + 1)).length
      then tops nodes r (at_ + ((wrec (kidsOf nodes) f.toNat).take (nodes.length + 1)).length) else none
def refCheck (nodes : List Nd) (funcs : List Int) : Bool := scan nodes nodes.length 0 0 && decide (tops nodes funcs 0 = some nodes.length)

theorem scan_ok : ∀ (m i total : Nat), scan nodes m i total = true → ∀ j, i ≤ j → j < i + m → (fields (nodes.getD j {}) = true ∧ kidsOk (nodes.getD j {}).kind ((nodes.getD j {}).kids.map (kindOf nodes)) = true) ∧ ∀ k ∈ (nodes.getD j {}).kids, 0 ≤ k ∧ k < (j : Int)
  | 0, i, total, _, j, h1, h2 => by omega
  | m + 1, i, total, h, j, h1, h2 => by
    unfold scan at h
    simp only [Bool.and_eq_true, decide_eq_true_eq, List.all_eq_true] at h
    obtain ⟨⟨⟨⟨g1, g2⟩, g3⟩, g4⟩, g5⟩ := h
    rcases Nat.eq_or_lt_of_le h1 with rfl | hj
    · exact ⟨⟨g4, g3⟩, g2⟩
    · exact scan_ok m (i + 1) _ g5 j hj (by omega)
/-- All kids of the nodes from lo to hi. -/
def kidSum (ks : Nat → List Nat) : Nat → Nat → Nat
  | 0, _ => 0
  | m + 1, i => (ks i).length + kidSum ks m (i + 1)
theorem kidSum_add (a b i : Nat) : kidSum ks (a + b) i = kidSum ks a i + kidSum ks b (i + a) := by
  induction a generalizing i with
  | zero => simp [kidSum]
  | succ a ih =>
    rw [show a + 1 + b = (a + b) + 1 by omega]
    show (ks i).length + kidSum ks (a + b) (i + 1) = (ks i).length + kidSum ks a (i + 1) + _
    rw [ih, show i + 1 + a = i + (a + 1) by omega]
    omega
theorem fo_sum {lo hi : Nat} {rs : List Nat} (h : Fo ks lo hi rs) : kidSum ks (hi - lo) lo + rs.length = hi - lo := by
  induction h with
  | nil lo => rw [Nat.sub_self]; rfl
  | @cons lo r hi rs h1 h2 ih1 ih2 =>
    have l1 := h1.le
    have l2 := h2.le
    rw [show hi - lo = (r - lo) + (1 + (hi - (r + 1))) by omega, kidSum_add, show lo + (r - lo) = r by omega, kidSum_add]
    have h3 : kidSum ks 1 r = (ks r).length := by show (ks r).length + 0 = _; omega
    rw [h3, List.length_cons]
    omega
theorem scan_of (hg : ∀ j, j < nodes.length → fields (nodes.getD j {}) = true ∧ kidsOk (nodes.getD j {}).kind ((nodes.getD j {}).kids.map (kindOf nodes)) = true) (hn : ∀ j, ∀ k ∈ (nodes.getD j {}).kids, 0 ≤ k ∧ k < (j : Int)) :
    ∀ (m i total : Nat), i + m = nodes.length → total + kidSum (kidsOf nodes) m i ≤ nodes.length → scan nodes m i total = true
  | 0, i, total, _, _ => rfl
  | m + 1, i, total, hi, ht => by
    have hk : (kidsOf nodes i).length = (nodes.getD i {}).kids.length := by rw [kidsOf_eq, List.length_map]
    have ht' : total + ((kidsOf nodes i).length + kidSum (kidsOf nodes) m (i + 1)) ≤ nodes.length := ht
    unfold scan
    simp only [Bool.and_eq_true, decide_eq_true_eq, List.all_eq_true]
    exact ⟨⟨⟨⟨by omega, hn i⟩, (hg i (by omega)).2⟩, (hg i (by omega)).1⟩, scan_of hg hn m (i + 1) _ (by omega) (by omega)⟩
theorem tops_of (hl : ∀ i, ∀ k ∈ kidsOf nodes i, k < i) : ∀ (l : List Int) (at_ : Nat), (∀ f ∈ l, 0 ≤ f) → l.all (fun f => kindOf nodes f == 1) = true → Fo (kidsOf nodes) at_ nodes.length (l.map Int.toNat) → tops nodes l at_ = some nodes.length
  | [], at_, _, _, h => by cases h; rfl
  | f :: r, at_, hp, ha, h => by
    cases h with
    | cons h1 h2 =>
      rw [List.all_cons, Bool.and_eq_true, beq_iff_eq] at ha
      have l1 := h1.le
      have l2 := h2.le
      have hw : wrec (kidsOf nodes) f.toNat = List.range' at_ (f.toNat + 1 - at_) := by
        have := fo_wrec hl (.cons h1 (.nil (f.toNat + 1)))
        simpa using this
      have hlen : (wrec (kidsOf nodes) f.toNat).length = f.toNat + 1 - at_ := by rw [hw, List.length_range']
      have htk : (wrec (kidsOf nodes) f.toNat).take (nodes.length + 1) = wrec (kidsOf nodes) f.toNat := List.take_of_length_le (by omega)
      have h0 := hp f (List.mem_cons_self ..)
      unfold tops
      rw [htk, hlen, if_pos ⟨h0, by omega, ha.1, hw⟩, show at_ + (f.toNat + 1 - at_) = f.toNat + 1 by omega]
      exact tops_of hl r (f.toNat + 1) (fun x hx => hp x (List.mem_cons_of_mem _ hx)) ha.2 h2
theorem tops_le : ∀ (l : List Int) (at_ n : Nat), tops nodes l at_ = some n → at_ ≤ n
  | [], at_, n, h => by injection h with h; omega
  | f :: r, at_, n, h => by
    unfold tops at h
    split at h
    · have := tops_le r _ n h; omega
    · cases h
theorem tops_fo (hl : ∀ i, ∀ k ∈ kidsOf nodes i, k < i) : ∀ (l : List Int) (at_ : Nat), tops nodes l at_ = some nodes.length → Fo (kidsOf nodes) at_ nodes.length (l.map Int.toNat) ∧ (∀ f ∈ l, 0 ≤ f) ∧ l.all (fun f => kindOf nodes f == 1) = true
  | [], at_, h => by injection h with h; subst h; exact ⟨.nil _, (fun _ h => by cases h), rfl⟩
  | f :: r, at_, h => by
    unfold tops at h
    split at h
    · rename_i hc
      obtain ⟨h0, h1, h2, h3⟩ := hc
      have hle := tops_le r _ _ h
      obtain ⟨g1, g2, g3⟩ := tops_fo hl r _ h
      have hlt : ((wrec (kidsOf nodes) f.toNat).take (nodes.length + 1)).length < nodes.length + 1 := by omega
      have htk : (wrec (kidsOf nodes) f.toNat).take (nodes.length + 1) = wrec (kidsOf nodes) f.toNat := by
        rw [List.length_take] at hlt
        exact List.take_of_length_le (by omega)
      rw [htk] at h3 g1
      have f1 := wrec_fo hl (f.toNat + 1) [f.toNat] at_ _ (fun x hx => by rw [List.mem_singleton] at hx; omega) (by rw [List.flatMap_cons]; simpa using h3)
      obtain ⟨f2, f3⟩ := f1.one
      rw [f3] at g1
      refine ⟨.cons f2 g1, fun x hx => ?_, by rw [List.all_cons, g3, h2]; rfl⟩
      rcases List.mem_cons.1 hx with rfl | hx
      · exact h0
      · exact g2 x hx
    · cases h
theorem refCheck_iff : refCheck nodes funcs = true ↔ Ok nodes funcs := by
  constructor
  · intro h
    unfold refCheck at h
    rw [Bool.and_eq_true, decide_eq_true_eq] at h
    have hs := scan_ok nodes.length 0 0 h.1
    rw [Nat.zero_add] at hs
    have hl : ∀ i, ∀ k ∈ kidsOf nodes i, k < i := by
      intro i k hk
      rcases Nat.lt_or_ge i nodes.length with hi | hi
      · rw [kidsOf_eq] at hk
        obtain ⟨x, hx, rfl⟩ := List.mem_map.1 hk
        have := (hs i (Nat.zero_le _) hi).2 x hx
        omega
      · rw [kidsOf_eq, getD_out hi] at hk; cases hk
    obtain ⟨f1, f2, f3⟩ := tops_fo hl funcs 0 h.2
    refine ⟨fun n hn => ?_, fun i n hi k hk => ?_, f1, f2, f3⟩
    · obtain ⟨i, hi, rfl⟩ := List.getElem_of_mem hn
      have := (hs i (Nat.zero_le _) hi).1
      rwa [getD_get hi] at this
    · obtain ⟨hi', rfl⟩ := List.getElem?_eq_some_iff.1 hi
      have := (hs i (Nat.zero_le _) hi').2
      rw [getD_get hi'] at this
      exact this k hk
  · intro h
    have hl : ∀ i, ∀ k ∈ kidsOf nodes i, k < i := by
      intro i k hk
      rw [kidsOf_eq] at hk
      obtain ⟨x, hx, rfl⟩ := List.mem_map.1 hk
      have := h.low' i x hx
      omega
    have hsum := fo_sum h.fo
    unfold refCheck
    rw [Bool.and_eq_true, decide_eq_true_eq]
    refine ⟨scan_of (fun j hj => by rw [getD_get hj]; exact h.each _ (List.getElem_mem hj)) h.low' nodes.length 0 0 (Nat.zero_add _) ?_, tops_of hl funcs 0 h.nn h.funcs h.fo⟩
    rw [Nat.sub_zero] at hsum
    omega
/-- The document's answer is the program's. -/
theorem check_same (nodes : List Nd) (funcs : List Int) : refCheck nodes funcs = check nodes funcs := by
  rw [Bool.eq_iff_iff, refCheck_iff, check_iff]
end Tm
end Go.Proofs.YtllahgnpjodgmaaDoor
