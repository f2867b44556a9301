/- Places and types change no tree and no text: the plain law of TreePlaces. No program here. -/
import Derived.Test.YtllahgnpjodgmaaDoorTc
import Derived.Test.YtllahgnpjodgmaaDoorTp
set_option linter.unusedVariables false
namespace Go.Proofs.YtllahgnpjodgmaaDoor
open Pm
namespace Tm
/-- A node without its places and its type. -/
def er (n : Nd) : Nd := { n with at_ := 0, where_ := 0, close := 0, type := 0 }
variable {nodes U : List Nd} {funcs : List Int}
theorem getD_er (k : Nat) : (nodes.map er).getD k {} = er (nodes.getD k {}) := by
  rw [List.getD_eq_getElem?_getD, List.getD_eq_getElem?_getD, List.getElem?_map]
  cases nodes[k]? <;> rfl
theorem nodeAt_er (k : Int) : nodeAt (nodes.map er) k = er (nodeAt nodes k) := getD_er _
theorem params_er : ∀ l : List Int, params (nodes.map er) l = params nodes l
  | [] => rfl
  | [k] => by
    show [Part.s (nm (nodeAt (nodes.map er) k) ++ _ ++ typeName (nodeAt (nodes.map er) k).decl)] = _
    rw [nodeAt_er]; rfl
  | k :: x :: l => by
    show Part.s (nm (nodeAt (nodes.map er) k) ++ _ ++ typeName (nodeAt (nodes.map er) k).decl) :: _ :: params (nodes.map er) (x :: l) = _
    rw [params_er (x :: l), nodeAt_er]; rfl
theorem level_er (n : Nd) : level (er n) = level n := rfl
theorem operation_er (n : Nd) : operation (nodes.map er) (er n) = operation nodes n := by
  unfold operation
  simp only [nodeAt_er, level_er]
  rfl
theorem node_er (n : Nd) (t : Nat) : node (nodes.map er) (er n) t = node nodes n t := by
  unfold node function expression
  rw [operation_er]
  show (if n.kind = 1 then Part.s _ :: (params (nodes.map er) n.kids.dropLast ++ _) else _) = _
  rw [params_er]
  rfl
theorem tx_er : ∀ (d : Nat) (k : Int) (t : Nat), tx (nodes.map er) d k t = tx nodes d k t
  | 0, _, _ => rfl
  | d + 1, k, t => by
    show (node (nodes.map er) (nodeAt (nodes.map er) k) t).flatMap (outP (tx (nodes.map er) d)) = _
    rw [nodeAt_er, node_er, show tx (nodes.map er) d = tx nodes d from funext fun k => funext fun t => tx_er d k t]
    rfl
theorem print_er : print (nodes.map er) funcs = print nodes funcs := by
  unfold print text
  rw [List.length_map, show tx (nodes.map er) (nodes.length + 1) = tx nodes (nodes.length + 1) from funext fun k => funext fun t => tx_er _ k t]
theorem places_print (h : U.map er = nodes.map er) : print U funcs = print nodes funcs := by
  rw [← print_er (nodes := U), h, print_er]
theorem er_get (h : U.map er = nodes.map er) (k : Nat) : er (U.getD k {}) = er (nodes.getD k {}) := by rw [← getD_er, h, getD_er]
theorem er_kind (h : U.map er = nodes.map er) (k : Nat) : (U.getD k {}).kind = (nodes.getD k {}).kind := by have := congrArg Nd.kind (er_get h k); exact this
theorem er_kids (h : U.map er = nodes.map er) (k : Nat) : (U.getD k {}).kids = (nodes.getD k {}).kids := by have := congrArg Nd.kids (er_get h k); exact this
theorem er_len (h : U.map er = nodes.map er) : U.length = nodes.length := by have := congrArg List.length h; simpa using this
theorem places_ok (h : U.map er = nodes.map er) (hf : ∀ n ∈ U, fields n = true) (hok : Ok nodes funcs) : Ok U funcs := by
  have hk : kindOf U = kindOf nodes := funext fun k => er_kind h _
  have hks : kidsOf U = kidsOf nodes := funext fun k => by unfold kidsOf; rw [er_kids h]
  refine ⟨fun n hn => ⟨hf n hn, ?_⟩, ?_, ?_, hok.nn, ?_⟩
  · obtain ⟨i, hi, rfl⟩ := List.getElem_of_mem hn
    have hi' : i < nodes.length := by rw [← er_len h]; exact hi
    have h1 := er_kind h i
    have h2 := er_kids h i
    rw [getD_get hi, getD_get hi'] at h1 h2
    rw [h1, h2, hk]
    exact (hok.each _ (List.getElem_mem hi')).2
  · intro i n hn
    have hi := (List.getElem?_eq_some_iff.1 hn)
    have h2 := er_kids h i
    rw [getD_get hi.1, hi.2] at h2
    rw [h2]
    exact hok.low' i
  · rw [hks, er_len h]; exact hok.fo
  · rw [hk]; exact hok.funcs
theorem places_check (h : U.map er = nodes.map er) (hf : ∀ n ∈ U, fields n = true) (hc : check nodes funcs = true) : check U funcs = true :=
  check_iff.2 (places_ok h hf (check_iff.1 hc))
theorem kids_kind {k : Int} {l : List Int} (h : kidsOk k l = true) : k ≤ 31 := by
  by_cases h1 : k ≤ 31
  · exact h1
  · exfalso
    unfold kidsOk at h
    rw [if_neg (by omega), if_neg (by omega), if_neg (by omega), if_neg (by omega), if_neg (by omega), if_neg (by omega), if_neg (by omega), if_neg (by omega), if_neg (by omega), if_neg (by omega)] at h
    cases h
/-- One place: the node as it is then. -/
def put1 (a wh cl ty : Int) (n : Nd) : Nd :=
  { n with at_ := a, where_ := if n.name.size ≠ 0 ∨ n.kind = 31 then wh else n.where_, close := if n.kind = 1 then cl else n.close, type := if 20 ≤ n.kind then ty else n.type }
theorem er_put1 (a wh cl ty : Int) (n : Nd) : er (put1 a wh cl ty n) = er n := rfl
theorem fields_put1 {a wh cl ty : Int} {n : Nd} (h : fields n = true) (hk : n.kind ≤ 31) (h0 : 0 ≤ ty) (h3 : ty ≤ 3) : fields (put1 a wh cl ty n) = true := by
  unfold fields at h ⊢
  simp only [Bool.and_eq_true] at h
  obtain ⟨⟨⟨⟨⟨⟨h1, h2⟩, h4⟩, h5⟩, h6⟩, h7⟩, h8⟩ := h
  simp only [Bool.and_eq_true]
  refine ⟨⟨⟨⟨⟨⟨?_, h2⟩, h4⟩, h5⟩, h6⟩, ?_⟩, ?_⟩
  · show ((if n.name.size ≠ 0 ∨ n.kind = 31 then wh else n.where_) == 0 || named n.kind || n.kind == 31) = true
    by_cases hc : n.name.size ≠ 0 ∨ n.kind = 31
    · rw [if_pos hc]
      rcases hc with hc | hc
      · cases hnm : named n.kind with
        | true => simp
        | false =>
          rw [hnm, if_neg (by decide)] at h2
          exfalso
          apply hc
          show n.name.data.size = 0
          rw [← Array.length_toList]
          rw [List.isEmpty_iff.1 h2]; rfl
      · simp [hc]
    · rw [if_neg hc]; exact h1
  · show ((if 20 ≤ n.kind then ty else n.type) == 0 || (isE n.kind && decide (0 < (if 20 ≤ n.kind then ty else n.type)) && decide ((if 20 ≤ n.kind then ty else n.type) ≤ 3))) = true
    by_cases hc : 20 ≤ n.kind
    · rw [if_pos hc]
      have : isE n.kind = true := by unfold isE; simp [hc, hk]
      rw [this]
      by_cases ht : ty = 0
      · simp [ht]
      · have : 0 < ty := by omega
        simp [this, h3]
    · rw [if_neg hc]; exact h7
  · show ((if n.kind = 1 then cl else n.close) == 0 || n.kind == 1) = true
    by_cases hc : n.kind = 1
    · simp [hc]
    · rw [if_neg hc]; exact h8
theorem set_er {V : List Nd} {i : Nat} {n m : Nd} (h : V[i]? = some n) (he : er m = er n) : (V.set i m).map er = V.map er := by
  rw [List.map_set, he]
  refine List.ext_getElem? fun j => ?_
  rw [List.getElem?_set]
  split
  · rename_i hij
    subst hij
    rw [List.getElem?_map, h]
    have := (List.getElem?_eq_some_iff.1 h).1
    rw [if_pos (by rw [List.length_map]; exact this)]; rfl
  · rfl
end Tm
end Go.Proofs.YtllahgnpjodgmaaDoor
