/- A node too many, a kid too many, too few, another one: no tree: the plain law of TreeKids. No program here. -/
import Derived.Test.YtllahgnpjodgmaaDoorQ9
set_option linter.unusedVariables false
namespace Go.Proofs.YtllahgnpjodgmaaDoor
open Pm
namespace Tm
variable {nodes U : List Nd} {funcs : List Int}
/-- All kids. -/
def total (l : List Nd) : Nat := (l.map fun n => n.kids.length).sum
theorem kidSum_app : ∀ (post pre : List Nd), kidSum (kidsOf (pre ++ post)) post.length pre.length = total post
  | [], _ => rfl
  | x :: post, pre => by
    have h1 : kidsOf (pre ++ x :: post) pre.length = x.kids.map Int.toNat := by
      unfold kidsOf
      rw [List.getD_eq_getElem?_getD, List.getElem?_append_right (Nat.le_refl _), Nat.sub_self]; rfl
    have ih := kidSum_app post (pre ++ [x])
    rw [List.append_assoc, List.length_append] at ih
    show (kidsOf (pre ++ x :: post) pre.length).length + kidSum (kidsOf (pre ++ x :: post)) post.length (pre.length + 1) = total (x :: post)
    rw [h1, List.length_map]
    have ih' : kidSum (kidsOf (pre ++ x :: post)) post.length (pre.length + 1) = total post := ih
    rw [ih']
    unfold total
    rw [List.map_cons, List.sum_cons]
theorem ok_total (h : Ok nodes funcs) : total nodes + funcs.length = nodes.length := by
  have h1 := fo_sum h.fo
  rw [Nat.sub_zero, List.length_map] at h1
  have h2 := kidSum_app nodes []
  rw [List.nil_append, List.length_nil] at h2
  omega
theorem total_set {n' : Nd} : ∀ (l : List Nd) (i : Nat) (n : Nd), l[i]? = some n → total (l.set i n') + n.kids.length = total l + n'.kids.length
  | [], i, n, h => by simp at h
  | x :: l, 0, n, h => by
    injection h with h
    subst h
    show total (n' :: l) + _ = total (x :: l) + _
    unfold total
    rw [List.map_cons, List.map_cons, List.sum_cons, List.sum_cons]; omega
  | x :: l, i + 1, n, h => by
    have ih := total_set (n' := n') l i n h
    show total (x :: l.set i n') + _ = total (x :: l) + _
    unfold total at ih ⊢
    rw [List.map_cons, List.map_cons, List.sum_cons, List.sum_cons]; omega
theorem check_false_of (h : ¬ Ok U funcs) : check U funcs = false := by
  cases hc : check U funcs with
  | false => rfl
  | true => exact absurd (check_iff.1 hc) h
/-- A node too many. -/
theorem more_nodes {n : Nd} (h : check nodes funcs = true) (hk : n.kids = []) : check (nodes ++ [n]) funcs = false := by
  refine check_false_of fun h2 => ?_
  have t1 := ok_total (check_iff.1 h)
  have t2 := ok_total h2
  have t3 : total (nodes ++ [n]) = total nodes := by unfold total; rw [List.map_append, List.sum_append]; simp [hk]
  rw [t3, List.length_append] at t2
  simp at t2
  omega
/-- A kid too many, or too few. -/
theorem other_count {i : Nat} {n n' : Nd} (h : check nodes funcs = true) (hn : nodes[i]? = some n) (hk : n'.kids.length ≠ n.kids.length) : check (nodes.set i n') funcs = false := by
  refine check_false_of fun h2 => ?_
  have t1 := ok_total (check_iff.1 h)
  have t2 := ok_total h2
  have t3 := total_set (n' := n') nodes i n hn
  rw [List.length_set] at t2
  omega
theorem go_congr (hk : kindOf nodes = kindOf U) : ∀ (m i : Nat) (w : List Int), (∀ j, i ≤ j → j < i + m → nodes.getD j {} = U.getD j {}) → go nodes m i w = go U m i w
  | 0, _, _, _ => rfl
  | m + 1, i, w, h => by
    show (step nodes (nodes.getD i {}) i w).bind (go nodes m (i + 1)) = (step U (U.getD i {}) i w).bind (go U m (i + 1))
    rw [← h i (Nat.le_refl _) (by omega)]
    have hs : step nodes (nodes.getD i {}) i w = step U (nodes.getD i {}) i w := by unfold step; rw [hk]
    rw [hs]
    cases step U (nodes.getD i {}) i w with
    | none => rfl
    | some v => exact go_congr hk m (i + 1) v fun j h1 h2 => h j (by omega) (by omega)
theorem set_kind {i : Nat} {n n' : Nd} (hn : nodes[i]? = some n) (hk : n'.kind = n.kind) : kindOf (nodes.set i n') = kindOf nodes := by
  funext k
  unfold kindOf
  rw [List.getD_eq_getElem?_getD, List.getD_eq_getElem?_getD, List.getElem?_set]
  split
  · rename_i h
    rw [← h, hn]
    split
    · exact hk
    · rename_i h2; exact absurd (List.getElem?_eq_some_iff.1 hn).1 h2
  · rfl
/-- Another kid. -/
theorem other_kid {i : Nat} {n n' : Nd} (h : check nodes funcs = true) (hn : nodes[i]? = some n) (hk : n'.kids ≠ n.kids) (hl : n'.kids.length = n.kids.length) (hkind : n'.kind = n.kind) : check (nodes.set i n') funcs = false := by
  have hi := (List.getElem?_eq_some_iff.1 hn).1
  have hgo : ∀ (V : List Nd) (m : Nd), V.length = nodes.length → V.getD i {} = m → check V funcs = true → ∃ W, go V i 0 [] = some W ∧ W.drop (W.length - m.kids.length) = m.kids := by
    intro V m hV hm hc
    unfold check at hc
    rw [show V.length = i + ((V.length - i - 1) + 1) by omega, go_add] at hc
    cases hW : go V i 0 [] with
    | none => rw [hW] at hc; cases hc
    | some W =>
      rw [hW] at hc
      have hc' : (match (step V (V.getD (0 + i) {}) (0 + i) W).bind (go V (V.length - i - 1) (0 + i + 1)) with
        | none => false
        | some wait => decide (wait = funcs) && funcs.all (fun f => kindOf V f == 1)) = true := hc
      rw [Nat.zero_add, hm] at hc'
      cases hs : step V m i W with
      | none => rw [hs] at hc'; cases hc'
      | some W' => exact ⟨W, rfl, (step_some hs).2.2.1⟩
  cases hc : check (nodes.set i n') funcs with
  | false => rfl
  | true =>
    exfalso
    obtain ⟨W, g1, g2⟩ := hgo nodes n rfl (by rw [List.getD_eq_getElem?_getD, hn]; rfl) h
    obtain ⟨W', g3, g4⟩ := hgo (nodes.set i n') n' (List.length_set) (by rw [List.getD_eq_getElem?_getD, List.getElem?_set_self hi]; rfl) hc
    have g5 := go_congr (U := nodes.set i n') (set_kind hn hkind).symm i 0 [] (fun j h1 h2 => by
      rw [List.getD_eq_getElem?_getD, List.getD_eq_getElem?_getD, List.getElem?_set_ne (by omega)])
    rw [g1, g3] at g5
    injection g5 with g5
    subst g5
    rw [hl] at g4
    exact hk (g4.symm.trans g2)
end Tm
end Go.Proofs.YtllahgnpjodgmaaDoor
