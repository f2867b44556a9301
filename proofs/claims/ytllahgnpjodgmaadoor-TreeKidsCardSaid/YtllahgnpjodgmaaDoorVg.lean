/- Two nodes exchanged, and all numbers with them: no tree: the plain law of TreeOrder. No program here. -/
import Derived.Test.YtllahgnpjodgmaaDoorTc
set_option linter.unusedVariables false
namespace Go.Proofs.YtllahgnpjodgmaaDoor
open Pm
namespace Tm
theorem fm_congr {α β : Type} {f g : α → List β} : ∀ {l : List α}, (∀ x ∈ l, f x = g x) → l.flatMap f = l.flatMap g
  | [], _ => rfl
  | x :: l, h => by
    rw [List.flatMap_cons, List.flatMap_cons, h x (List.mem_cons_self ..), fm_congr fun z hz => h z (List.mem_cons_of_mem _ hz)]
/-- Two numbers exchanged. -/
def sw (a b k : Nat) : Nat := if k = a then b else if k = b then a else k
def swI (i j x : Int) : Int := if x = i then j else if x = j then i else x
def turnK (i j : Int) (n : Nd) : Nd := { n with kids := n.kids.map (swI i j) }
theorem swI_nat (a b : Nat) {x : Int} (h : 0 ≤ x) : (swI (a : Int) (b : Int) x).toNat = sw a b x.toNat := by
  obtain ⟨n, rfl⟩ : ∃ n : Nat, x = (n : Int) := ⟨x.toNat, by omega⟩
  unfold swI sw
  rw [Int.toNat_natCast]
  by_cases h1 : n = a
  · rw [if_pos (by rw [h1]), if_pos h1, Int.toNat_natCast]
  · rw [if_neg (by omega), if_neg h1]
    by_cases h2 : n = b
    · rw [if_pos (by rw [h2]), if_pos h2, Int.toNat_natCast]
    · rw [if_neg (by omega), if_neg h2, Int.toNat_natCast]
variable {nodes : List Nd} {funcs : List Int} {a b : Nat} {x y : Nd}
theorem exch_get (hab : a ≠ b) (hx : nodes[a]? = some x) (hy : nodes[b]? = some y) (k : Nat) : (((nodes.set a y).set b x).map (turnK (a : Int) (b : Int))).getD (sw a b k) {} = turnK (a : Int) (b : Int) (nodes.getD k {}) := by
  have ha := (List.getElem?_eq_some_iff.1 hx).1
  have hb := (List.getElem?_eq_some_iff.1 hy).1
  have key : ∀ (l : List Nd) (m : Nat), (l.map (turnK (a : Int) (b : Int))).getD m {} = turnK (a : Int) (b : Int) (l.getD m {}) := by
    intro l m
    rw [List.getD_eq_getElem?_getD, List.getD_eq_getElem?_getD, List.getElem?_map]
    cases l[m]? <;> rfl
  rw [key]
  congr 1
  rw [List.getD_eq_getElem?_getD, List.getD_eq_getElem?_getD]
  congr 1
  unfold sw
  by_cases h1 : k = a
  · subst h1
    rw [if_pos rfl, List.getElem?_set_self (by rw [List.length_set]; exact hb), hx]
  · rw [if_neg h1]
    by_cases h2 : k = b
    · subst h2
      rw [if_pos rfl, List.getElem?_set_ne (Ne.symm hab), List.getElem?_set_self ha, hy]
    · rw [if_neg h2, List.getElem?_set_ne (Ne.symm h2), List.getElem?_set_ne (Ne.symm h1)]
theorem exch_kids (h : Ok nodes funcs) (hab : a ≠ b) (hx : nodes[a]? = some x) (hy : nodes[b]? = some y) (k : Nat) :
    kidsOf (((nodes.set a y).set b x).map (turnK (a : Int) (b : Int))) (sw a b k) = (kidsOf nodes k).map (sw a b) := by
  unfold kidsOf
  rw [exch_get hab hx hy]
  show ((nodes.getD k {}).kids.map (swI (a : Int) (b : Int))).map Int.toNat = _
  rw [List.map_map, List.map_map]
  exact List.map_congr_left fun z hz => swI_nat a b (h.low' k z hz).1
theorem low_nat (h : Ok nodes funcs) : ∀ i, ∀ k ∈ kidsOf nodes i, k < i := by
  intro i k hk
  rw [kidsOf_eq] at hk
  obtain ⟨z, hz, rfl⟩ := List.mem_map.1 hk
  have := h.low' i z hz
  omega
theorem order_law (nodes : List Nd) (funcs : List Int) (a b : Nat) (x y : Nd) (hc : check nodes funcs = true) (hab : a ≠ b) (hx : nodes[a]? = some x) (hy : nodes[b]? = some y) :
    check (((nodes.set a y).set b x).map (turnK (a : Int) (b : Int))) (funcs.map (swI (a : Int) (b : Int))) = false := by
  cases hu : check (((nodes.set a y).set b x).map (turnK (a : Int) (b : Int))) (funcs.map (swI (a : Int) (b : Int))) with
  | false => rfl
  | true =>
    exfalso
    have h1 := check_iff.1 hc
    have h2 := check_iff.1 hu
    have ha := (List.getElem?_eq_some_iff.1 hx).1
    have hlen : (((nodes.set a y).set b x).map (turnK (a : Int) (b : Int))).length = nodes.length := by rw [List.length_map, List.length_set, List.length_set]
    have hl1 := low_nat h1
    have hl2 := low_nat h2
    have hw : ∀ k, wrec (kidsOf (((nodes.set a y).set b x).map (turnK (a : Int) (b : Int)))) (sw a b k) = (wrec (kidsOf nodes) k).map (sw a b) := by
      intro k
      induction k using Nat.strongRecOn with
      | ind k ih =>
        rw [wrec_eq hl2, wrec_eq hl1, exch_kids h1 hab hx hy, List.map_append, List.flatMap_map]
        congr 1
        rw [List.map_flatMap]
        exact fm_congr fun z hz => ih z (hl1 k z hz)
    have f1 := fo_wrec hl1 h1.fo
    have f2 := fo_wrec hl2 h2.fo
    rw [hlen] at f2
    have hF : (funcs.map (swI (a : Int) (b : Int))).map Int.toNat = (funcs.map Int.toNat).map (sw a b) := by
      rw [List.map_map, List.map_map]
      exact List.map_congr_left fun z hz => swI_nat a b (h1.nn z hz)
    rw [hF, List.flatMap_map] at f2
    have f3 : (funcs.map Int.toNat).flatMap (fun z => wrec (kidsOf (((nodes.set a y).set b x).map (turnK (a : Int) (b : Int)))) (sw a b z)) = ((funcs.map Int.toNat).flatMap (wrec (kidsOf nodes))).map (sw a b) := by
      rw [List.map_flatMap]
      exact fm_congr fun z _ => hw z
    rw [f3, f1] at f2
    have f4 := congrArg (fun l => l[a]?) f2
    simp only [List.getElem?_map] at f4
    rw [List.getElem?_range' (by omega)] at f4
    simp only [Option.map_some, Option.some.injEq, Nat.zero_add, Nat.one_mul] at f4
    unfold sw at f4
    rw [if_pos rfl] at f4
    exact hab f4.symm
end Tm
end Go.Proofs.YtllahgnpjodgmaaDoor
