/- What the printer's list comes to (chapter 3), on plain data: each job is made of jobs of nodes ahead of it; how many there are; the text does not hang on the depth. No program here.
The printer's list on plain data: how much is left, and what text. No program here. -/
import Derived.Test.YtllahgnpjodgmaaDoorQ18
import Derived.Lib.ItoaMem
set_option linter.unusedVariables false
namespace Go.Proofs.YtllahgnpjodgmaaDoor
open Pm
namespace Tm
variable {nodes : List Nd}
/-- A job of a node's. -/
def PF (nodes : List Nd) (n : Nd) (t : Nat) : Part → Prop
  | .s l => l ≠ []
  | .ln x => x ≤ t + 1
  | .k k x => k ∈ n.kids ∧ x ≤ t + 1 ∧ kindOf nodes k ≠ 2
theorem signs_ne : ∀ op : Int, 1 ≤ op → op ≤ 22 → sign op ≠ [] := by
  intro op h1 h2
  obtain ⟨j, rfl⟩ : ∃ j : Nat, op = (j : Int) := ⟨op.toNat, by omega⟩
  have h : ∀ j : Fin 23, 1 ≤ j.1 → signs.getD j.1 [] ≠ [] := by decide
  exact h ⟨j, by omega⟩ (by show 1 ≤ j; omega)
theorem itoa_ne (n : Int) : Lib.itoa n ≠ [] := by
  unfold Lib.itoa
  split
  · exact List.cons_ne_nil _ _
  · intro h
    have h1 := Lib.decDigits_length n.toNat
    rw [h, Lib.nDigits] at h1
    split at h1
    · exact absurd h1 (by decide)
    · exact absurd h1 (by simp)
theorem getD_mem {l : List Int} {i : Nat} (h : i < l.length) : l.getD i 0 ∈ l := by
  rw [List.getD_eq_getElem?_getD, List.getElem?_eq_getElem h]; exact List.getElem_mem h
theorem pf_value {n : Nd} {t : Nat} {k : Int} {b : Bool} (hk : k ∈ n.kids) (h2 : kindOf nodes k ≠ 2) : ∀ p ∈ value k b, PF nodes n t p := by
  intro p hp
  cases b
  · rcases List.mem_singleton.1 hp with rfl; exact ⟨hk, Nat.zero_le _, h2⟩
  · have hp' : p = .s [40] ∨ p = .k k 0 ∨ p = .s [41] := by simpa [value] using hp
    rcases hp' with rfl | rfl | rfl
    · exact List.cons_ne_nil _ _
    · exact ⟨hk, Nat.zero_le _, h2⟩
    · exact List.cons_ne_nil _ _
theorem mem_joined : ∀ (l : List Int) (p : Part), p ∈ joined l → (∃ k ∈ l, p = .k k 0) ∨ p = .s [44, 32]
  | [], p, h => by cases h
  | [a], p, h => .inl ⟨a, by simp, List.mem_singleton.1 h⟩
  | a :: b :: l, p, h => by
    have h' : p ∈ Part.k a 0 :: Part.s [44, 32] :: joined (b :: l) := h
    rcases List.mem_cons.1 h' with rfl | h1
    · exact .inl ⟨a, by simp, rfl⟩
    · rcases List.mem_cons.1 h1 with rfl | h2
      · exact .inr rfl
      · rcases mem_joined (b :: l) p h2 with ⟨k, hk, rfl⟩ | rfl
        · exact .inl ⟨k, List.mem_cons_of_mem _ hk, rfl⟩
        · exact .inr rfl
theorem mem_params : ∀ (l : List Int) (p : Part), p ∈ params nodes l → ∃ x, p = .s x ∧ x ≠ []
  | [], p, h => by cases h
  | [a], p, h => ⟨_, List.mem_singleton.1 h, by simp⟩
  | a :: b :: l, p, h => by
    have h' : p ∈ Part.s (nm (nodeAt nodes a) ++ [32] ++ typeName (nodeAt nodes a).decl) :: Part.s [44, 32] :: params nodes (b :: l) := h
    rcases List.mem_cons.1 h' with rfl | h1
    · exact ⟨_, rfl, by simp⟩
    · rcases List.mem_cons.1 h1 with rfl | h2
      · exact ⟨_, rfl, by simp⟩
      · exact mem_params (b :: l) p h2
theorem name_ne {n : Nd} (hf : fields n = true) (hk : named n.kind = true) : nm n ≠ [] := by
  unfold fields at hf
  simp only [hk, Bool.and_eq_true, if_true] at hf
  have h := hf.1.1.1.1.1.2
  intro h0
  unfold nm at h0
  rw [h0] at h
  exact absurd h (by decide)
theorem op30 {n : Nd} (h : fields n = true) (hk : n.kind = 30) : 20 ≤ n.op ∧ n.op ≤ 22 := by
  unfold fields at h
  simp only [hk, Bool.and_eq_true] at h
  have := h.1.1.1.2
  simpa using this
/-- All jobs that a node comes to. -/
theorem node_pf {n : Nd} (hf : fields n = true) (hk : kidsOk n.kind (n.kids.map (kindOf nodes)) = true) (h2 : n.kind ≠ 2) (t : Nat) : ∀ p ∈ node nodes n t, PF nodes n t p := by
  have hlast : n.kind = 1 → ∃ bk, n.kids = n.kids.dropLast ++ [bk] ∧ kindOf nodes bk = 3 := by
    intro h1
    rw [h1] at hk
    unfold kidsOk at hk
    rw [if_pos rfl] at hk
    simp only [Bool.and_eq_true, decide_eq_true_eq, List.length_map] at hk
    have hne : n.kids ≠ [] := fun h => by have := hk.1.1; rw [h] at this; exact absurd this (by decide)
    refine ⟨n.kids.getLast hne, (List.dropLast_concat_getLast hne).symm, ?_⟩
    have := hk.1.2
    rw [← List.dropLast_concat_getLast hne, List.map_append, List.map_cons, List.map_nil, List.getLastD_concat] at this
    simpa using this
  have hne2 : n.kind ≠ 1 → ∀ k ∈ n.kids, kindOf nodes k ≠ 2 := fun h1 => kids_ne2 h1 hk
  have hnm := name_ne hf
  have hop := op30 hf
  obtain ⟨k, a1, a2, a3, a4, a5, a6, a7, nmm, ks⟩ := n
  dsimp only at hk h2 hlast hne2 hnm hop
  intro p hp
  have one : ∀ a, ks = [a] → k ≠ 1 → a ∈ ks ∧ kindOf nodes a ≠ 2 := fun a h h1 => ⟨by simp [h], hne2 h1 a (by simp [h])⟩
  by_cases e1 : k = 1
  · subst e1
    obtain ⟨bk, hks, hb3⟩ := hlast rfl
    have hE : node nodes (⟨1, a1, a2, a3, a4, a5, a6, a7, nmm, ks⟩ : Nd) t = function nodes (⟨1, a1, a2, a3, a4, a5, a6, a7, nmm, ks⟩ : Nd) := rfl
    rw [hE] at hp
    unfold function at hp
    dsimp only at hp hks
    have hgl : ks.getLastD 0 = bk := by rw [hks, List.getLastD_concat]
    rw [hgl] at hp
    simp only [List.mem_cons, List.mem_append, List.not_mem_nil, or_false] at hp
    rcases hp with rfl | hp | rfl | hp | rfl | rfl
    · show _ ≠ _; simp
    · obtain ⟨x, rfl, hx⟩ := mem_params _ _ hp; exact hx
    · exact List.cons_ne_nil _ _
    · split at hp
      · cases hp
      · rcases List.mem_singleton.1 hp with rfl; show _ ≠ _; simp
    · exact ⟨by rw [hks]; simp, Nat.zero_le _, by rw [hb3]; decide⟩
    · exact List.cons_ne_nil _ _
  by_cases e3 : k = 3
  · subst e3
    have hE : node nodes (⟨3, a1, a2, a3, a4, a5, a6, a7, nmm, ks⟩ : Nd) t = block (⟨3, a1, a2, a3, a4, a5, a6, a7, nmm, ks⟩ : Nd) t := rfl
    rw [hE] at hp
    unfold block at hp
    simp only [List.mem_cons, List.mem_append, List.not_mem_nil, or_false, List.mem_flatMap] at hp
    rcases hp with rfl | ⟨x, hx, rfl | rfl⟩ | rfl | rfl
    · exact List.cons_ne_nil _ _
    · exact Nat.le_refl _
    · exact ⟨hx, Nat.le_refl _, hne2 (by decide) x hx⟩
    · exact Nat.le_succ _
    · exact List.cons_ne_nil _ _
  have h1' : k ≠ 1 := e1
  have hmem := hne2 h1'
  by_cases hs : isS k = true
  · have hE : node nodes (⟨k, a1, a2, a3, a4, a5, a6, a7, nmm, ks⟩ : Nd) t = statement (⟨k, a1, a2, a3, a4, a5, a6, a7, nmm, ks⟩ : Nd) t := by
      unfold node; dsimp only; rw [if_neg e1, if_neg e3, if_pos hs]
    rw [hE] at hp
    have hk' : k = 4 ∨ k = 5 ∨ k = 6 ∨ k = 7 ∨ k = 8 ∨ k = 9 ∨ k = 10 ∨ k = 11 ∨ k = 12 ∨ k = 13 ∨ k = 14 := by
      unfold isS at hs
      simp only [Bool.and_eq_true, decide_eq_true_eq] at hs
      omega
    rcases hk' with rfl | rfl | rfl | rfl | rfl | rfl | rfl | rfl | rfl | rfl | rfl <;>
      (match ks, hk, hp, hmem with
      | [], hk, hp, hmem => first | (exfalso; simp [kidsOk] at hk; done) | (simp [statement] at hp; subst hp; simp [PF])
      | [a], hk, hp, hmem => first | (exfalso; simp [kidsOk] at hk; done) | (simp [statement] at hp; simp at hmem; rcases hp with rfl | rfl | rfl <;> simp [PF, hmem]) | (simp [statement] at hp; simp at hmem; rcases hp with rfl | rfl <;> simp [PF, hmem])
      | [a, b], hk, hp, hmem => first | (exfalso; simp [kidsOk] at hk; done) | (simp [statement] at hp; simp at hmem; rcases hp with rfl | rfl | rfl | rfl | rfl <;> simp [PF, hmem]) | (simp [statement] at hp; simp at hmem; rcases hp with rfl | rfl | rfl | rfl <;> simp [PF, hmem])
      | [a, b, c], hk, hp, hmem => first | (exfalso; simp [kidsOk] at hk; done) | (simp [statement] at hp; simp at hmem; rcases hp with rfl | rfl | rfl | rfl | rfl | rfl <;> simp [PF, hmem])
      | _ :: _ :: _ :: _ :: _, hk, hp, hmem => (exfalso; simp [kidsOk] at hk; done))
  · have hE : node nodes (⟨k, a1, a2, a3, a4, a5, a6, a7, nmm, ks⟩ : Nd) t = expression nodes (⟨k, a1, a2, a3, a4, a5, a6, a7, nmm, ks⟩ : Nd) := by
      unfold node; dsimp only; rw [if_neg e1, if_neg e3, if_neg hs]
    rw [hE] at hp
    have hk' : k = 20 ∨ k = 21 ∨ k = 22 ∨ k = 23 ∨ k = 24 ∨ k = 25 ∨ k = 26 ∨ k = 27 ∨ k = 28 ∨ k = 29 ∨ k = 30 ∨ k = 31 := by
      clear hlast hnm hop hne2 hmem one hp hE
      unfold isS at hs
      simp only [Bool.and_eq_true, decide_eq_true_eq] at hs
      refine Decidable.byContradiction fun hne => ?_
      unfold kidsOk at hk
      rw [if_neg e1, if_neg (by omega), if_neg (by omega), if_neg (by omega), if_neg (by omega), if_neg (by omega), if_neg (by omega), if_neg (by omega), if_neg (by omega), if_neg (by omega)] at hk
      cases hk
    rcases hk' with rfl | rfl | rfl | rfl | rfl | rfl | rfl | rfl | rfl | rfl | rfl | rfl
    · rcases List.mem_singleton.1 (show p ∈ [Part.s (Lib.itoa a7)] from hp) with rfl; exact itoa_ne a7
    · rcases List.mem_singleton.1 (show p ∈ [Part.s [116, 114, 117, 101]] from hp) with rfl; exact List.cons_ne_nil _ _
    · rcases List.mem_singleton.1 (show p ∈ [Part.s [102, 97, 108, 115, 101]] from hp) with rfl; exact List.cons_ne_nil _ _
    · rcases List.mem_singleton.1 (show p ∈ [Part.s [110, 105, 108]] from hp) with rfl; exact List.cons_ne_nil _ _
    · rcases List.mem_singleton.1 (show p ∈ [Part.s (nm _)] from hp) with rfl; exact hnm (by decide)
    · have hp' : p ∈ Part.s (nm (⟨25, a1, a2, a3, a4, a5, a6, a7, nmm, ks⟩ : Nd) ++ [40]) :: (joined ks ++ [.s [41]]) := hp
      simp only [List.mem_cons, List.mem_append, List.not_mem_nil, or_false] at hp'
      rcases hp' with rfl | hp | rfl
      · show _ ≠ _; simp
      · rcases mem_joined _ _ hp with ⟨x, hx, rfl⟩ | rfl
        · exact ⟨hx, Nat.zero_le _, hmem x hx⟩
        · exact List.cons_ne_nil _ _
      · exact List.cons_ne_nil _ _
    · rcases List.mem_singleton.1 (show p ∈ [Part.s [105, 110, 112, 117, 116, 40, 41]] from hp) with rfl; exact List.cons_ne_nil _ _
    · match ks, hk, hp, hmem with
      | [a], _, hp, hmem => simp [expression] at hp; simp at hmem; rcases hp with rfl | rfl | rfl <;> simp [PF, hmem]
      | [], hk, _, _ => exact absurd hk (by simp [kidsOk])
      | _ :: _ :: _, hk, _, _ => exact absurd hk (by simp [kidsOk])
    · match ks, hk, hp, hmem with
      | [a], _, hp, hmem => simp [expression] at hp; simp at hmem; rcases hp with rfl | rfl | rfl <;> simp [PF, hmem]
      | [], hk, _, _ => exact absurd hk (by simp [kidsOk])
      | _ :: _ :: _, hk, _, _ => exact absurd hk (by simp [kidsOk])
    · match ks, hk, hp, hmem with
      | [a, b], _, hp, hmem =>
        have hp' : p ∈ value a (decide (level (nodeAt nodes a) < 7)) ++ [.s [91], .k b 0, .s [93]] := hp
        rcases List.mem_append.1 hp' with hp | hp
        · exact pf_value (by simp) (hmem a (by simp)) p hp
        · simp at hp; simp at hmem; rcases hp with rfl | rfl | rfl <;> simp [PF, hmem]
      | [], hk, _, _ => exact absurd hk (by simp [kidsOk])
      | [_], hk, _, _ => exact absurd hk (by simp [kidsOk])
      | _ :: _ :: _ :: _, hk, _, _ => exact absurd hk (by simp [kidsOk])
    · match ks, hk, hp, hmem with
      | [a], _, hp, hmem =>
        have hp' : p ∈ Part.s (sign a6) :: value a (decide (level (nodeAt nodes a) < 6)) := hp
        rcases List.mem_cons.1 hp' with rfl | hp
        · have := hop rfl
          exact signs_ne a6 (by omega) (by omega)
        · exact pf_value (by simp) (hmem a (by simp)) p hp
      | [], hk, _, _ => exact absurd hk (by simp [kidsOk])
      | _ :: _ :: _, hk, _, _ => exact absurd hk (by simp [kidsOk])
    · match ks, hk, hp, hmem with
      | [a, b], _, hp, hmem =>
        have hp' : p ∈ value a (decide (level (nodeAt nodes a) < level (⟨31, a1, a2, a3, a4, a5, a6, a7, nmm, [a, b]⟩ : Nd)) || (decide (level (nodeAt nodes a) = 3) && decide (level (⟨31, a1, a2, a3, a4, a5, a6, a7, nmm, [a, b]⟩ : Nd) = 3))) ++
          (Part.s ([32] ++ sign a6 ++ [32]) :: value b (decide (level (nodeAt nodes b) ≤ level (⟨31, a1, a2, a3, a4, a5, a6, a7, nmm, [a, b]⟩ : Nd)))) := hp
        rcases List.mem_append.1 hp' with hp | hp
        · exact pf_value (by simp) (hmem a (by simp)) p hp
        · rcases List.mem_cons.1 hp with rfl | hp
          · show _ ≠ _; simp
          · exact pf_value (by simp) (hmem b (by simp)) p hp
      | [], hk, _, _ => exact absurd hk (by simp [kidsOk])
      | [_], hk, _, _ => exact absurd hk (by simp [kidsOk])
      | _ :: _ :: _ :: _, hk, _, _ => exact absurd hk (by simp [kidsOk])
end Tm
end Go.Proofs.YtllahgnpjodgmaaDoor

set_option linter.unusedVariables false
namespace Go.Proofs.YtllahgnpjodgmaaDoor
open Pm
namespace Tm
variable {nodes : List Nd} {funcs : List Int}
def kOf : Part → Option Int
  | .k k _ => some k
  | _ => none
theorem kOf_value (k : Int) (b : Bool) : (value k b).filterMap kOf = [k] := by cases b <;> rfl
theorem kOf_joined : ∀ l : List Int, (joined l).filterMap kOf = l
  | [] => rfl
  | [a] => rfl
  | a :: b :: l => by
    have ih := kOf_joined (b :: l)
    show a :: (joined (b :: l)).filterMap kOf = _
    rw [ih]
theorem kOf_params : ∀ l : List Int, (params nodes l).filterMap kOf = []
  | [] => rfl
  | [a] => rfl
  | a :: b :: l => by
    have ih := kOf_params (b :: l)
    show (params nodes (b :: l)).filterMap kOf = _
    rw [ih]
theorem kOf_lines (l : List Int) (t : Nat) : (l.flatMap (fun k => [Part.ln (t + 1), .k k (t + 1)])).filterMap kOf = l := by
  induction l with
  | nil => rfl
  | cons a l ih => rw [List.flatMap_cons, List.filterMap_append, ih]; rfl
theorem lines_len' (l : List Int) (t : Nat) : (l.flatMap (fun k => [Part.ln (t + 1), .k k (t + 1)])).length = 2 * l.length := by
  induction l with
  | nil => rfl
  | cons a l ih => rw [List.flatMap_cons, List.length_append, ih, List.length_cons]; simp; omega
theorem joined_len' : ∀ l : List Int, (joined l).length ≤ 2 * l.length
  | [] => Nat.le_refl _
  | [a] => by show 1 ≤ 2; decide
  | a :: b :: l => by
    have ih := joined_len' (b :: l)
    show (Part.k a 0 :: Part.s [44, 32] :: joined (b :: l)).length ≤ _
    simp only [List.length_cons] at ih ⊢
    omega
theorem params_len' : ∀ l : List Int, (params nodes l).length ≤ 2 * l.length
  | [] => Nat.le_refl _
  | [a] => by show 1 ≤ 2; decide
  | a :: b :: l => by
    have ih := params_len' (b :: l)
    show (Part.s _ :: Part.s [44, 32] :: params nodes (b :: l)).length ≤ _
    simp only [List.length_cons] at ih ⊢
    omega
theorem value_len (k : Int) (b : Bool) : (value k b).length ≤ 3 := by cases b <;> exact Nat.le_of_ble_eq_true rfl
/-- A node's jobs: which nodes, and how many. -/
theorem node_sub {n : Nd} (hk : kidsOk n.kind (n.kids.map (kindOf nodes)) = true) (h2 : n.kind ≠ 2) (t : Nat) : ((node nodes n t).filterMap kOf).Sublist n.kids ∧ (node nodes n t).length ≤ 2 * n.kids.length + 7 := by
  obtain ⟨k, a1, a2, a3, a4, a5, a6, a7, nmm, ks⟩ := n
  dsimp only at hk h2
  by_cases e1 : k = 1
  · subst e1
    have hne : ks ≠ [] := fun h => by subst h; exact absurd hk (by simp [kidsOk])
    obtain ⟨ps, bk, rfl⟩ : ∃ ps bk, ks = ps ++ [bk] := ⟨_, _, (List.dropLast_concat_getLast hne).symm⟩
    have hE : node nodes (⟨1, a1, a2, a3, a4, a5, a6, a7, nmm, ps ++ [bk]⟩ : Nd) t = function nodes (⟨1, a1, a2, a3, a4, a5, a6, a7, nmm, ps ++ [bk]⟩ : Nd) := rfl
    rw [hE]
    unfold function
    dsimp only
    rw [List.dropLast_concat, List.getLastD_concat]
    have hp := params_len' (nodes := nodes) ps
    constructor
    · simp only [List.filterMap_cons, List.filterMap_append, kOf_params, kOf]
      split
      · exact List.sublist_append_right ps [bk]
      · exact List.sublist_append_right ps [bk]
    · simp only [List.length_cons, List.length_append, List.length_nil]
      split <;> simp <;> omega
  by_cases e3 : k = 3
  · subst e3
    have hE : node nodes (⟨3, a1, a2, a3, a4, a5, a6, a7, nmm, ks⟩ : Nd) t = block (⟨3, a1, a2, a3, a4, a5, a6, a7, nmm, ks⟩ : Nd) t := rfl
    rw [hE]
    unfold block
    dsimp only
    constructor
    · simp only [List.filterMap_cons, List.filterMap_append, kOf_lines, kOf, List.filterMap_nil, List.append_nil]
      exact List.Sublist.refl _
    · simp only [List.length_cons, List.length_append, List.length_nil, lines_len']; omega
  by_cases hs : isS k = true
  · have hE : node nodes (⟨k, a1, a2, a3, a4, a5, a6, a7, nmm, ks⟩ : Nd) t = statement (⟨k, a1, a2, a3, a4, a5, a6, a7, nmm, ks⟩ : Nd) t := by
      unfold node; dsimp only; rw [if_neg e1, if_neg e3, if_pos hs]
    rw [hE]
    have hk' : k = 4 ∨ k = 5 ∨ k = 6 ∨ k = 7 ∨ k = 8 ∨ k = 9 ∨ k = 10 ∨ k = 11 ∨ k = 12 ∨ k = 13 ∨ k = 14 := by
      unfold isS at hs
      simp only [Bool.and_eq_true, decide_eq_true_eq] at hs
      omega
    clear hE
    rcases hk' with rfl | rfl | rfl | rfl | rfl | rfl | rfl | rfl | rfl | rfl | rfl <;>
      (match ks, hk with
      | [], hk => first | (exfalso; simp [kidsOk] at hk; done) | (simp [statement, kOf, List.filterMap_cons]; done)
      | [a], hk => first | (exfalso; simp [kidsOk] at hk; done) | (simp [statement, kOf, List.filterMap_cons]; done)
      | [a, b], hk => first | (exfalso; simp [kidsOk] at hk; done) | (simp [statement, kOf, List.filterMap_cons]; done)
      | [a, b, c], hk => first | (exfalso; simp [kidsOk] at hk; done) | (simp [statement, kOf, List.filterMap_cons]; done)
      | _ :: _ :: _ :: _ :: _, hk => exact absurd hk (by simp [kidsOk]))
  · have hE : node nodes (⟨k, a1, a2, a3, a4, a5, a6, a7, nmm, ks⟩ : Nd) t = expression nodes (⟨k, a1, a2, a3, a4, a5, a6, a7, nmm, ks⟩ : Nd) := by
      unfold node; dsimp only; rw [if_neg e1, if_neg e3, if_neg hs]
    rw [hE]
    have hk' : k = 20 ∨ k = 21 ∨ k = 22 ∨ k = 23 ∨ k = 24 ∨ k = 25 ∨ k = 26 ∨ k = 27 ∨ k = 28 ∨ k = 29 ∨ k = 30 ∨ k = 31 := by
      clear hE
      unfold isS at hs
      simp only [Bool.and_eq_true, decide_eq_true_eq] at hs
      refine Decidable.byContradiction fun hne => ?_
      unfold kidsOk at hk
      rw [if_neg e1, if_neg (by omega), if_neg (by omega), if_neg (by omega), if_neg (by omega), if_neg (by omega), if_neg (by omega), if_neg (by omega), if_neg (by omega), if_neg (by omega)] at hk
      cases hk
    clear hE
    rcases hk' with rfl | rfl | rfl | rfl | rfl | rfl | rfl | rfl | rfl | rfl | rfl | rfl
    · exact ⟨List.nil_sublist _, by show 1 ≤ _; omega⟩
    · exact ⟨List.nil_sublist _, by show 1 ≤ _; omega⟩
    · exact ⟨List.nil_sublist _, by show 1 ≤ _; omega⟩
    · exact ⟨List.nil_sublist _, by show 1 ≤ _; omega⟩
    · exact ⟨List.nil_sublist _, by show 1 ≤ _; omega⟩
    · have hE : expression nodes (⟨25, a1, a2, a3, a4, a5, a6, a7, nmm, ks⟩ : Nd) = .s (nm (⟨25, a1, a2, a3, a4, a5, a6, a7, nmm, ks⟩ : Nd) ++ [40]) :: (joined ks ++ [.s [41]]) := rfl
      rw [hE]
      have := joined_len' ks
      constructor
      · simp only [List.filterMap_cons, List.filterMap_append, kOf_joined, kOf, List.filterMap_nil, List.append_nil]
        exact List.Sublist.refl _
      · simp only [List.length_cons, List.length_append, List.length_nil]; omega
    · exact ⟨List.nil_sublist _, by show 1 ≤ _; omega⟩
    · match ks, hk with
      | [a], _ => simp [expression, kOf, List.filterMap_cons]
      | [], hk => exact absurd hk (by simp [kidsOk])
      | _ :: _ :: _, hk => exact absurd hk (by simp [kidsOk])
    · match ks, hk with
      | [a], _ => simp [expression, kOf, List.filterMap_cons]
      | [], hk => exact absurd hk (by simp [kidsOk])
      | _ :: _ :: _, hk => exact absurd hk (by simp [kidsOk])
    · match ks, hk with
      | [a, b], _ =>
        have hE : expression nodes (⟨29, a1, a2, a3, a4, a5, a6, a7, nmm, [a, b]⟩ : Nd) = value a (decide (level (nodeAt nodes a) < 7)) ++ [.s [91], .k b 0, .s [93]] := rfl
        rw [hE]
        have := value_len a (decide (level (nodeAt nodes a) < 7))
        constructor
        · simp only [List.filterMap_append, kOf_value]; exact List.Sublist.refl _
        · simp only [List.length_cons, List.length_append, List.length_nil]; omega
      | [], hk => exact absurd hk (by simp [kidsOk])
      | [_], hk => exact absurd hk (by simp [kidsOk])
      | _ :: _ :: _ :: _, hk => exact absurd hk (by simp [kidsOk])
    · match ks, hk with
      | [a], _ =>
        have hE : expression nodes (⟨30, a1, a2, a3, a4, a5, a6, a7, nmm, [a]⟩ : Nd) = Part.s (sign a6) :: value a (decide (level (nodeAt nodes a) < 6)) := rfl
        rw [hE]
        have := value_len a (decide (level (nodeAt nodes a) < 6))
        constructor
        · simp only [List.filterMap_cons, kOf_value, kOf]; exact List.Sublist.refl _
        · simp only [List.length_cons, List.length_nil]; omega
      | [], hk => exact absurd hk (by simp [kidsOk])
      | _ :: _ :: _, hk => exact absurd hk (by simp [kidsOk])
    · match ks, hk with
      | [a, b], _ =>
        obtain ⟨b1, b2, hE⟩ : ∃ b1 b2, expression nodes (⟨31, a1, a2, a3, a4, a5, a6, a7, nmm, [a, b]⟩ : Nd) = value a b1 ++ (Part.s ([32] ++ sign a6 ++ [32]) :: value b b2) := ⟨_, _, rfl⟩
        rw [hE]
        have h1 := value_len a b1
        have h3 := value_len b b2
        constructor
        · simp only [List.filterMap_append, List.filterMap_cons, kOf_value, kOf]; exact List.Sublist.refl _
        · simp only [List.length_cons, List.length_append, List.length_nil]; omega
      | [], hk => exact absurd hk (by simp [kidsOk])
      | [_], hk => exact absurd hk (by simp [kidsOk])
      | _ :: _ :: _ :: _, hk => exact absurd hk (by simp [kidsOk])

/-- How much a node's printing still takes. -/
def wk (nodes : List Nd) : Nat → Int → Nat
  | 0, _ => 0
  | d + 1, k => 8 + 2 * (nodeAt nodes k).kids.length + ((nodeAt nodes k).kids.map (wk nodes d)).sum
def wP (nodes : List Nd) : Part → Nat
  | .k k _ => wk nodes (nodes.length + 1) k
  | _ => 1
def W (nodes : List Nd) (l : List Part) : Nat := (l.map (wP nodes)).sum
theorem nodeAt_low (h : Ok nodes funcs) {k : Int} (h0 : 0 ≤ k) : ∀ x ∈ (nodeAt nodes k).kids, 0 ≤ x ∧ x < k := by
  intro x hx
  have := h.low' k.toNat x hx
  omega
theorem wk_fuel (h : Ok nodes funcs) : ∀ (b : Nat) (k : Int) (d d' : Nat), k.toNat < b → 0 ≤ k → k.toNat < d → k.toNat < d' → wk nodes d k = wk nodes d' k
  | 0, k, d, d', hb, _, _, _ => by omega
  | b + 1, k, d, d', hb, h0, h1, h2 => by
    obtain ⟨e, rfl⟩ : ∃ e, d = e + 1 := ⟨d - 1, by omega⟩
    obtain ⟨e', rfl⟩ : ∃ e', d' = e' + 1 := ⟨d' - 1, by omega⟩
    show 8 + _ + _ = 8 + _ + _
    have : (nodeAt nodes k).kids.map (wk nodes e) = (nodeAt nodes k).kids.map (wk nodes e') := List.map_congr_left fun x hx => by
      have := nodeAt_low h h0 x hx
      exact wk_fuel h b x e e' (by omega) this.1 (by omega) (by omega)
    rw [this]
theorem sum_le_of_sub {f : Int → Nat} {a b : List Int} (h : a.Sublist b) : (a.map f).sum ≤ (b.map f).sum := by
  induction h with
  | slnil => exact Nat.le_refl _
  | cons x _ ih => rw [List.map_cons, List.sum_cons]; omega
  | cons_cons x _ ih => rw [List.map_cons, List.map_cons, List.sum_cons, List.sum_cons]; omega
theorem W_parts (l : List Part) : W nodes l ≤ l.length + ((l.filterMap kOf).map (wk nodes (nodes.length + 1))).sum := by
  induction l with
  | nil => exact Nat.le_refl _
  | cons p l ih =>
    unfold W at ih ⊢
    rw [List.map_cons, List.sum_cons, List.length_cons, List.filterMap_cons]
    cases p with
    | s x => simp only [kOf, wP]; omega
    | ln x => simp only [kOf, wP]; omega
    | k x t => simp only [kOf, wP, List.map_cons, List.sum_cons]; omega
theorem W_len (l : List Part) : l.length ≤ W nodes l := by
  induction l with
  | nil => exact Nat.le_refl _
  | cons p l ih =>
    unfold W at ih ⊢
    rw [List.map_cons, List.sum_cons, List.length_cons]
    have : 1 ≤ wP nodes p := by
      cases p with
      | s x => exact Nat.le_refl _
      | ln x => exact Nat.le_refl _
      | k x t => show 1 ≤ 8 + _ + _; omega
    omega
theorem W_app (a b : List Part) : W nodes (a ++ b) = W nodes a + W nodes b := by unfold W; rw [List.map_append, List.sum_append]
/-- A job of a node's makes way for less. -/
theorem W_step (h : Ok nodes funcs) {k : Int} (h0 : 0 ≤ k) (hk : k < (nodes.length : Int)) (h2 : kindOf nodes k ≠ 2) (t : Nat) (l : List Part) : W nodes (node nodes (nodeAt nodes k) t ++ l) + 1 ≤ W nodes (.k k t :: l) := by
  obtain ⟨_, hko⟩ := h.each _ (nodeAt_mem h0 hk)
  obtain ⟨s1, s2⟩ := node_sub hko h2 t
  have s3 := W_parts (nodes := nodes) (node nodes (nodeAt nodes k) t)
  have s4 := sum_le_of_sub (f := wk nodes (nodes.length + 1)) s1
  have s5 : (nodeAt nodes k).kids.map (wk nodes (nodes.length + 1)) = (nodeAt nodes k).kids.map (wk nodes nodes.length) := List.map_congr_left fun x hx => by
    have := nodeAt_low h h0 x hx
    exact wk_fuel h (x.toNat + 1) x _ _ (by omega) this.1 (by omega) (by omega)
  rw [s5] at s4
  rw [W_app]
  show _ ≤ W nodes ([.k k t] ++ l)
  rw [W_app]
  have s6 : W nodes [.k k t] = 8 + 2 * (nodeAt nodes k).kids.length + ((nodeAt nodes k).kids.map (wk nodes nodes.length)).sum := by show (_ + 0 : Nat) = _; rfl
  omega
theorem wk_fo (h : Ok nodes funcs) {lo hi : Nat} {rs : List Nat} (hf : Fo (kidsOf nodes) lo hi rs) : ∀ d, hi ≤ d → (rs.map (fun (r : Nat) => wk nodes d (r : Int))).sum + 2 * rs.length ≤ 10 * (hi - lo) := by
  induction hf with
  | nil lo => intro d _; simp
  | @cons lo r hi rs h1 h2 ih1 ih2 =>
    intro d hd
    have l1 := h1.le
    have l2 := h2.le
    have i2 := ih2 d hd
    obtain ⟨e, rfl⟩ : ∃ e, d = e + 1 := ⟨d - 1, by omega⟩
    have i1 := ih1 e (by omega)
    have hks : (nodeAt nodes (r : Int)).kids = IO (kidsOf nodes r) := kids_IO (fun x hx => (h.low' r x hx).1)
    have hw : wk nodes (e + 1) (r : Int) = 8 + 2 * (kidsOf nodes r).length + ((kidsOf nodes r).map (fun (x : Nat) => wk nodes e (x : Int))).sum := by
      show 8 + 2 * (nodeAt nodes (r : Int)).kids.length + _ = _
      rw [hks, IO_len]
      congr 2
      unfold IO
      rw [List.map_map]; rfl
    rw [List.map_cons, List.sum_cons, List.length_cons, hw]
    omega
theorem W_start (h : Ok nodes funcs) : W nodes (funcs.map fun f => .k f 0) ≤ 10 * nodes.length := by
  have h1 := wk_fo h h.fo (nodes.length + 1) (Nat.le_succ _)
  rw [Nat.sub_zero, List.map_map] at h1
  unfold W
  rw [List.map_map]
  have : funcs.map (wP nodes ∘ fun f => Part.k f 0) = funcs.map ((fun (r : Nat) => wk nodes (nodes.length + 1) (r : Int)) ∘ Int.toNat) := List.map_congr_left fun f hf => by
    show wk nodes _ f = wk nodes _ ((f.toNat : Nat) : Int)
    rw [Int.toNat_of_nonneg (h.nn f hf)]
  rw [this]
  omega
theorem tx_fuel (h : Ok nodes funcs) : ∀ (b : Nat) (k : Int) (d d' t : Nat), k.toNat < b → 0 ≤ k → k < (nodes.length : Int) → kindOf nodes k ≠ 2 → k.toNat < d → k.toNat < d' → tx nodes d k t = tx nodes d' k t
  | 0, k, d, d', t, hb, _, _, _, _, _ => by omega
  | b + 1, k, d, d', t, hb, h0, hn, h2, h1, h3 => by
    obtain ⟨e, rfl⟩ : ∃ e, d = e + 1 := ⟨d - 1, by omega⟩
    obtain ⟨e', rfl⟩ : ∃ e', d' = e' + 1 := ⟨d' - 1, by omega⟩
    show (node nodes (nodeAt nodes k) t).flatMap _ = (node nodes (nodeAt nodes k) t).flatMap _
    obtain ⟨hf, hko⟩ := h.each _ (nodeAt_mem h0 hn)
    have hpf := node_pf hf hko h2 t
    refine flatMap_congr' fun p hp => ?_
    have hp1 := hpf p hp
    cases p with
    | s x => rfl
    | ln x => rfl
    | k x y =>
      have := nodeAt_low h h0 x hp1.1
      exact tx_fuel h b x e e' y (by omega) this.1 (by omega) hp1.2.2 (by omega) (by omega)
theorem text_app (a b : List Part) : text nodes (a ++ b) = text nodes a ++ text nodes b := by unfold text; rw [List.flatMap_append]
theorem text_step (h : Ok nodes funcs) {k : Int} (h0 : 0 ≤ k) (hk : k < (nodes.length : Int)) (h2 : kindOf nodes k ≠ 2) (t : Nat) (l : List Part) : text nodes (.k k t :: l) = text nodes (node nodes (nodeAt nodes k) t ++ l) := by
  obtain ⟨hf, hko⟩ := h.each _ (nodeAt_mem h0 hk)
  have hpf := node_pf hf hko h2 t
  rw [text_app]
  show tx nodes (nodes.length + 1) k t ++ text nodes l = _
  congr 1
  show (node nodes (nodeAt nodes k) t).flatMap _ = (node nodes (nodeAt nodes k) t).flatMap _
  refine flatMap_congr' fun p hp => ?_
  have hp1 := hpf p hp
  cases p with
  | s x => rfl
  | ln x => rfl
  | k x y =>
    have := nodeAt_low h h0 x hp1.1
    exact tx_fuel h (x.toNat + 1) x _ _ y (by omega) this.1 (by omega) hp1.2.2 (by omega) (by omega)
/-- A job that is well made. -/
def POk (nodes : List Nd) : Part → Prop
  | .s l => l ≠ []
  | .ln x => x ≤ nodes.length + 1
  | .k k x => 0 ≤ k ∧ k < (nodes.length : Int) ∧ kindOf nodes k ≠ 2 ∧ x + k.toNat ≤ nodes.length
theorem pok_step (h : Ok nodes funcs) {k : Int} {t : Nat} (hp : POk nodes (.k k t)) : ∀ p ∈ node nodes (nodeAt nodes k) t, POk nodes p := by
  obtain ⟨h0, hk, h2, h3⟩ := hp
  obtain ⟨hf, hko⟩ := h.each _ (nodeAt_mem h0 hk)
  intro p hp
  have hp1 := node_pf hf hko h2 t p hp
  cases p with
  | s x => exact hp1
  | ln x => have : x ≤ t + 1 := hp1; show x ≤ _; omega
  | k x y =>
    have h5 := nodeAt_low h h0 x hp1.1
    have h6 := hp1.2.1
    exact ⟨h5.1, by omega, hp1.2.2, by omega⟩
theorem pok_start (h : Ok nodes funcs) : ∀ p ∈ funcs.map (fun f => Part.k f 0), POk nodes p := by
  intro p hp
  obtain ⟨f, hf, rfl⟩ := List.mem_map.1 hp
  have h0 := h.nn f hf
  have hm := h.fo.mem f.toNat (List.mem_map_of_mem hf)
  have h1 := List.all_eq_true.1 h.funcs f hf
  have h2 : kindOf nodes f = 1 := by simpa using h1
  exact ⟨h0, by omega, by rw [h2]; decide, by omega⟩
end Tm
end Go.Proofs.YtllahgnpjodgmaaDoor
