/- What the printer's list comes to (chapter 3), on plain data: each job is made of jobs of nodes ahead of it; how many there are; the text does not hang on the depth. No program here. -/
import Derived.Test.YtllahgnpjodgmaaDoorTq
import Derived.Lib.ItoaMem
set_option linter.unusedVariables false
namespace Go.Proofs.YtllahgnpjodgmaaDoor
open Pm
namespace Tm
variable {nodes : List Nd}
/-- A job of a node's. -/
def PF (nodes : List Nd) (n : Nd) (t : Nat) : Part → Prop
  | .s l => l ≠ []
  | .ln x => x ≤ t + 1
  | .k k x => k ∈ n.kids ∧ x ≤ t + 1 ∧ kindOf nodes k ≠ 2
theorem signs_ne : ∀ op : Int, 1 ≤ op → op ≤ 22 → sign op ≠ [] := by
  intro op h1 h2
  obtain ⟨j, rfl⟩ : ∃ j : Nat, op = (j : Int) := ⟨op.toNat, by omega⟩
  have h : ∀ j : Fin 23, 1 ≤ j.1 → signs.getD j.1 [] ≠ [] := by decide
  exact h ⟨j, by omega⟩ (by show 1 ≤ j; omega)
theorem itoa_ne (n : Int) : Lib.itoa n ≠ [] := by
  unfold Lib.itoa
  split
  · exact List.cons_ne_nil _ _
  · intro h
    have h1 := Lib.decDigits_length n.toNat
    rw [h, Lib.nDigits] at h1
    split at h1
    · exact absurd h1 (by decide)
    · exact absurd h1 (by simp)
theorem getD_mem {l : List Int} {i : Nat} (h : i < l.length) : l.getD i 0 ∈ l := by
  rw [List.getD_eq_getElem?_getD, List.getElem?_eq_getElem h]; exact List.getElem_mem h
theorem pf_value {n : Nd} {t : Nat} {k : Int} {b : Bool} (hk : k ∈ n.kids) (h2 : kindOf nodes k ≠ 2) : ∀ p ∈ value k b, PF nodes n t p := by
  intro p hp
  cases b
  · rcases List.mem_singleton.1 hp with rfl; exact ⟨hk, Nat.zero_le _, h2⟩
  · have hp' : p = .s [40] ∨ p = .k k 0 ∨ p = .s [41] := by simpa [value] using hp
    rcases hp' with rfl | rfl | rfl
    · exact List.cons_ne_nil _ _
    · exact ⟨hk, Nat.zero_le _, h2⟩
    · exact List.cons_ne_nil _ _
theorem mem_joined : ∀ (l : List Int) (p : Part), p ∈ joined l → (∃ k ∈ l, p = .k k 0) ∨ p = .s [44, 32]
  | [], p, h => by cases h
  | [a], p, h => .inl ⟨a, by simp, List.mem_singleton.1 h⟩
  | a :: b :: l, p, h => by
    have h' : p ∈ Part.k a 0 :: Part.s [44, 32] :: joined (b :: l) := h
    rcases List.mem_cons.1 h' with rfl | h1
    · exact .inl ⟨a, by simp, rfl⟩
    · rcases List.mem_cons.1 h1 with rfl | h2
      · exact .inr rfl
      · rcases mem_joined (b :: l) p h2 with ⟨k, hk, rfl⟩ | rfl
        · exact .inl ⟨k, List.mem_cons_of_mem _ hk, rfl⟩
        · exact .inr rfl
theorem mem_params : ∀ (l : List Int) (p : Part), p ∈ params nodes l → ∃ x, p = .s x ∧ x ≠ []
  | [], p, h => by cases h
  | [a], p, h => ⟨_, List.mem_singleton.1 h, by simp⟩
  | a :: b :: l, p, h => by
    have h' : p ∈ Part.s (nm (nodeAt nodes a) ++ [32] ++ typeName (nodeAt nodes a).decl) :: Part.s [44, 32] :: params nodes (b :: l) := h
    rcases List.mem_cons.1 h' with rfl | h1
    · exact ⟨_, rfl, by simp⟩
    · rcases List.mem_cons.1 h1 with rfl | h2
      · exact ⟨_, rfl, by simp⟩
      · exact mem_params (b :: l) p h2
theorem name_ne {n : Nd} (hf : fields n = true) (hk : named n.kind = true) : nm n ≠ [] := by
  unfold fields at hf
  simp only [hk, Bool.and_eq_true, if_true] at hf
  have h := hf.1.1.1.1.1.2
  intro h0
  unfold nm at h0
  rw [h0] at h
  exact absurd h (by decide)
theorem op30 {n : Nd} (h : fields n = true) (hk : n.kind = 30) : 20 ≤ n.op ∧ n.op ≤ 22 := by
  unfold fields at h
  simp only [hk, Bool.and_eq_true] at h
  have := h.1.1.1.2
  simpa using this
/-- All jobs that a node comes to. -/
theorem node_pf {n : Nd} (hf : fields n = true) (hk : kidsOk n.kind (n.kids.map (kindOf nodes)) = true) (h2 : n.kind ≠ 2) (t : Nat) : ∀ p ∈ node nodes n t, PF nodes n t p := by
  have hlast : n.kind = 1 → ∃ bk, n.kids = n.kids.dropLast ++ [bk] ∧ kindOf nodes bk = 3 := by
    intro h1
    rw [h1] at hk
    unfold kidsOk at hk
    rw [if_pos rfl] at hk
    simp only [Bool.and_eq_true, decide_eq_true_eq, List.length_map] at hk
    have hne : n.kids ≠ [] := fun h => by have := hk.1.1; rw [h] at this; exact absurd this (by decide)
    refine ⟨n.kids.getLast hne, (List.dropLast_concat_getLast hne).symm, ?_⟩
    have := hk.1.2
    rw [← List.dropLast_concat_getLast hne, List.map_append, List.map_cons, List.map_nil, List.getLastD_concat] at this
    simpa using this
  have hne2 : n.kind ≠ 1 → ∀ k ∈ n.kids, kindOf nodes k ≠ 2 := fun h1 => kids_ne2 h1 hk
  have hnm := name_ne hf
  have hop := op30 hf
  obtain ⟨k, a1, a2, a3, a4, a5, a6, a7, nmm, ks⟩ := n
  dsimp only at hk h2 hlast hne2 hnm hop
  intro p hp
  have one : ∀ a, ks = [a] → k ≠ 1 → a ∈ ks ∧ kindOf nodes a ≠ 2 := fun a h h1 => ⟨by simp [h], hne2 h1 a (by simp [h])⟩
  by_cases e1 : k = 1
  · subst e1
    obtain ⟨bk, hks, hb3⟩ := hlast rfl
    have hE : node nodes (⟨1, a1, a2, a3, a4, a5, a6, a7, nmm, ks⟩ : Nd) t = function nodes (⟨1, a1, a2, a3, a4, a5, a6, a7, nmm, ks⟩ : Nd) := rfl
    rw [hE] at hp
    unfold function at hp
    dsimp only at hp hks
    have hgl : ks.getLastD 0 = bk := by rw [hks, List.getLastD_concat]
    rw [hgl] at hp
    simp only [List.mem_cons, List.mem_append, List.not_mem_nil, or_false] at hp
    rcases hp with rfl | hp | rfl | hp | rfl | rfl
    · show _ ≠ _; simp
    · obtain ⟨x, rfl, hx⟩ := mem_params _ _ hp; exact hx
    · exact List.cons_ne_nil _ _
    · split at hp
      · cases hp
      · rcases List.mem_singleton.1 hp with rfl; show _ ≠ _; simp
    · exact ⟨by rw [hks]; simp, Nat.zero_le _, by rw [hb3]; decide⟩
    · exact List.cons_ne_nil _ _
  by_cases e3 : k = 3
  · subst e3
    have hE : node nodes (⟨3, a1, a2, a3, a4, a5, a6, a7, nmm, ks⟩ : Nd) t = block (⟨3, a1, a2, a3, a4, a5, a6, a7, nmm, ks⟩ : Nd) t := rfl
    rw [hE] at hp
    unfold block at hp
    simp only [List.mem_cons, List.mem_append, List.not_mem_nil, or_false, List.mem_flatMap] at hp
    rcases hp with rfl | ⟨x, hx, rfl | rfl⟩ | rfl | rfl
    · exact List.cons_ne_nil _ _
    · exact Nat.le_refl _
    · exact ⟨hx, Nat.le_refl _, hne2 (by decide) x hx⟩
    · exact Nat.le_succ _
    · exact List.cons_ne_nil _ _
  have h1' : k ≠ 1 := e1
  have hmem := hne2 h1'
  by_cases hs : isS k = true
  · have hE : node nodes (⟨k, a1, a2, a3, a4, a5, a6, a7, nmm, ks⟩ : Nd) t = statement (⟨k, a1, a2, a3, a4, a5, a6, a7, nmm, ks⟩ : Nd) t := by
      unfold node; dsimp only; rw [if_neg e1, if_neg e3, if_pos hs]
    rw [hE] at hp
    have hk' : k = 4 ∨ k = 5 ∨ k = 6 ∨ k = 7 ∨ k = 8 ∨ k = 9 ∨ k = 10 ∨ k = 11 ∨ k = 12 ∨ k = 13 ∨ k = 14 := by
      unfold isS at hs
      simp only [Bool.and_eq_true, decide_eq_true_eq] at hs
      omega
    rcases hk' with rfl | rfl | rfl | rfl | rfl | rfl | rfl | rfl | rfl | rfl | rfl <;>
      (match ks, hk, hp, hmem with
      | [], hk, hp, hmem => first | (exfalso; simp [kidsOk] at hk; done) | (simp [statement] at hp; subst hp; simp [PF])
      | [a], hk, hp, hmem => first | (exfalso; simp [kidsOk] at hk; done) | (simp [statement] at hp; simp at hmem; rcases hp with rfl | rfl | rfl <;> simp [PF, hmem]) | (simp [statement] at hp; simp at hmem; rcases hp with rfl | rfl <;> simp [PF, hmem])
      | [a, b], hk, hp, hmem => first | (exfalso; simp [kidsOk] at hk; done) | (simp [statement] at hp; simp at hmem; rcases hp with rfl | rfl | rfl | rfl | rfl <;> simp [PF, hmem]) | (simp [statement] at hp; simp at hmem; rcases hp with rfl | rfl | rfl | rfl <;> simp [PF, hmem])
      | [a, b, c], hk, hp, hmem => first | (exfalso; simp [kidsOk] at hk; done) | (simp [statement] at hp; simp at hmem; rcases hp with rfl | rfl | rfl | rfl | rfl | rfl <;> simp [PF, hmem])
      | _ :: _ :: _ :: _ :: _, hk, hp, hmem => (exfalso; simp [kidsOk] at hk; done))
  · have hE : node nodes (⟨k, a1, a2, a3, a4, a5, a6, a7, nmm, ks⟩ : Nd) t = expression nodes (⟨k, a1, a2, a3, a4, a5, a6, a7, nmm, ks⟩ : Nd) := by
      unfold node; dsimp only; rw [if_neg e1, if_neg e3, if_neg hs]
    rw [hE] at hp
    have hk' : k = 20 ∨ k = 21 ∨ k = 22 ∨ k = 23 ∨ k = 24 ∨ k = 25 ∨ k = 26 ∨ k = 27 ∨ k = 28 ∨ k = 29 ∨ k = 30 ∨ k = 31 := by
      clear hlast hnm hop hne2 hmem one hp hE
      unfold isS at hs
      simp only [Bool.and_eq_true, decide_eq_true_eq] at hs
      refine Decidable.byContradiction fun hne => ?_
      unfold kidsOk at hk
      rw [if_neg e1, if_neg (by omega), if_neg (by omega), if_neg (by omega), if_neg (by omega), if_neg (by omega), if_neg (by omega), if_neg (by omega), if_neg (by omega), if_neg (by omega)] at hk
      cases hk
    rcases hk' with rfl | rfl | rfl | rfl | rfl | rfl | rfl | rfl | rfl | rfl | rfl | rfl
    · rcases List.mem_singleton.1 (show p ∈ [Part.s (Lib.itoa a7)] from hp) with rfl; exact itoa_ne a7
    · rcases List.mem_singleton.1 (show p ∈ [Part.s [116, 114, 117, 101]] from hp) with rfl; exact List.cons_ne_nil _ _
    · rcases List.mem_singleton.1 (show p ∈ [Part.s [102, 97, 108, 115, 101]] from hp) with rfl; exact List.cons_ne_nil _ _
    · rcases List.mem_singleton.1 (show p ∈ [Part.s [110, 105, 108]] from hp) with rfl; exact List.cons_ne_nil _ _
    · rcases List.mem_singleton.1 (show p ∈ [Part.s (nm _)] from hp) with rfl; exact hnm (by decide)
    · have hp' : p ∈ Part.s (nm (⟨25, a1, a2, a3, a4, a5, a6, a7, nmm, ks⟩ : Nd) ++ [40]) :: (joined ks ++ [.s [41]]) := hp
      simp only [List.mem_cons, List.mem_append, List.not_mem_nil, or_false] at hp'
      rcases hp' with rfl | hp | rfl
      · show _ ≠ _; simp
      · rcases mem_joined _ _ hp with ⟨x, hx, rfl⟩ | rfl
        · exact ⟨hx, Nat.zero_le _, hmem x hx⟩
        · exact List.cons_ne_nil _ _
      · exact List.cons_ne_nil _ _
    · rcases List.mem_singleton.1 (show p ∈ [Part.s [105, 110, 112, 117, 116, 40, 41]] from hp) with rfl; exact List.cons_ne_nil _ _
    · match ks, hk, hp, hmem with
      | [a], _, hp, hmem => simp [expression] at hp; simp at hmem; rcases hp with rfl | rfl | rfl <;> simp [PF, hmem]
      | [], hk, _, _ => exact absurd hk (by simp [kidsOk])
      | _ :: _ :: _, hk, _, _ => exact absurd hk (by simp [kidsOk])
    · match ks, hk, hp, hmem with
      | [a], _, hp, hmem => simp [expression] at hp; simp at hmem; rcases hp with rfl | rfl | rfl <;> simp [PF, hmem]
      | [], hk, _, _ => exact absurd hk (by simp [kidsOk])
      | _ :: _ :: _, hk, _, _ => exact absurd hk (by simp [kidsOk])
    · match ks, hk, hp, hmem with
      | [a, b], _, hp, hmem =>
        have hp' : p ∈ value a (decide (level (nodeAt nodes a) < 7)) ++ [.s [91], .k b 0, .s [93]] := hp
        rcases List.mem_append.1 hp' with hp | hp
        · exact pf_value (by simp) (hmem a (by simp)) p hp
        · simp at hp; simp at hmem; rcases hp with rfl | rfl | rfl <;> simp [PF, hmem]
      | [], hk, _, _ => exact absurd hk (by simp [kidsOk])
      | [_], hk, _, _ => exact absurd hk (by simp [kidsOk])
      | _ :: _ :: _ :: _, hk, _, _ => exact absurd hk (by simp [kidsOk])
    · match ks, hk, hp, hmem with
      | [a], _, hp, hmem =>
        have hp' : p ∈ Part.s (sign a6) :: value a (decide (level (nodeAt nodes a) < 6)) := hp
        rcases List.mem_cons.1 hp' with rfl | hp
        · have := hop rfl
          exact signs_ne a6 (by omega) (by omega)
        · exact pf_value (by simp) (hmem a (by simp)) p hp
      | [], hk, _, _ => exact absurd hk (by simp [kidsOk])
      | _ :: _ :: _, hk, _, _ => exact absurd hk (by simp [kidsOk])
    · match ks, hk, hp, hmem with
      | [a, b], _, hp, hmem =>
        have hp' : p ∈ value a (decide (level (nodeAt nodes a) < level (⟨31, a1, a2, a3, a4, a5, a6, a7, nmm, [a, b]⟩ : Nd)) || (decide (level (nodeAt nodes a) = 3) && decide (level (⟨31, a1, a2, a3, a4, a5, a6, a7, nmm, [a, b]⟩ : Nd) = 3))) ++
          (Part.s ([32] ++ sign a6 ++ [32]) :: value b (decide (level (nodeAt nodes b) ≤ level (⟨31, a1, a2, a3, a4, a5, a6, a7, nmm, [a, b]⟩ : Nd)))) := hp
        rcases List.mem_append.1 hp' with hp | hp
        · exact pf_value (by simp) (hmem a (by simp)) p hp
        · rcases List.mem_cons.1 hp with rfl | hp
          · show _ ≠ _; simp
          · exact pf_value (by simp) (hmem b (by simp)) p hp
      | [], hk, _, _ => exact absurd hk (by simp [kidsOk])
      | [_], hk, _, _ => exact absurd hk (by simp [kidsOk])
      | _ :: _ :: _ :: _, hk, _, _ => exact absurd hk (by simp [kidsOk])
end Tm
end Go.Proofs.YtllahgnpjodgmaaDoor
