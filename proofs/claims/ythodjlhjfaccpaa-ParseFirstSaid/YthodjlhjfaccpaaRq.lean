/- quernref4's Right, refused, act (any act). -/
import Derived.Test.YthodjlhjfaccpaaRo
set_option linter.unusedVariables false
namespace Go.Proofs.Ythodjlhjfaccpaa
open Go Go.RowKit Mem Pm Rf

set_option maxRecDepth 100000 in
set_option maxHeartbeats 2000000 in
theorem refRight_c (t : Tok) (hmx : t.name.size ≤ 9223372036854775807) (w : World) : Calls Try.prog 24 #[tokV t] w fun e w' => e = .returned (.bool (right t)) ∧ Fr w w' := by
  obtain ⟨k, a, v, nm⟩ := t
  unfold tokV
  by_cases h1 : k = 1
  · subst h1
    go_enter Try.func24, Try.ntmps24
    go_wp2_with fail
    refine (refIsName_c _ hmx _).mono ?_
    rintro e w' ⟨rfl, hf⟩
    go_wp2_with fail
    go_ret
    exact ⟨bool_eq (by simp [right]), ((Ch.refl _ _).alloc _).trans hf⟩
  · by_cases h2 : k = 2
    · subst h2
      go_enter Try.func24, Try.ntmps24
      go_wp2_with fail
      go_ret
      exact ⟨bool_eq (by simp [right]), (Ch.refl _ _).alloc _⟩
    · have e1 : (k == 1) = false := by simpa using h1
      have e2 : (k == 2) = false := by simpa using h2
      have hr : right ⟨k, a, v, nm⟩ = decide (10 ≤ k ∧ k ≤ 27 ∨ 40 ≤ k ∧ k ≤ 68) := by simp [right, h1, h2]
      have Hr := Lib.hid hr
      clear hr h1 h2
      go_enter Try.func24, Try.ntmps24
      go_wp2_with fail
      all_goals
        go_ret
        refine ⟨bool_eq ?_, (Ch.refl _ _).alloc _⟩
        rw [Hr.out]
        rw [Bool.eq_iff_iff]
        simp
        try omega

set_option maxRecDepth 100000 in
set_option maxHeartbeats 4000000 in
theorem refused_c (i n : Nat) (t : Tok) (w : World) : Calls Try.prog 27 #[.int .i64 (i : Int), .int .i64 (n : Int), tokV t] w fun e w' =>
    e = .returned (.tuple #[.agg #[.slice none 0 0, .slice none 0 0], .slice none 0 0, .int .i64 t.at_, .int .i64 (if i = n then 41 else 40)]) ∧ Fr w w' := by
  obtain ⟨k, a, v, nm⟩ := t
  unfold tokV
  by_cases h : i = n
  · have q : ((i : Int) == (n : Int)) = true := beq_iff_eq.2 (by omega)
    rw [if_pos h]
    clear h
    have H0 := ((Hs.start w).alloc [.int .i64 k, .int .i64 a, .int .i64 v, .string nm] 48).alloc [.slice none 0 0, .slice none 0 0] 35
    simp only [size_alloc'] at H0
    have H := Lib.hid H0
    clear H0
    go_enter Try.func27, Try.ntmps27
    go_wp2_with fail
    generalize World.alloc (World.alloc _ _) _ = W at H ⊢
    have hne : w.heap.size + 1 ≠ w.heap.size := by omega
    generalize w.heap.size + 1 = B2 at H hne ⊢
    have HS : ∀ k, k < w.heap.size → k < w.heap.size := fun _ h => h
    generalize hB1 : w.heap.size = B1 at H hne ⊢
    have c1 : W.cell? ⟨B1, 1, none⟩ = some (.int .i64 a) := H.out.cell 1 rfl 1 rfl
    have t0 : W.cell? ⟨B2, 0, none⟩ = some (.slice none 0 0) := H.out.cell 0 rfl 0 rfl
    have t1 : W.cell? ⟨B2, 1, none⟩ = some (.slice none 0 0) := H.out.cell 0 rfl 1 rfl
    have z0 := H.out.froz 0 rfl 0
    have z1 := H.out.froz 0 rfl 1
    have hne2 : B1 ≠ B2 := hne.symm
    go_region_held3 (fun w' => w'.cell? ⟨B1, 1, none⟩ = some (.int .i64 a)) (go_keep) (fail)
    go_wp2_with fail
    have h1 := ((H.out.set_ 0 rfl 0 (.slice none 0 0)).set_ 0 rfl 1 (.slice none 0 0)).drew
    have v0 := h1.cell 0 rfl 0 rfl
    have v1 := h1.cell 0 rfl 1 rfl
    refine bodyPost_ret (v := .tuple #[.agg #[.slice none 0 0, .slice none 0 0], .slice none 0 0, .int .i64 a, .int .i64 41]) (by simp [results, Try.results27, go_sem, v0, v1]) rfl ⟨rfl, ?_⟩
    have hk := h1.kp
    subst hB1
    exact ⟨hk.os, hk.tape, hk.output, hk.size, fun k hk' _ => hk.block k hk'⟩
  · have q : ((i : Int) == (n : Int)) = false := beq_eq_false_iff_ne.2 (by omega)
    rw [if_neg h]
    clear h
    have H0 := ((Hs.start w).alloc [.int .i64 k, .int .i64 a, .int .i64 v, .string nm] 48).alloc [.slice none 0 0, .slice none 0 0] 35
    simp only [size_alloc'] at H0
    have H := Lib.hid H0
    clear H0
    go_enter Try.func27, Try.ntmps27
    go_wp2_with fail
    generalize World.alloc (World.alloc _ _) _ = W at H ⊢
    have hne : w.heap.size + 1 ≠ w.heap.size := by omega
    generalize w.heap.size + 1 = B2 at H hne ⊢
    have HS : ∀ k, k < w.heap.size → k < w.heap.size := fun _ h => h
    generalize hB1 : w.heap.size = B1 at H hne ⊢
    have c1 : W.cell? ⟨B1, 1, none⟩ = some (.int .i64 a) := H.out.cell 1 rfl 1 rfl
    have t0 : W.cell? ⟨B2, 0, none⟩ = some (.slice none 0 0) := H.out.cell 0 rfl 0 rfl
    have t1 : W.cell? ⟨B2, 1, none⟩ = some (.slice none 0 0) := H.out.cell 0 rfl 1 rfl
    have z0 := H.out.froz 0 rfl 0
    have z1 := H.out.froz 0 rfl 1
    have hne2 : B1 ≠ B2 := hne.symm
    go_region_held3 (fun w' => w'.cell? ⟨B1, 1, none⟩ = some (.int .i64 a)) (go_keep) (fail)
    go_wp2_with fail
    have h1 := ((H.out.set_ 0 rfl 0 (.slice none 0 0)).set_ 0 rfl 1 (.slice none 0 0)).drew
    have v0 := h1.cell 0 rfl 0 rfl
    have v1 := h1.cell 0 rfl 1 rfl
    refine bodyPost_ret (v := .tuple #[.agg #[.slice none 0 0, .slice none 0 0], .slice none 0 0, .int .i64 a, .int .i64 40]) (by simp [results, Try.results27, go_sem, v0, v1]) rfl ⟨rfl, ?_⟩
    have hk := h1.kp
    subst hB1
    exact ⟨hk.os, hk.tape, hk.output, hk.size, fun k hk' _ => hk.block k hk'⟩

section
variable {A : Nat → Prop} {w0 w : World} {gs : Nat} {s : RS} {rest : List Res}
theorem act_c (h : RI A w0 w gs s rest) (hs : s.sz ≤ 999999000) (a : Int) (ha : 1000 ≤ a) (nx : Tok) (s' : RS) (hn : s.act a nx = some s') :
    Calls Try.prog 25 #[.pointer (some ⟨gs, 0, none⟩), .int .i64 a, tokV nx] w fun e w' => e = .returned (.tuple #[]) ∧ RI A w0 w' gs s' rest := by
  have htop : ∀ {g : Nd → Nd}, s.top g = some s' → ∃ n f r, s.marks = (n, f) :: r ∧ s' = { s with marks := (g n, f) :: r } := by
    intro g hg
    unfold RS.top at hg
    cases hm : s.marks with
    | nil => rw [hm] at hg; cases hg
    | cons x r => rw [hm] at hg; injection hg with hg; exact ⟨x.1, x.2, r, rfl, hg.symm⟩
  unfold RS.act at hn
  by_cases c1 : 6000 ≤ a
  · rw [if_pos c1] at hn
    by_cases c : a < 10000
    · rw [if_pos c] at hn; injection hn with hn; subst hn; exact act_6000 h hs nx a c1 c
    · rw [if_neg c] at hn; cases hn
  rw [if_neg c1] at hn
  by_cases c2 : 5000 ≤ a
  · rw [if_pos c2] at hn; obtain ⟨n, f, r, hm, rfl⟩ := htop hn; exact act_5000 h hs nx hm a c2 (by omega)
  rw [if_neg c2] at hn
  by_cases c3 : a = 4000
  · rw [if_pos c3] at hn
    subst c3
    by_cases c : s.nest = []
    · rw [if_pos c] at hn; cases hn
    · rw [if_neg c] at hn
      injection hn with hn
      subst hn
      have hnl : 0 < s.nest.length := by cases hh : s.nest with | nil => exact absurd hh c | cons => simp
      have hx : s.nest[s.nest.length - 1]? = some s.nest[s.nest.length - 1] := List.getElem?_eq_getElem (by omega)
      by_cases c' : s.nest[s.nest.length - 1] < s.deep + 1
      · exact act_4000_y h hs nx c (fun x hx' => by rw [hx] at hx'; injection hx' with hx'; subst hx'; exact c')
      · exact act_4000_n h hs nx c (fun x hx' => by rw [hx] at hx'; injection hx' with hx'; subst hx'; exact c')
  rw [if_neg c3] at hn
  by_cases c4 : a = 4001
  · rw [if_pos c4] at hn; subst c4; injection hn with hn; subst hn; exact act_4001 h hs nx
  rw [if_neg c4] at hn
  by_cases c5 : a = 4002
  · rw [if_pos c5] at hn; subst c5; obtain ⟨n, f, r, hm, rfl⟩ := htop hn; exact act_4002 h hs nx hm
  rw [if_neg c5] at hn
  by_cases c6 : a = 4003
  · rw [if_pos c6] at hn; subst c6; obtain ⟨n, f, r, hm, rfl⟩ := htop hn; exact act_4003 h hs nx hm
  rw [if_neg c6] at hn
  by_cases c7 : a = 4004
  · rw [if_pos c7] at hn
    subst c7
    by_cases c : 49 ≤ s.last.kind ∧ s.last.kind ≤ 67
    · rw [if_pos c] at hn; obtain ⟨n, f, r, hm, rfl⟩ := htop hn; exact act_4004 h hs nx hm c.1 c.2
    · rw [if_neg c] at hn; cases hn
  rw [if_neg c7] at hn
  by_cases c8 : a = 4005
  · rw [if_pos c8] at hn
    subst c8
    obtain ⟨n, f, r, hm, rfl⟩ := htop hn
    by_cases k1 : s.last.kind = 62
    · rw [show RS.own s.last.kind = 22 by unfold RS.own; rw [if_pos k1]]; exact act_4005_62 h hs nx hm k1
    by_cases k2 : s.last.kind = 68
    · rw [show RS.own s.last.kind = 21 by unfold RS.own; rw [if_neg k1, if_pos k2]]; exact act_4005_68 h hs nx hm k2
    · rw [show RS.own s.last.kind = 20 by unfold RS.own; rw [if_neg k1, if_neg k2]]; exact act_4005_0 h hs nx hm ⟨k2, k1⟩
  rw [if_neg c8] at hn
  by_cases c9 : a = 4006
  · rw [if_pos c9] at hn; subst c9; obtain ⟨n, f, r, hm, rfl⟩ := htop hn; exact act_4006 h hs nx hm
  rw [if_neg c9] at hn
  by_cases c10 : a = 4007
  · rw [if_pos c10] at hn; subst c10; obtain ⟨n, f, r, hm, rfl⟩ := htop hn; exact act_4007 h hs nx hm
  rw [if_neg c10] at hn
  by_cases c11 : a = 4008
  · rw [if_pos c11] at hn; subst c11; injection hn with hn; subst hn; exact act_4008 h hs nx
  rw [if_neg c11] at hn
  by_cases c12 : 3000 ≤ a
  · rw [if_pos c12] at hn
    by_cases c : a < 4000
    case neg => rw [if_neg c] at hn; cases hn
    rw [if_pos c] at hn
    cases hx : s.leftAt with
    | none => rw [hx] at hn; cases hn
    | some x =>
      rw [hx] at hn
      injection hn with hn
      subst hn
      unfold RS.leftAt at hx
      cases hw : s.wait.getLast? with
      | none => rw [hw] at hx; cases hx
      | some i =>
        rw [hw] at hx
        dsimp only at hx
        cases hnj : s.nodes[i.toNat]? with
        | none => rw [hnj] at hx; cases hx
        | some nj =>
          rw [hnj] at hx
          dsimp only at hx
          by_cases hi : 0 ≤ i
          · rw [if_pos hi] at hx
            injection hx with hx
            subst hx
            exact act_3000 h hs nx a c12 (by omega) i.toNat nj (by rw [Int.toNat_of_nonneg hi, ← List.getLast?_eq_getElem?]; exact hw) hnj
          · rw [if_neg hi] at hx; cases hx
  rw [if_neg c12] at hn
  by_cases c13 : 2000 ≤ a
  · rw [if_pos c13] at hn; injection hn with hn; subst hn; exact act_2000 h hs nx a c13 (by omega)
  rw [if_neg c13] at hn
  exact act_node h hs nx a ha (by omega) s' hn
end
end Go.Proofs.Ythodjlhjfaccpaa
