/- Each rule goes on well: printed by wip/tools/nx.py. No program here. -/
import Derived.Test.YthodjlhjfaccpaaPx
set_option linter.unusedVariables false
set_option linter.unusedSimpArgs false
namespace Go.Proofs.Ythodjlhjfaccpaa
open Go
namespace Pm
variable {s s' : PS} {x : Sym} {r : List Sym}
theorem topF_cons (f : Nat) (F : List Nat) : topF (f :: F) = f := rfl
theorem enter_len (t : PS) : t.enter.nest.length = t.nest.length := maxLast_len _ _
theorem open_enter (t : PS) : t.enter.open_.natAbs ≤ t.open_.natAbs + 1 := by simp only [PS.enter]; omega
theorem open_leave (t : PS) : t.leave.open_.natAbs ≤ t.open_.natAbs + 1 := by simp only [PS.leave]; omega
theorem open_both (t : PS) : (t.open_ + 1 - 1).natAbs = t.open_.natAbs := by omega

theorem bind_ok {α β : Type} {m : M α} {f : α → M β} {y : β} (h : (m >>= f) = .ok y) : ∃ x, m = .ok x ∧ f x = .ok y := by
  cases m with
  | error e => cases h
  | ok x => exact ⟨x, rfl, h⟩
theorem pure_ok {α : Type} {x y : α} (h : (pure x : M α) = .ok y) : x = y := by injection h
theorem opened_ok {t : PS} {k : Int} (hk : k ≠ 0) (h : t.opened k = .ok s') : s' = t.skip.enter ∧ t.at_ < t.toks.length := by
  obtain ⟨s1, h1, h⟩ := bind_ok h
  obtain ⟨_, rfl, l1⟩ := expect_ok hk h1
  exact ⟨(pure_ok h).symm, l1⟩
theorem closed_ok {t : PS} (h : t.closed = .ok s') : s' = t.skip.leave ∧ t.at_ < t.toks.length := by
  obtain ⟨s1, h1, h⟩ := bind_ok h
  obtain ⟨_, rfl, l1⟩ := expect_ok (by decide) h1
  exact ⟨(pure_ok h).symm, l1⟩
theorem shut_ok {t : PS} (h : t.shut = .ok s') : s' = t.skip.leave ∧ t.at_ < t.toks.length := by
  obtain ⟨s1, h1, h⟩ := bind_ok h
  obtain ⟨_, rfl, l1⟩ := expect_ok (by decide) h1
  exact ⟨(pure_ok h).symm, l1⟩

theorem nx_expression (inv : Inv s) (hs : s.todo = .expression :: r) (h : ({ s with todo := r } : PS).rule .expression = .ok s') : Nx s s' := by
  have hg := inv.good
  rw [hs] at hg
  simp only [Good] at hg
  have hn := inv.nest_of hs rfl
  injection h with h
  subst h
  refine Nx.mk' hs inv [.both, .either] [] 0 0 0 0 rfl rfl rfl rfl rfl (by have := inv.le; omega) rfl rfl rfl rfl rfl (Nat.le_refl _) (.inl hn) inv.loose ?_ (by decide) (by decide)
  simp only [List.cons_append, List.nil_append, Good, topF_cons, Nat.add_zero]
  first | exact hg | (repeat' apply And.intro) <;> first | omega | exact hg.2 | exact hg | exact ⟨_, _, rfl, by omega, hg.2⟩ | exact ⟨_, _, rfl, by omega, hg⟩ | exact fun m hm => ⟨_, _, rfl, by omega, hg.2⟩ | exact fun m hm => ⟨_, _, rfl, by omega, _, _, rfl, by omega, hg.2⟩ | exact ⟨_, _, rfl, by omega, by omega, hg.2⟩ | exact ⟨_, _, rfl, by omega, by omega, by rw [Nat.sub_add_cancel (by omega)]; exact hg.2⟩ | exact ⟨_, _, rfl, by omega, hgd⟩ | exact hg.2 _ (by omega) | exact fun m hm => hg.2 _ (by omega) | exact hg.2 _ (Nat.le_refl _)

theorem nx_both (inv : Inv s) (hs : s.todo = .both :: r) (h : ({ s with todo := r } : PS).rule .both = .ok s') : Nx s s' := by
  have hg := inv.good
  rw [hs] at hg
  simp only [Good] at hg
  have hn := inv.nest_of hs rfl
  injection h with h
  subst h
  refine Nx.mk' hs inv [.compared, .andMore] [] 0 0 0 0 rfl rfl rfl rfl rfl (by have := inv.le; omega) rfl rfl rfl rfl rfl (Nat.le_refl _) (.inl hn) inv.loose ?_ (by decide) (by decide)
  simp only [List.cons_append, List.nil_append, Good, topF_cons, Nat.add_zero]
  first | exact hg | (repeat' apply And.intro) <;> first | omega | exact hg.2 | exact hg | exact ⟨_, _, rfl, by omega, hg.2⟩ | exact ⟨_, _, rfl, by omega, hg⟩ | exact fun m hm => ⟨_, _, rfl, by omega, hg.2⟩ | exact fun m hm => ⟨_, _, rfl, by omega, _, _, rfl, by omega, hg.2⟩ | exact ⟨_, _, rfl, by omega, by omega, hg.2⟩ | exact ⟨_, _, rfl, by omega, by omega, by rw [Nat.sub_add_cancel (by omega)]; exact hg.2⟩ | exact ⟨_, _, rfl, by omega, hgd⟩ | exact hg.2 _ (by omega) | exact fun m hm => hg.2 _ (by omega) | exact hg.2 _ (Nat.le_refl _)

theorem nx_compared (inv : Inv s) (hs : s.todo = .compared :: r) (h : ({ s with todo := r } : PS).rule .compared = .ok s') : Nx s s' := by
  have hg := inv.good
  rw [hs] at hg
  simp only [Good] at hg
  have hn := inv.nest_of hs rfl
  injection h with h
  subst h
  refine Nx.mk' hs inv [.sum, .compare] [] 0 0 0 0 rfl rfl rfl rfl rfl (by have := inv.le; omega) rfl rfl rfl rfl rfl (Nat.le_refl _) (.inl hn) inv.loose ?_ (by decide) (by decide)
  simp only [List.cons_append, List.nil_append, Good, topF_cons, Nat.add_zero]
  first | exact hg | (repeat' apply And.intro) <;> first | omega | exact hg.2 | exact hg | exact ⟨_, _, rfl, by omega, hg.2⟩ | exact ⟨_, _, rfl, by omega, hg⟩ | exact fun m hm => ⟨_, _, rfl, by omega, hg.2⟩ | exact fun m hm => ⟨_, _, rfl, by omega, _, _, rfl, by omega, hg.2⟩ | exact ⟨_, _, rfl, by omega, by omega, hg.2⟩ | exact ⟨_, _, rfl, by omega, by omega, by rw [Nat.sub_add_cancel (by omega)]; exact hg.2⟩ | exact ⟨_, _, rfl, by omega, hgd⟩ | exact hg.2 _ (by omega) | exact fun m hm => hg.2 _ (by omega) | exact hg.2 _ (Nat.le_refl _)

theorem nx_sum (inv : Inv s) (hs : s.todo = .sum :: r) (h : ({ s with todo := r } : PS).rule .sum = .ok s') : Nx s s' := by
  have hg := inv.good
  rw [hs] at hg
  simp only [Good] at hg
  have hn := inv.nest_of hs rfl
  injection h with h
  subst h
  refine Nx.mk' hs inv [.product, .sumMore] [] 0 0 0 0 rfl rfl rfl rfl rfl (by have := inv.le; omega) rfl rfl rfl rfl rfl (Nat.le_refl _) (.inl hn) inv.loose ?_ (by decide) (by decide)
  simp only [List.cons_append, List.nil_append, Good, topF_cons, Nat.add_zero]
  first | exact hg | (repeat' apply And.intro) <;> first | omega | exact hg.2 | exact hg | exact ⟨_, _, rfl, by omega, hg.2⟩ | exact ⟨_, _, rfl, by omega, hg⟩ | exact fun m hm => ⟨_, _, rfl, by omega, hg.2⟩ | exact fun m hm => ⟨_, _, rfl, by omega, _, _, rfl, by omega, hg.2⟩ | exact ⟨_, _, rfl, by omega, by omega, hg.2⟩ | exact ⟨_, _, rfl, by omega, by omega, by rw [Nat.sub_add_cancel (by omega)]; exact hg.2⟩ | exact ⟨_, _, rfl, by omega, hgd⟩ | exact hg.2 _ (by omega) | exact fun m hm => hg.2 _ (by omega) | exact hg.2 _ (Nat.le_refl _)

theorem nx_product (inv : Inv s) (hs : s.todo = .product :: r) (h : ({ s with todo := r } : PS).rule .product = .ok s') : Nx s s' := by
  have hg := inv.good
  rw [hs] at hg
  simp only [Good] at hg
  have hn := inv.nest_of hs rfl
  injection h with h
  subst h
  refine Nx.mk' hs inv [.signed, .productMore] [] 0 0 0 0 rfl rfl rfl rfl rfl (by have := inv.le; omega) rfl rfl rfl rfl rfl (Nat.le_refl _) (.inl hn) inv.loose ?_ (by decide) (by decide)
  simp only [List.cons_append, List.nil_append, Good, topF_cons, Nat.add_zero]
  first | exact hg | (repeat' apply And.intro) <;> first | omega | exact hg.2 | exact hg | exact ⟨_, _, rfl, by omega, hg.2⟩ | exact ⟨_, _, rfl, by omega, hg⟩ | exact fun m hm => ⟨_, _, rfl, by omega, hg.2⟩ | exact fun m hm => ⟨_, _, rfl, by omega, _, _, rfl, by omega, hg.2⟩ | exact ⟨_, _, rfl, by omega, by omega, hg.2⟩ | exact ⟨_, _, rfl, by omega, by omega, by rw [Nat.sub_add_cancel (by omega)]; exact hg.2⟩ | exact ⟨_, _, rfl, by omega, hgd⟩ | exact hg.2 _ (by omega) | exact fun m hm => hg.2 _ (by omega) | exact hg.2 _ (Nat.le_refl _)

theorem nx_nothing (inv : Inv s) (hs : s.todo = .nothing :: r) (h : ({ s with todo := r } : PS).rule .nothing = .ok s') : Nx s s' := by
  have hg := inv.good
  rw [hs] at hg
  simp only [Good] at hg
  have hn := inv.nest_of hs rfl
  injection h with h
  subst h
  refine Nx.mk' hs inv [] [] 0 0 0 0 rfl rfl rfl rfl rfl (by have := inv.le; omega) rfl rfl rfl rfl rfl (Nat.le_refl _) (.inl hn) inv.loose ?_ (by decide) (by decide)
  simp only [List.cons_append, List.nil_append, Good, topF_cons, Nat.add_zero]
  first | exact hg | (repeat' apply And.intro) <;> first | omega | exact hg.2 | exact hg | exact ⟨_, _, rfl, by omega, hg.2⟩ | exact ⟨_, _, rfl, by omega, hg⟩ | exact fun m hm => ⟨_, _, rfl, by omega, hg.2⟩ | exact fun m hm => ⟨_, _, rfl, by omega, _, _, rfl, by omega, hg.2⟩ | exact ⟨_, _, rfl, by omega, by omega, hg.2⟩ | exact ⟨_, _, rfl, by omega, by omega, by rw [Nat.sub_add_cancel (by omega)]; exact hg.2⟩ | exact ⟨_, _, rfl, by omega, hgd⟩ | exact hg.2 _ (by omega) | exact fun m hm => hg.2 _ (by omega) | exact hg.2 _ (Nat.le_refl _)

theorem nx_leave (inv : Inv s) (hs : s.todo = .leave :: r) (h : ({ s with todo := r } : PS).rule .leave = .ok s') : Nx s s' := by
  have hg := inv.good
  rw [hs] at hg
  simp only [Good] at hg
  have hn := inv.nest_of hs rfl
  injection h with h
  subst h
  refine Nx.mk' hs inv [] [] 0 1 0 0 rfl rfl rfl rfl rfl (by have := inv.le; omega) rfl rfl rfl rfl rfl (open_leave _) (.inl hn) inv.loose ?_ (by decide) (by decide)
  simp only [List.cons_append, List.nil_append, Good, topF_cons, Nat.add_zero]
  first | exact hg | (repeat' apply And.intro) <;> first | omega | exact hg.2 | exact hg | exact ⟨_, _, rfl, by omega, hg.2⟩ | exact ⟨_, _, rfl, by omega, hg⟩ | exact fun m hm => ⟨_, _, rfl, by omega, hg.2⟩ | exact fun m hm => ⟨_, _, rfl, by omega, _, _, rfl, by omega, hg.2⟩ | exact ⟨_, _, rfl, by omega, by omega, hg.2⟩ | exact ⟨_, _, rfl, by omega, by omega, by rw [Nat.sub_add_cancel (by omega)]; exact hg.2⟩ | exact ⟨_, _, rfl, by omega, hgd⟩ | exact hg.2 _ (by omega) | exact fun m hm => hg.2 _ (by omega) | exact hg.2 _ (Nat.le_refl _)

theorem nx_semi (inv : Inv s) (hs : s.todo = .semi :: r) (h : ({ s with todo := r } : PS).rule .semi = .ok s') : Nx s s' := by
  have hg := inv.good
  rw [hs] at hg
  simp only [Good] at hg
  have hn := inv.nest_of hs rfl
  obtain ⟨_, rfl, l1⟩ := expect_ok (by decide) h
  refine Nx.mk' hs inv [] [] 1 0 0 0 rfl rfl rfl rfl rfl l1 rfl rfl rfl rfl rfl (Nat.le_refl _) (.inl hn) inv.loose ?_ (by decide) (by decide)
  simp only [List.cons_append, List.nil_append, Good, topF_cons, Nat.add_zero]
  first | exact hg | (repeat' apply And.intro) <;> first | omega | exact hg.2 | exact hg | exact ⟨_, _, rfl, by omega, hg.2⟩ | exact ⟨_, _, rfl, by omega, hg⟩ | exact fun m hm => ⟨_, _, rfl, by omega, hg.2⟩ | exact fun m hm => ⟨_, _, rfl, by omega, _, _, rfl, by omega, hg.2⟩ | exact ⟨_, _, rfl, by omega, by omega, hg.2⟩ | exact ⟨_, _, rfl, by omega, by omega, by rw [Nat.sub_add_cancel (by omega)]; exact hg.2⟩ | exact ⟨_, _, rfl, by omega, hgd⟩ | exact hg.2 _ (by omega) | exact fun m hm => hg.2 _ (by omega) | exact hg.2 _ (Nat.le_refl _)

theorem nx_set (inv : Inv s) (hs : s.todo = .set :: r) (h : ({ s with todo := r } : PS).rule .set = .ok s') : Nx s s' := by
  have hg := inv.good
  rw [hs] at hg
  simp only [Good] at hg
  have hn := inv.nest_of hs rfl
  obtain ⟨_, rfl, l1⟩ := expect_ok (by decide) h
  refine Nx.mk' hs inv [] [] 1 0 0 0 rfl rfl rfl rfl rfl l1 rfl rfl rfl rfl rfl (Nat.le_refl _) (.inl hn) inv.loose ?_ (by decide) (by decide)
  simp only [List.cons_append, List.nil_append, Good, topF_cons, Nat.add_zero]
  first | exact hg | (repeat' apply And.intro) <;> first | omega | exact hg.2 | exact hg | exact ⟨_, _, rfl, by omega, hg.2⟩ | exact ⟨_, _, rfl, by omega, hg⟩ | exact fun m hm => ⟨_, _, rfl, by omega, hg.2⟩ | exact fun m hm => ⟨_, _, rfl, by omega, _, _, rfl, by omega, hg.2⟩ | exact ⟨_, _, rfl, by omega, by omega, hg.2⟩ | exact ⟨_, _, rfl, by omega, by omega, by rw [Nat.sub_add_cancel (by omega)]; exact hg.2⟩ | exact ⟨_, _, rfl, by omega, hgd⟩ | exact hg.2 _ (by omega) | exact fun m hm => hg.2 _ (by omega) | exact hg.2 _ (Nat.le_refl _)

theorem nx_closed (inv : Inv s) (hs : s.todo = .closed :: r) (h : ({ s with todo := r } : PS).rule .closed = .ok s') : Nx s s' := by
  have hg := inv.good
  rw [hs] at hg
  simp only [Good] at hg
  have hn := inv.nest_of hs rfl
  obtain ⟨rfl, l1⟩ := closed_ok h
  refine Nx.mk' hs inv [] [] 1 1 0 0 rfl rfl rfl rfl rfl l1 rfl rfl rfl rfl rfl (open_leave _) (.inl hn) inv.loose ?_ (by decide) (by decide)
  simp only [List.cons_append, List.nil_append, Good, topF_cons, Nat.add_zero]
  first | exact hg | (repeat' apply And.intro) <;> first | omega | exact hg.2 | exact hg | exact ⟨_, _, rfl, by omega, hg.2⟩ | exact ⟨_, _, rfl, by omega, hg⟩ | exact fun m hm => ⟨_, _, rfl, by omega, hg.2⟩ | exact fun m hm => ⟨_, _, rfl, by omega, _, _, rfl, by omega, hg.2⟩ | exact ⟨_, _, rfl, by omega, by omega, hg.2⟩ | exact ⟨_, _, rfl, by omega, by omega, by rw [Nat.sub_add_cancel (by omega)]; exact hg.2⟩ | exact ⟨_, _, rfl, by omega, hgd⟩ | exact hg.2 _ (by omega) | exact fun m hm => hg.2 _ (by omega) | exact hg.2 _ (Nat.le_refl _)

theorem nx_shut (inv : Inv s) (hs : s.todo = .shut :: r) (h : ({ s with todo := r } : PS).rule .shut = .ok s') : Nx s s' := by
  have hg := inv.good
  rw [hs] at hg
  simp only [Good] at hg
  have hn := inv.nest_of hs rfl
  obtain ⟨rfl, l1⟩ := shut_ok h
  refine Nx.mk' hs inv [] [] 1 1 0 0 rfl rfl rfl rfl rfl l1 rfl rfl rfl rfl rfl (open_leave _) (.inl hn) inv.loose ?_ (by decide) (by decide)
  simp only [List.cons_append, List.nil_append, Good, topF_cons, Nat.add_zero]
  first | exact hg | (repeat' apply And.intro) <;> first | omega | exact hg.2 | exact hg | exact ⟨_, _, rfl, by omega, hg.2⟩ | exact ⟨_, _, rfl, by omega, hg⟩ | exact fun m hm => ⟨_, _, rfl, by omega, hg.2⟩ | exact fun m hm => ⟨_, _, rfl, by omega, _, _, rfl, by omega, hg.2⟩ | exact ⟨_, _, rfl, by omega, by omega, hg.2⟩ | exact ⟨_, _, rfl, by omega, by omega, by rw [Nat.sub_add_cancel (by omega)]; exact hg.2⟩ | exact ⟨_, _, rfl, by omega, hgd⟩ | exact hg.2 _ (by omega) | exact fun m hm => hg.2 _ (by omega) | exact hg.2 _ (Nat.le_refl _)

theorem nx_block (inv : Inv s) (hs : s.todo = .block :: r) (h : ({ s with todo := r } : PS).rule .block = .ok s') : Nx s s' := by
  have hg := inv.good
  rw [hs] at hg
  simp only [Good] at hg
  have hn := inv.nest_of hs rfl
  obtain ⟨⟨tk1, u1⟩, h1, h⟩ := bind_ok h
  obtain ⟨_, rfl, rfl, l1⟩ := take_ok (by decide) h1
  replace h := h
  obtain rfl := pure_ok h
  refine Nx.mk' hs inv [.statements] [s.loose.length] 1 1 0 1 rfl rfl rfl rfl rfl (by first | exact l1 | exact l2 | exact l3) rfl rfl rfl (enter_len _) rfl (open_enter _) (.inl hn) inv.loose ?_ (by decide) (by decide)
  simp only [List.cons_append, List.nil_append, Good, topF_cons, Nat.add_zero]
  first | exact hg | (repeat' apply And.intro) <;> first | omega | exact hg.2 | exact hg | exact ⟨_, _, rfl, by omega, hg.2⟩ | exact ⟨_, _, rfl, by omega, hg⟩ | exact fun m hm => ⟨_, _, rfl, by omega, hg.2⟩ | exact fun m hm => ⟨_, _, rfl, by omega, _, _, rfl, by omega, hg.2⟩ | exact ⟨_, _, rfl, by omega, by omega, hg.2⟩ | exact ⟨_, _, rfl, by omega, by omega, by rw [Nat.sub_add_cancel (by omega)]; exact hg.2⟩ | exact ⟨_, _, rfl, by omega, hgd⟩ | exact hg.2 _ (by omega) | exact fun m hm => hg.2 _ (by omega) | exact hg.2 _ (Nat.le_refl _)

theorem nx_condition (inv : Inv s) (hs : s.todo = .condition :: r) (h : ({ s with todo := r } : PS).rule .condition = .ok s') : Nx s s' := by
  have hg := inv.good
  rw [hs] at hg
  simp only [Good] at hg
  have hn := inv.nest_of hs rfl
  obtain ⟨⟨tk1, u1⟩, h1, h⟩ := bind_ok h
  obtain ⟨_, rfl, rfl, l1⟩ := take_ok (by decide) h1
  replace h := h
  obtain rfl := pure_ok h
  refine Nx.mk' hs inv [.expression, .block, .otherwise] [s.loose.length] 1 0 0 1 rfl rfl rfl rfl rfl (by first | exact l1 | exact l2 | exact l3) rfl rfl rfl rfl rfl (Nat.le_refl _) (.inl hn) inv.loose ?_ (by decide) (by decide)
  simp only [List.cons_append, List.nil_append, Good, topF_cons, Nat.add_zero]
  first | exact hg | (repeat' apply And.intro) <;> first | omega | exact hg.2 | exact hg | exact ⟨_, _, rfl, by omega, hg.2⟩ | exact ⟨_, _, rfl, by omega, hg⟩ | exact fun m hm => ⟨_, _, rfl, by omega, hg.2⟩ | exact fun m hm => ⟨_, _, rfl, by omega, _, _, rfl, by omega, hg.2⟩ | exact ⟨_, _, rfl, by omega, by omega, hg.2⟩ | exact ⟨_, _, rfl, by omega, by omega, by rw [Nat.sub_add_cancel (by omega)]; exact hg.2⟩ | exact ⟨_, _, rfl, by omega, hgd⟩ | exact hg.2 _ (by omega) | exact fun m hm => hg.2 _ (by omega) | exact hg.2 _ (Nat.le_refl _)

theorem nx_loop (inv : Inv s) (hs : s.todo = .statement :: r) (h : ({ s with todo := r } : PS).loop = .ok s') : Nx s s' := by
  have hg := inv.good
  rw [hs] at hg
  simp only [Good] at hg
  have hn := inv.nest_of hs rfl
  obtain ⟨⟨tk1, u1⟩, h1, h⟩ := bind_ok h
  obtain ⟨_, rfl, rfl, l1⟩ := take_ok (by decide) h1
  replace h := h
  dsimp only at h
  split at h
  · obtain rfl := pure_ok h
    refine Nx.mk' hs inv [.block, .done] [s.loose.length] 1 0 0 1 rfl rfl rfl rfl rfl (by first | exact l1 | exact l2 | exact l3) rfl rfl rfl rfl rfl (Nat.le_refl _) (.inl hn) inv.loose ?_ (by decide) (by decide)
    simp only [List.cons_append, List.nil_append, Good, topF_cons, Nat.add_zero]
    first | exact hg | (repeat' apply And.intro) <;> first | omega | exact hg.2 | exact hg | exact ⟨_, _, rfl, by omega, hg.2⟩ | exact ⟨_, _, rfl, by omega, hg⟩ | exact fun m hm => ⟨_, _, rfl, by omega, hg.2⟩ | exact fun m hm => ⟨_, _, rfl, by omega, _, _, rfl, by omega, hg.2⟩ | exact ⟨_, _, rfl, by omega, by omega, hg.2⟩ | exact ⟨_, _, rfl, by omega, by omega, by rw [Nat.sub_add_cancel (by omega)]; exact hg.2⟩ | exact ⟨_, _, rfl, by omega, hgd⟩ | exact hg.2 _ (by omega) | exact fun m hm => hg.2 _ (by omega) | exact hg.2 _ (Nat.le_refl _)
  · obtain rfl := pure_ok h
    refine Nx.mk' hs inv [.expression, .block, .done] [s.loose.length] 1 0 0 1 rfl rfl rfl rfl rfl (by first | exact l1 | exact l2 | exact l3) rfl rfl rfl rfl rfl (Nat.le_refl _) (.inl hn) inv.loose ?_ (by decide) (by decide)
    simp only [List.cons_append, List.nil_append, Good, topF_cons, Nat.add_zero]
    first | exact hg | (repeat' apply And.intro) <;> first | omega | exact hg.2 | exact hg | exact ⟨_, _, rfl, by omega, hg.2⟩ | exact ⟨_, _, rfl, by omega, hg⟩ | exact fun m hm => ⟨_, _, rfl, by omega, hg.2⟩ | exact fun m hm => ⟨_, _, rfl, by omega, _, _, rfl, by omega, hg.2⟩ | exact ⟨_, _, rfl, by omega, by omega, hg.2⟩ | exact ⟨_, _, rfl, by omega, by omega, by rw [Nat.sub_add_cancel (by omega)]; exact hg.2⟩ | exact ⟨_, _, rfl, by omega, hgd⟩ | exact hg.2 _ (by omega) | exact fun m hm => hg.2 _ (by omega) | exact hg.2 _ (Nat.le_refl _)

theorem nx_returned (inv : Inv s) (hs : s.todo = .statement :: r) (h : ({ s with todo := r } : PS).returned = .ok s') : Nx s s' := by
  have hg := inv.good
  rw [hs] at hg
  simp only [Good] at hg
  have hn := inv.nest_of hs rfl
  obtain ⟨⟨tk1, u1⟩, h1, h⟩ := bind_ok h
  obtain ⟨_, rfl, rfl, l1⟩ := take_ok (by decide) h1
  replace h := h
  dsimp only at h
  split at h
  · obtain rfl := pure_ok h
    refine Nx.mk' hs inv [.semi, .done] [s.loose.length] 1 0 0 1 rfl rfl rfl rfl rfl (by first | exact l1 | exact l2 | exact l3) rfl rfl rfl rfl rfl (Nat.le_refl _) (.inl hn) inv.loose ?_ (by decide) (by decide)
    simp only [List.cons_append, List.nil_append, Good, topF_cons, Nat.add_zero]
    first | exact hg | (repeat' apply And.intro) <;> first | omega | exact hg.2 | exact hg | exact ⟨_, _, rfl, by omega, hg.2⟩ | exact ⟨_, _, rfl, by omega, hg⟩ | exact fun m hm => ⟨_, _, rfl, by omega, hg.2⟩ | exact fun m hm => ⟨_, _, rfl, by omega, _, _, rfl, by omega, hg.2⟩ | exact ⟨_, _, rfl, by omega, by omega, hg.2⟩ | exact ⟨_, _, rfl, by omega, by omega, by rw [Nat.sub_add_cancel (by omega)]; exact hg.2⟩ | exact ⟨_, _, rfl, by omega, hgd⟩ | exact hg.2 _ (by omega) | exact fun m hm => hg.2 _ (by omega) | exact hg.2 _ (Nat.le_refl _)
  · obtain rfl := pure_ok h
    refine Nx.mk' hs inv [.expression, .semi, .done] [s.loose.length] 1 0 0 1 rfl rfl rfl rfl rfl (by first | exact l1 | exact l2 | exact l3) rfl rfl rfl rfl rfl (Nat.le_refl _) (.inl hn) inv.loose ?_ (by decide) (by decide)
    simp only [List.cons_append, List.nil_append, Good, topF_cons, Nat.add_zero]
    first | exact hg | (repeat' apply And.intro) <;> first | omega | exact hg.2 | exact hg | exact ⟨_, _, rfl, by omega, hg.2⟩ | exact ⟨_, _, rfl, by omega, hg⟩ | exact fun m hm => ⟨_, _, rfl, by omega, hg.2⟩ | exact fun m hm => ⟨_, _, rfl, by omega, _, _, rfl, by omega, hg.2⟩ | exact ⟨_, _, rfl, by omega, by omega, hg.2⟩ | exact ⟨_, _, rfl, by omega, by omega, by rw [Nat.sub_add_cancel (by omega)]; exact hg.2⟩ | exact ⟨_, _, rfl, by omega, hgd⟩ | exact hg.2 _ (by omega) | exact fun m hm => hg.2 _ (by omega) | exact hg.2 _ (Nat.le_refl _)

theorem nx_condition_ (inv : Inv s) (hs : s.todo = .statement :: r) (h : ({ s with todo := r } : PS).condition = .ok s') : Nx s s' := by
  have hg := inv.good
  rw [hs] at hg
  simp only [Good] at hg
  have hn := inv.nest_of hs rfl
  obtain ⟨⟨tk1, u1⟩, h1, h⟩ := bind_ok h
  obtain ⟨_, rfl, rfl, l1⟩ := take_ok (by decide) h1
  replace h := h
  obtain rfl := pure_ok h
  refine Nx.mk' hs inv [.expression, .block, .otherwise] [s.loose.length] 1 0 0 1 rfl rfl rfl rfl rfl (by first | exact l1 | exact l2 | exact l3) rfl rfl rfl rfl rfl (Nat.le_refl _) (.inl hn) inv.loose ?_ (by decide) (by decide)
  simp only [List.cons_append, List.nil_append, Good, topF_cons, Nat.add_zero]
  first | exact hg | (repeat' apply And.intro) <;> first | omega | exact hg.2 | exact hg | exact ⟨_, _, rfl, by omega, hg.2⟩ | exact ⟨_, _, rfl, by omega, hg⟩ | exact fun m hm => ⟨_, _, rfl, by omega, hg.2⟩ | exact fun m hm => ⟨_, _, rfl, by omega, _, _, rfl, by omega, hg.2⟩ | exact ⟨_, _, rfl, by omega, by omega, hg.2⟩ | exact ⟨_, _, rfl, by omega, by omega, by rw [Nat.sub_add_cancel (by omega)]; exact hg.2⟩ | exact ⟨_, _, rfl, by omega, hgd⟩ | exact hg.2 _ (by omega) | exact fun m hm => hg.2 _ (by omega) | exact hg.2 _ (Nat.le_refl _)

theorem nx_word (inv : Inv s) (hs : s.todo = .statement :: r) (k : Int) (hk : s.kind ≠ 0) : Nx s (({ s with todo := r } : PS).word k) := by
  have hg := inv.good
  rw [hs] at hg
  simp only [Good] at hg
  have hn := inv.nest_of hs rfl
  have l1 := kind_lt hk
  refine Nx.mk' hs inv [.semi, .done] [s.loose.length] 1 0 0 1 rfl rfl rfl rfl rfl l1 rfl rfl rfl rfl rfl (Nat.le_refl _) (.inl hn) inv.loose ?_ (by decide) (by decide)
  simp only [List.cons_append, List.nil_append, Good, topF_cons, Nat.add_zero]
  first | exact hg | (repeat' apply And.intro) <;> first | omega | exact hg.2 | exact hg | exact ⟨_, _, rfl, by omega, hg.2⟩ | exact ⟨_, _, rfl, by omega, hg⟩ | exact fun m hm => ⟨_, _, rfl, by omega, hg.2⟩ | exact fun m hm => ⟨_, _, rfl, by omega, _, _, rfl, by omega, hg.2⟩ | exact ⟨_, _, rfl, by omega, by omega, hg.2⟩ | exact ⟨_, _, rfl, by omega, by omega, by rw [Nat.sub_add_cancel (by omega)]; exact hg.2⟩ | exact ⟨_, _, rfl, by omega, hgd⟩ | exact hg.2 _ (by omega) | exact fun m hm => hg.2 _ (by omega) | exact hg.2 _ (Nat.le_refl _)

theorem nx_told (inv : Inv s) (hs : s.todo = .statement :: r) (k : Int) (hk : s.kind ≠ 0) (h : ({ s with todo := r } : PS).told k = .ok s') : Nx s s' := by
  have hg := inv.good
  rw [hs] at hg
  simp only [Good] at hg
  have hn := inv.nest_of hs rfl
  have l1 := kind_lt hk
  obtain ⟨u2, h2, h⟩ := bind_ok h
  obtain ⟨rfl, l2⟩ := opened_ok (by decide) h2
  obtain rfl := pure_ok h
  refine Nx.mk' hs inv [.expression, .closed, .semi, .done] [s.loose.length] 2 1 0 1 rfl rfl rfl rfl rfl l2 rfl rfl rfl (enter_len _) rfl (open_enter _) (.inl hn) inv.loose ?_ (by decide) (by decide)
  simp only [List.cons_append, List.nil_append, Good, topF_cons, Nat.add_zero]
  first | exact hg | (repeat' apply And.intro) <;> first | omega | exact hg.2 | exact hg | exact ⟨_, _, rfl, by omega, hg.2⟩ | exact ⟨_, _, rfl, by omega, hg⟩ | exact fun m hm => ⟨_, _, rfl, by omega, hg.2⟩ | exact fun m hm => ⟨_, _, rfl, by omega, _, _, rfl, by omega, hg.2⟩ | exact ⟨_, _, rfl, by omega, by omega, hg.2⟩ | exact ⟨_, _, rfl, by omega, by omega, by rw [Nat.sub_add_cancel (by omega)]; exact hg.2⟩ | exact ⟨_, _, rfl, by omega, hgd⟩ | exact hg.2 _ (by omega) | exact fun m hm => hg.2 _ (by omega) | exact hg.2 _ (Nat.le_refl _)

theorem nx_named (inv : Inv s) (hs : s.todo = .statement :: r) (h : ({ s with todo := r } : PS).named = .ok s') : Nx s s' := by
  have hg := inv.good
  rw [hs] at hg
  simp only [Good] at hg
  have hn := inv.nest_of hs rfl
  obtain ⟨⟨tk1, u1⟩, h1, h⟩ := bind_ok h
  obtain ⟨_, rfl, rfl, l1⟩ := take_ok (by decide) h1
  replace h := h
  dsimp only at h
  split at h
  case isTrue hk =>
    have l2 := kind_lt (s := ({ s with todo := r } : PS).skip) (by rw [hk]; decide)
    obtain rfl := pure_ok h
    refine Nx.mk' hs inv [.expression, .semi, .done] [s.loose.length] 2 0 0 1 rfl rfl rfl rfl rfl l2 rfl rfl rfl rfl rfl (Nat.le_refl _) (.inl hn) inv.loose ?_ (by decide) (by decide)
    simp only [List.cons_append, List.nil_append, Good, topF_cons, Nat.add_zero]
    first | exact hg | (repeat' apply And.intro) <;> first | omega | exact hg.2 | exact hg | exact ⟨_, _, rfl, by omega, hg.2⟩ | exact ⟨_, _, rfl, by omega, hg⟩ | exact fun m hm => ⟨_, _, rfl, by omega, hg.2⟩ | exact fun m hm => ⟨_, _, rfl, by omega, _, _, rfl, by omega, hg.2⟩ | exact ⟨_, _, rfl, by omega, by omega, hg.2⟩ | exact ⟨_, _, rfl, by omega, by omega, by rw [Nat.sub_add_cancel (by omega)]; exact hg.2⟩ | exact ⟨_, _, rfl, by omega, hgd⟩ | exact hg.2 _ (by omega) | exact fun m hm => hg.2 _ (by omega) | exact hg.2 _ (Nat.le_refl _)
  case isFalse =>
    split at h
    · obtain ⟨u2, h2, h⟩ := bind_ok h
      obtain ⟨rfl, l2⟩ := opened_ok (by decide) h2
      obtain rfl := pure_ok h
      refine Nx.mk' hs inv [.expression, .shut, .set, .expression, .semi, .done] [s.loose.length] 2 1 0 1 rfl rfl rfl rfl rfl l2 rfl rfl rfl (enter_len _) rfl (open_enter _) (.inl hn) inv.loose ?_ (by decide) (by decide)
      simp only [List.cons_append, List.nil_append, Good, topF_cons, Nat.add_zero]
      first | exact hg | (repeat' apply And.intro) <;> first | omega | exact hg.2 | exact hg | exact ⟨_, _, rfl, by omega, hg.2⟩ | exact ⟨_, _, rfl, by omega, hg⟩ | exact fun m hm => ⟨_, _, rfl, by omega, hg.2⟩ | exact fun m hm => ⟨_, _, rfl, by omega, _, _, rfl, by omega, hg.2⟩ | exact ⟨_, _, rfl, by omega, by omega, hg.2⟩ | exact ⟨_, _, rfl, by omega, by omega, by rw [Nat.sub_add_cancel (by omega)]; exact hg.2⟩ | exact ⟨_, _, rfl, by omega, hgd⟩ | exact hg.2 _ (by omega) | exact fun m hm => hg.2 _ (by omega) | exact hg.2 _ (Nat.le_refl _)
    · obtain ⟨u2, h2, h⟩ := bind_ok h
      obtain ⟨rfl, l2⟩ := opened_ok (by decide) h2
      obtain rfl := pure_ok h
      refine Nx.mk' hs inv [.arguments, .done, .semi, .done] [s.loose.length, s.loose.length] 2 1 0 2 rfl rfl rfl rfl rfl l2 rfl rfl rfl (enter_len _) rfl (open_enter _) (.inl hn) inv.loose ?_ (by decide) (by decide)
      simp only [List.cons_append, List.nil_append, Good, topF_cons, Nat.add_zero]
      first | exact hg | (repeat' apply And.intro) <;> first | omega | exact hg.2 | exact hg | exact ⟨_, _, rfl, by omega, hg.2⟩ | exact ⟨_, _, rfl, by omega, hg⟩ | exact fun m hm => ⟨_, _, rfl, by omega, hg.2⟩ | exact fun m hm => ⟨_, _, rfl, by omega, _, _, rfl, by omega, hg.2⟩ | exact ⟨_, _, rfl, by omega, by omega, hg.2⟩ | exact ⟨_, _, rfl, by omega, by omega, by rw [Nat.sub_add_cancel (by omega)]; exact hg.2⟩ | exact ⟨_, _, rfl, by omega, hgd⟩ | exact hg.2 _ (by omega) | exact fun m hm => hg.2 _ (by omega) | exact hg.2 _ (Nat.le_refl _)

theorem nx_variable (inv : Inv s) (hs : s.todo = .statement :: r) (h : ({ s with todo := r } : PS).variable_ = .ok s') : Nx s s' := by
  have hg := inv.good
  rw [hs] at hg
  simp only [Good] at hg
  have hn := inv.nest_of hs rfl
  obtain ⟨⟨tk1, u1⟩, h1, h⟩ := bind_ok h
  obtain ⟨_, rfl, rfl, l1⟩ := take_ok (by decide) h1
  replace h := h
  obtain ⟨⟨tk2, u2⟩, h2, h⟩ := bind_ok h
  obtain ⟨_, rfl, rfl, l2⟩ := take_ok (by decide) h2
  obtain ⟨⟨d, u3⟩, h3, h⟩ := bind_ok h
  obtain ⟨fx, hlt, he, hsz⟩ := typed_ok h3
  have l3 := fx.end_ l2
  have ht := fx.toks
  obtain ⟨a, rfl⟩ : ∃ a, u3 = { ({ s with todo := r } : PS).skip.skip with at_ := a } := ⟨_, he⟩
  have hlt' : s.at_ + 1 + 1 < a := hlt
  have l3' : a ≤ s.toks.length := l3
  obtain ⟨e, rfl⟩ : ∃ e, a = s.at_ + (e + 3) := ⟨a - s.at_ - 3, by omega⟩
  clear he hsz fx h3 ht l3 hlt
  dsimp only at h
  split at h
  case isTrue hk =>
    have l4 := kind_lt (s := (PS.begin_ _ _ _)) (by rw [hk]; decide)
    obtain rfl := pure_ok h
    refine Nx.mk' hs inv [.expression, .semi, .done] [s.loose.length] (e + 4) 0 0 1 rfl rfl rfl rfl rfl l4 rfl rfl rfl rfl rfl (Nat.le_refl _) (.inl hn) inv.loose ?_ (by simp only [sumOf, wt, pen, pen0]; omega) (by simp only [sumOf, pot, pen, pen0, List.length_cons, List.length_nil]; omega)
    simp only [List.cons_append, List.nil_append, Good, topF_cons, Nat.add_zero]
    first | exact hg | (repeat' apply And.intro) <;> first | omega | exact hg.2 | exact hg | exact ⟨_, _, rfl, by omega, hg.2⟩ | exact ⟨_, _, rfl, by omega, hg⟩ | exact fun m hm => ⟨_, _, rfl, by omega, hg.2⟩ | exact fun m hm => ⟨_, _, rfl, by omega, _, _, rfl, by omega, hg.2⟩ | exact ⟨_, _, rfl, by omega, by omega, hg.2⟩ | exact ⟨_, _, rfl, by omega, by omega, by rw [Nat.sub_add_cancel (by omega)]; exact hg.2⟩ | exact ⟨_, _, rfl, by omega, hgd⟩ | exact hg.2 _ (by omega) | exact fun m hm => hg.2 _ (by omega) | exact hg.2 _ (Nat.le_refl _)
  case isFalse =>
    obtain rfl := pure_ok h
    refine Nx.mk' hs inv [.semi, .done] [s.loose.length] (e + 3) 0 0 1 rfl rfl rfl rfl rfl l3' rfl rfl rfl rfl rfl (Nat.le_refl _) (.inl hn) inv.loose ?_ (by simp only [sumOf, wt, pen, pen0]; omega) (by simp only [sumOf, pot, pen, pen0, List.length_cons, List.length_nil]; omega)
    simp only [List.cons_append, List.nil_append, Good, topF_cons, Nat.add_zero]
    first | exact hg | (repeat' apply And.intro) <;> first | omega | exact hg.2 | exact hg | exact ⟨_, _, rfl, by omega, hg.2⟩ | exact ⟨_, _, rfl, by omega, hg⟩ | exact fun m hm => ⟨_, _, rfl, by omega, hg.2⟩ | exact fun m hm => ⟨_, _, rfl, by omega, _, _, rfl, by omega, hg.2⟩ | exact ⟨_, _, rfl, by omega, by omega, hg.2⟩ | exact ⟨_, _, rfl, by omega, by omega, by rw [Nat.sub_add_cancel (by omega)]; exact hg.2⟩ | exact ⟨_, _, rfl, by omega, hgd⟩ | exact hg.2 _ (by omega) | exact fun m hm => hg.2 _ (by omega) | exact hg.2 _ (Nat.le_refl _)

theorem nx_statement (inv : Inv s) (hs : s.todo = .statement :: r) (h : ({ s with todo := r } : PS).rule .statement = .ok s') : Nx s s' := by
  have hn := inv.nest_of hs rfl
  replace h : ({ s with todo := r } : PS).statement = .ok s' := h
  unfold PS.statement at h
  split at h
  · exact nx_variable inv hs h
  split at h
  · exact nx_named inv hs h
  split at h
  case isTrue hk => exact nx_told inv hs 8 (fun h0 => by rw [show ({ s with todo := r } : PS).kind = s.kind from rfl, h0] at hk; cases hk) h
  split at h
  case isTrue hk => exact nx_told inv hs 9 (fun h0 => by rw [show ({ s with todo := r } : PS).kind = s.kind from rfl, h0] at hk; cases hk) h
  split at h
  · exact nx_condition_ inv hs h
  split at h
  · exact nx_loop inv hs h
  split at h
  · exact nx_returned inv hs h
  split at h
  case isTrue hk => injection h with h; subst h; exact nx_word inv hs 13 (fun h0 => by rw [show ({ s with todo := r } : PS).kind = s.kind from rfl, h0] at hk; cases hk)
  split at h
  case isTrue hk => injection h with h; subst h; exact nx_word inv hs 14 (fun h0 => by rw [show ({ s with todo := r } : PS).kind = s.kind from rfl, h0] at hk; cases hk)
  split at h
  · injection h with h
    subst h
    have hg := inv.good
    rw [hs] at hg
    simp only [Good] at hg
    refine Nx.mk' hs inv [.block] [] 0 0 0 0 rfl rfl rfl rfl rfl (by have := inv.le; omega) rfl rfl rfl rfl rfl (Nat.le_refl _) (.inl hn) inv.loose ?_ (by decide) (by decide)
    simp only [List.cons_append, List.nil_append, Good, topF_cons, Nat.add_zero]
    first | exact hg | (repeat' apply And.intro) <;> first | omega | exact hg.2 | exact hg | exact ⟨_, _, rfl, by omega, hg.2⟩ | exact ⟨_, _, rfl, by omega, hg⟩ | exact fun m hm => ⟨_, _, rfl, by omega, hg.2⟩ | exact fun m hm => ⟨_, _, rfl, by omega, _, _, rfl, by omega, hg.2⟩ | exact ⟨_, _, rfl, by omega, by omega, hg.2⟩ | exact ⟨_, _, rfl, by omega, by omega, by rw [Nat.sub_add_cancel (by omega)]; exact hg.2⟩ | exact ⟨_, _, rfl, by omega, hgd⟩ | exact hg.2 _ (by omega) | exact fun m hm => hg.2 _ (by omega) | exact hg.2 _ (Nat.le_refl _)
  · cases h

theorem nx_arguments (inv : Inv s) (hs : s.todo = .arguments :: r) (h : ({ s with todo := r } : PS).rule .arguments = .ok s') : Nx s s' := by
  have hg := inv.good
  rw [hs] at hg
  simp only [Good] at hg
  have hn := inv.nest_of hs rfl
  replace h : ({ s with todo := r } : PS).arguments = .ok s' := h
  unfold PS.arguments at h
  split at h
  · obtain ⟨rfl, l1⟩ := closed_ok h
    refine Nx.mk' hs inv [] [] 1 1 0 0 rfl rfl rfl rfl rfl l1 rfl rfl rfl rfl rfl (open_leave _) (.inl hn) inv.loose ?_ (by decide) (by decide)
    simp only [List.cons_append, List.nil_append, Good, topF_cons, Nat.add_zero]
    first | exact hg.2 _ (Nat.le_refl _) | exact hg | (repeat' apply And.intro) <;> first | exact hg.2 _ (Nat.le_refl _) | omega | exact hg.2 | exact hg | exact ⟨_, _, rfl, by omega, hg.2⟩ | exact ⟨_, _, rfl, by omega, hg⟩ | exact fun m hm => ⟨_, _, rfl, by omega, hg.2⟩ | exact fun m hm => ⟨_, _, rfl, by omega, _, _, rfl, by omega, hg.2⟩ | exact ⟨_, _, rfl, by omega, by omega, hg.2⟩ | exact ⟨_, _, rfl, by omega, by omega, by rw [Nat.sub_add_cancel (by omega)]; exact hg.2⟩ | exact ⟨_, _, rfl, by omega, hgd⟩ | exact hg.2 _ (by omega) | exact fun m hm => hg.2 _ (by omega) | exact hg.2 _ (Nat.le_refl _)
  · injection h with h
    subst h
    refine Nx.mk' hs inv [.expression, .moreArguments] [] 0 0 0 0 rfl rfl rfl rfl rfl (by have := inv.le; omega) rfl rfl rfl rfl rfl (Nat.le_refl _) (.inl hn) inv.loose ?_ (by decide) (by decide)
    simp only [List.cons_append, List.nil_append, Good, topF_cons, Nat.add_zero]
    first | exact hg | (repeat' apply And.intro) <;> first | omega | exact hg.2 | exact hg | exact ⟨_, _, rfl, by omega, hg.2⟩ | exact ⟨_, _, rfl, by omega, hg⟩ | exact fun m hm => ⟨_, _, rfl, by omega, hg.2⟩ | exact fun m hm => ⟨_, _, rfl, by omega, _, _, rfl, by omega, hg.2⟩ | exact ⟨_, _, rfl, by omega, by omega, hg.2⟩ | exact ⟨_, _, rfl, by omega, by omega, by rw [Nat.sub_add_cancel (by omega)]; exact hg.2⟩ | exact ⟨_, _, rfl, by omega, hgd⟩ | exact hg.2 _ (by omega) | exact fun m hm => hg.2 _ (by omega) | exact hg.2 _ (Nat.le_refl _)

theorem nx_moreArguments (inv : Inv s) (hs : s.todo = .moreArguments :: r) (h : ({ s with todo := r } : PS).rule .moreArguments = .ok s') : Nx s s' := by
  have hg := inv.good
  rw [hs] at hg
  simp only [Good] at hg
  have hn := inv.nest_of hs rfl
  replace h : ({ s with todo := r } : PS).moreArguments = .ok s' := h
  unfold PS.moreArguments at h
  split at h
  case isTrue hk =>
    injection h with h
    subst h
    have l1 := kind_lt (s := s) (fun h0 => by rw [show ({ s with todo := r } : PS).kind = s.kind from rfl, h0] at hk; cases hk)
    refine Nx.mk' hs inv [.expression, .moreArguments] [] 1 0 0 0 rfl rfl rfl rfl rfl l1 rfl rfl rfl rfl rfl (Nat.le_refl _) (.inl hn) inv.loose ?_ (by decide) (by decide)
    simp only [List.cons_append, List.nil_append, Good, topF_cons, Nat.add_zero]
    first | exact hg | (repeat' apply And.intro) <;> first | omega | exact hg.2 | exact hg | exact ⟨_, _, rfl, by omega, hg.2⟩ | exact ⟨_, _, rfl, by omega, hg⟩ | exact fun m hm => ⟨_, _, rfl, by omega, hg.2⟩ | exact fun m hm => ⟨_, _, rfl, by omega, _, _, rfl, by omega, hg.2⟩ | exact ⟨_, _, rfl, by omega, by omega, hg.2⟩ | exact ⟨_, _, rfl, by omega, by omega, by rw [Nat.sub_add_cancel (by omega)]; exact hg.2⟩ | exact ⟨_, _, rfl, by omega, hgd⟩ | exact hg.2 _ (by omega) | exact fun m hm => hg.2 _ (by omega) | exact hg.2 _ (Nat.le_refl _)
  · obtain ⟨rfl, l1⟩ := closed_ok h
    refine Nx.mk' hs inv [] [] 1 1 0 0 rfl rfl rfl rfl rfl l1 rfl rfl rfl rfl rfl (open_leave _) (.inl hn) inv.loose ?_ (by decide) (by decide)
    simp only [List.cons_append, List.nil_append, Good, topF_cons, Nat.add_zero]
    first | exact hg.2 _ (Nat.le_refl _) | exact hg | (repeat' apply And.intro) <;> first | exact hg.2 _ (Nat.le_refl _) | omega | exact hg.2 | exact hg | exact ⟨_, _, rfl, by omega, hg.2⟩ | exact ⟨_, _, rfl, by omega, hg⟩ | exact fun m hm => ⟨_, _, rfl, by omega, hg.2⟩ | exact fun m hm => ⟨_, _, rfl, by omega, _, _, rfl, by omega, hg.2⟩ | exact ⟨_, _, rfl, by omega, by omega, hg.2⟩ | exact ⟨_, _, rfl, by omega, by omega, by rw [Nat.sub_add_cancel (by omega)]; exact hg.2⟩ | exact ⟨_, _, rfl, by omega, hgd⟩ | exact hg.2 _ (by omega) | exact fun m hm => hg.2 _ (by omega) | exact hg.2 _ (Nat.le_refl _)

theorem kind_todo (s : PS) (r : List Sym) : ({ s with todo := r } : PS).kind = s.kind := rfl
theorem nx_done (inv : Inv s) (hs : s.todo = .done :: r) (h : ({ s with todo := r } : PS).rule .done = .ok s') : Nx s s' := by
  have hg := inv.good
  rw [hs] at hg
  simp only [Good] at hg
  have hn := inv.nest_of hs rfl
  injection h with h
  subst h
  exact Nx.done' hs inv _ 0 0 ⟨rfl, rfl⟩ rfl rfl rfl rfl (by have := inv.le; omega) rfl rfl rfl rfl rfl (Nat.le_refl _) hn hg (by decide)

theorem nx_statements (inv : Inv s) (hs : s.todo = .statements :: r) (h : ({ s with todo := r } : PS).rule .statements = .ok s') : Nx s s' := by
  have hg := inv.good
  rw [hs] at hg
  simp only [Good] at hg
  have hn := inv.nest_of hs rfl
  replace h : Except.ok ({ s with todo := r } : PS).statements = .ok s' := h
  injection h with h
  subst h
  unfold PS.statements
  split
  case isTrue hk =>
    have l1 := kind_lt (s := s) (fun h0 => by rw [kind_todo, h0] at hk; cases hk)
    exact Nx.done' hs inv _ 1 1 ⟨rfl, rfl⟩ rfl rfl rfl rfl l1 rfl rfl rfl rfl rfl (open_leave _) hn hg (by decide)
  case isFalse =>
    obtain ⟨f, F', hF, hf, hgd⟩ := hg
    refine Nx.mk' hs inv [.statement, .statements] [] 0 0 0 0 rfl rfl rfl rfl rfl (by have := inv.le; omega) rfl rfl rfl rfl rfl (Nat.le_refl _) (.inl hn) inv.loose ?_ (by decide) (by decide)
    rw [hF]
    simp only [List.cons_append, List.nil_append, Good, topF_cons, Nat.add_zero]
    exact ⟨hf, _, _, rfl, by omega, hgd⟩

theorem nx_otherwise (inv : Inv s) (hs : s.todo = .otherwise :: r) (h : ({ s with todo := r } : PS).rule .otherwise = .ok s') : Nx s s' := by
  have hg := inv.good
  rw [hs] at hg
  simp only [Good] at hg
  have hn := inv.nest_of hs rfl
  replace h : Except.ok ({ s with todo := r } : PS).otherwise = .ok s' := h
  injection h with h
  subst h
  unfold PS.otherwise
  split
  case isTrue hk =>
    have l1 := kind_lt (s := s) (fun h0 => by rw [kind_todo, h0] at hk; cases hk)
    obtain ⟨f, F', hF, hf, hgd⟩ := hg
    split
    · refine Nx.mk' hs inv [.condition, .leave, .done] [] 1 1 0 0 rfl rfl rfl rfl rfl l1 rfl rfl rfl (enter_len _) rfl (open_enter _) (.inl hn) inv.loose ?_ (by decide) (by decide)
      rw [hF]
      simp only [List.cons_append, List.nil_append, Good, topF_cons, Nat.add_zero]
      exact ⟨hf, _, _, rfl, by omega, hgd⟩
    · refine Nx.mk' hs inv [.block, .done] [] 1 0 0 0 rfl rfl rfl rfl rfl l1 rfl rfl rfl rfl rfl (Nat.le_refl _) (.inl hn) inv.loose ?_ (by decide) (by decide)
      rw [hF]
      simp only [List.cons_append, List.nil_append, Good, topF_cons, Nat.add_zero]
      exact ⟨hf, _, _, rfl, by omega, hgd⟩
  case isFalse =>
    exact Nx.done' hs inv _ 0 0 ⟨rfl, rfl⟩ rfl rfl rfl rfl (by have := inv.le; omega) rfl rfl rfl rfl rfl (Nat.le_refl _) hn hg (by decide)

theorem nx_either (inv : Inv s) (hs : s.todo = .either :: r) (h : ({ s with todo := r } : PS).rule .either = .ok s') : Nx s s' := by
  have hg := inv.good
  rw [hs] at hg
  simp only [Good] at hg
  have hn := inv.nest_of hs rfl
  replace h : Except.ok (({ s with todo := r } : PS).joined 1 .both .either) = .ok s' := h
  injection h with h
  subst h
  unfold PS.joined
  split
  case isTrue hk =>
    have l1 := kind_lt (s := s) (fun h0 => by rw [kind_todo, h0, operator_zero] at hk; cases hk)
    have h0 : s.loose.length - 1 + 1 = s.loose.length := by omega
    refine Nx.mk' hs inv [.both, .done, .either] [s.loose.length - 1] 1 0 0 1 rfl rfl rfl rfl rfl l1 rfl rfl rfl rfl rfl (Nat.le_refl _) (.inl hn) inv.loose ?_ (by decide) (by decide)
    simp only [List.cons_append, List.nil_append, Good, topF_cons, Nat.add_zero]
    first | exact ⟨by omega, _, _, rfl, by omega, by rw [h0]; exact hg⟩ | exact ⟨by omega, _, _, rfl, by omega, by rw [h0]; exact hg.2⟩
  case isFalse =>
    refine Nx.mk' hs inv [] [] 0 0 0 0 rfl rfl rfl rfl rfl (by have := inv.le; omega) rfl rfl rfl rfl rfl (Nat.le_refl _) (.inl hn) inv.loose ?_ (by decide) (by decide)
    exact hg.2

theorem nx_andMore (inv : Inv s) (hs : s.todo = .andMore :: r) (h : ({ s with todo := r } : PS).rule .andMore = .ok s') : Nx s s' := by
  have hg := inv.good
  rw [hs] at hg
  simp only [Good] at hg
  have hn := inv.nest_of hs rfl
  replace h : Except.ok (({ s with todo := r } : PS).joined 2 .compared .andMore) = .ok s' := h
  injection h with h
  subst h
  unfold PS.joined
  split
  case isTrue hk =>
    have l1 := kind_lt (s := s) (fun h0 => by rw [kind_todo, h0, operator_zero] at hk; cases hk)
    have h0 : s.loose.length - 1 + 1 = s.loose.length := by omega
    refine Nx.mk' hs inv [.compared, .done, .andMore] [s.loose.length - 1] 1 0 0 1 rfl rfl rfl rfl rfl l1 rfl rfl rfl rfl rfl (Nat.le_refl _) (.inl hn) inv.loose ?_ (by decide) (by decide)
    simp only [List.cons_append, List.nil_append, Good, topF_cons, Nat.add_zero]
    first | exact ⟨by omega, _, _, rfl, by omega, by rw [h0]; exact hg⟩ | exact ⟨by omega, _, _, rfl, by omega, by rw [h0]; exact hg.2⟩
  case isFalse =>
    refine Nx.mk' hs inv [] [] 0 0 0 0 rfl rfl rfl rfl rfl (by have := inv.le; omega) rfl rfl rfl rfl rfl (Nat.le_refl _) (.inl hn) inv.loose ?_ (by decide) (by decide)
    exact hg.2

theorem nx_compare (inv : Inv s) (hs : s.todo = .compare :: r) (h : ({ s with todo := r } : PS).rule .compare = .ok s') : Nx s s' := by
  have hg := inv.good
  rw [hs] at hg
  simp only [Good] at hg
  have hn := inv.nest_of hs rfl
  replace h : Except.ok (({ s with todo := r } : PS).joined 3 .sum .nothing) = .ok s' := h
  injection h with h
  subst h
  unfold PS.joined
  split
  case isTrue hk =>
    have l1 := kind_lt (s := s) (fun h0 => by rw [kind_todo, h0, operator_zero] at hk; cases hk)
    have h0 : s.loose.length - 1 + 1 = s.loose.length := by omega
    refine Nx.mk' hs inv [.sum, .done, .nothing] [s.loose.length - 1] 1 0 0 1 rfl rfl rfl rfl rfl l1 rfl rfl rfl rfl rfl (Nat.le_refl _) (.inl hn) inv.loose ?_ (by decide) (by decide)
    simp only [List.cons_append, List.nil_append, Good, topF_cons, Nat.add_zero]
    first | exact ⟨by omega, _, _, rfl, by omega, by rw [h0]; exact hg⟩ | exact ⟨by omega, _, _, rfl, by omega, by rw [h0]; exact hg.2⟩
  case isFalse =>
    refine Nx.mk' hs inv [] [] 0 0 0 0 rfl rfl rfl rfl rfl (by have := inv.le; omega) rfl rfl rfl rfl rfl (Nat.le_refl _) (.inl hn) inv.loose ?_ (by decide) (by decide)
    exact hg.2

theorem nx_sumMore (inv : Inv s) (hs : s.todo = .sumMore :: r) (h : ({ s with todo := r } : PS).rule .sumMore = .ok s') : Nx s s' := by
  have hg := inv.good
  rw [hs] at hg
  simp only [Good] at hg
  have hn := inv.nest_of hs rfl
  replace h : Except.ok (({ s with todo := r } : PS).joined 4 .product .sumMore) = .ok s' := h
  injection h with h
  subst h
  unfold PS.joined
  split
  case isTrue hk =>
    have l1 := kind_lt (s := s) (fun h0 => by rw [kind_todo, h0, operator_zero] at hk; cases hk)
    have h0 : s.loose.length - 1 + 1 = s.loose.length := by omega
    refine Nx.mk' hs inv [.product, .done, .sumMore] [s.loose.length - 1] 1 0 0 1 rfl rfl rfl rfl rfl l1 rfl rfl rfl rfl rfl (Nat.le_refl _) (.inl hn) inv.loose ?_ (by decide) (by decide)
    simp only [List.cons_append, List.nil_append, Good, topF_cons, Nat.add_zero]
    first | exact ⟨by omega, _, _, rfl, by omega, by rw [h0]; exact hg⟩ | exact ⟨by omega, _, _, rfl, by omega, by rw [h0]; exact hg.2⟩
  case isFalse =>
    refine Nx.mk' hs inv [] [] 0 0 0 0 rfl rfl rfl rfl rfl (by have := inv.le; omega) rfl rfl rfl rfl rfl (Nat.le_refl _) (.inl hn) inv.loose ?_ (by decide) (by decide)
    exact hg.2

theorem nx_productMore (inv : Inv s) (hs : s.todo = .productMore :: r) (h : ({ s with todo := r } : PS).rule .productMore = .ok s') : Nx s s' := by
  have hg := inv.good
  rw [hs] at hg
  simp only [Good] at hg
  have hn := inv.nest_of hs rfl
  replace h : Except.ok (({ s with todo := r } : PS).joined 5 .signed .productMore) = .ok s' := h
  injection h with h
  subst h
  unfold PS.joined
  split
  case isTrue hk =>
    have l1 := kind_lt (s := s) (fun h0 => by rw [kind_todo, h0, operator_zero] at hk; cases hk)
    have h0 : s.loose.length - 1 + 1 = s.loose.length := by omega
    refine Nx.mk' hs inv [.signed, .done, .productMore] [s.loose.length - 1] 1 0 0 1 rfl rfl rfl rfl rfl l1 rfl rfl rfl rfl rfl (Nat.le_refl _) (.inl hn) inv.loose ?_ (by decide) (by decide)
    simp only [List.cons_append, List.nil_append, Good, topF_cons, Nat.add_zero]
    first | exact ⟨by omega, _, _, rfl, by omega, by rw [h0]; exact hg⟩ | exact ⟨by omega, _, _, rfl, by omega, by rw [h0]; exact hg.2⟩
  case isFalse =>
    refine Nx.mk' hs inv [] [] 0 0 0 0 rfl rfl rfl rfl rfl (by have := inv.le; omega) rfl rfl rfl rfl rfl (Nat.le_refl _) (.inl hn) inv.loose ?_ (by decide) (by decide)
    exact hg.2

theorem nx_index (inv : Inv s) (hs : s.todo = .index :: r) (h : ({ s with todo := r } : PS).rule .index = .ok s') : Nx s s' := by
  have hg := inv.good
  rw [hs] at hg
  simp only [Good] at hg
  have hn := inv.nest_of hs rfl
  replace h : ({ s with todo := r } : PS).index = .ok s' := h
  unfold PS.index at h
  split at h
  case isTrue hk =>
    have h0 : s.loose.length - 1 + 1 = s.loose.length := by omega
    obtain ⟨u1, h1, h⟩ := bind_ok h
    obtain ⟨rfl, l1⟩ := opened_ok (by decide) h1
    obtain rfl := pure_ok h
    refine Nx.mk' hs inv [.expression, .shut, .done, .index] [s.loose.length - 1] 1 1 0 1 rfl rfl rfl rfl rfl l1 rfl rfl rfl (enter_len _) rfl (open_enter _) (.inl hn) inv.loose ?_ (by decide) (by decide)
    simp only [List.cons_append, List.nil_append, Good, topF_cons, Nat.add_zero]
    exact ⟨by omega, _, _, rfl, by omega, by rw [h0]; exact hg⟩
  case isFalse =>
    injection h with h
    subst h
    refine Nx.mk' hs inv [] [] 0 0 0 0 rfl rfl rfl rfl rfl (by have := inv.le; omega) rfl rfl rfl rfl rfl (Nat.le_refl _) (.inl hn) inv.loose ?_ (by decide) (by decide)
    exact hg.2

theorem nx_signed (inv : Inv s) (hs : s.todo = .signed :: r) (h : ({ s with todo := r } : PS).rule .signed = .ok s') : Nx s s' := by
  have hg := inv.good
  rw [hs] at hg
  simp only [Good] at hg
  have hn := inv.nest_of hs rfl
  replace h : Except.ok ({ s with todo := r } : PS).signed = .ok s' := h
  injection h with h
  subst h
  unfold PS.signed
  dsimp only
  split
  case isTrue hk =>
    have l1 := kind_lt (s := s) (fun h0 => by rw [kind_todo, h0] at hk; cases hk)
    refine Nx.mk' hs inv [.signed, .leave, .done] [s.loose.length] 1 1 0 1 rfl rfl rfl rfl rfl l1 rfl rfl rfl (enter_len _) rfl (open_enter _) (.inl hn) inv.loose ?_ (by decide) (by decide)
    simp only [List.cons_append, List.nil_append, Good, topF_cons, Nat.add_zero]
    exact ⟨by omega, _, _, rfl, by omega, hg.2⟩
  split
  case isTrue hk =>
    have l1 := kind_lt (s := s) (fun h0 => by rw [kind_todo, h0] at hk; cases hk)
    refine Nx.mk' hs inv [.signed, .leave, .done] [s.loose.length] 1 1 0 1 rfl rfl rfl rfl rfl l1 rfl rfl rfl (enter_len _) rfl (open_enter _) (.inl hn) inv.loose ?_ (by decide) (by decide)
    simp only [List.cons_append, List.nil_append, Good, topF_cons, Nat.add_zero]
    exact ⟨by omega, _, _, rfl, by omega, hg.2⟩
  split
  case isTrue hk =>
    have l1 := kind_lt (s := s) (fun h0 => by rw [kind_todo, h0] at hk; cases hk)
    refine Nx.mk' hs inv [.signed, .leave, .done] [s.loose.length] 1 1 0 1 rfl rfl rfl rfl rfl l1 rfl rfl rfl (enter_len _) rfl (open_enter _) (.inl hn) inv.loose ?_ (by decide) (by decide)
    simp only [List.cons_append, List.nil_append, Good, topF_cons, Nat.add_zero]
    exact ⟨by omega, _, _, rfl, by omega, hg.2⟩
  refine Nx.mk' hs inv [.plain, .index] [] 0 0 0 0 rfl rfl rfl rfl rfl (by have := inv.le; omega) rfl rfl rfl rfl rfl (Nat.le_refl _) (.inl hn) inv.loose ?_ (by decide) (by decide)
  simp only [List.cons_append, List.nil_append, Good, topF_cons, Nat.add_zero]
  first | exact hg | (repeat' apply And.intro) <;> first | omega | exact hg.2 | exact hg | exact ⟨_, _, rfl, by omega, hg.2⟩ | exact ⟨_, _, rfl, by omega, hg⟩ | exact fun m hm => ⟨_, _, rfl, by omega, hg.2⟩ | exact fun m hm => ⟨_, _, rfl, by omega, _, _, rfl, by omega, hg.2⟩ | exact ⟨_, _, rfl, by omega, by omega, hg.2⟩ | exact ⟨_, _, rfl, by omega, by omega, by rw [Nat.sub_add_cancel (by omega)]; exact hg.2⟩ | exact ⟨_, _, rfl, by omega, hgd⟩ | exact hg.2 _ (by omega) | exact fun m hm => hg.2 _ (by omega) | exact hg.2 _ (Nat.le_refl _)

theorem nx_program (inv : Inv s) (hs : s.todo = .program :: r) (h : ({ s with todo := r } : PS).rule .program = .ok s') : Nx s s' := by
  have hg := inv.good
  rw [hs] at hg
  simp only [Good] at hg
  replace h : Except.ok ({ s with todo := r } : PS).program = .ok s' := h
  injection h with h
  subst h
  have hn : s.nest ≠ [] ∨ (s.nest = [] ∧ r.all isTop = true) := by
    rcases inv.nest with h1 | h1
    · exact .inl h1
    · rw [hs, List.all_cons, Bool.and_eq_true] at h1
      by_cases h2 : s.nest = []
      · exact .inr ⟨h2, h1.2⟩
      · exact .inl h2
  unfold PS.program
  split
  · refine Nx.mk' hs inv [.function, .program] [] 0 0 0 0 rfl rfl rfl rfl rfl (by have := inv.le; omega) rfl rfl rfl rfl rfl (Nat.le_refl _) (hn.imp_right fun h => ⟨h.1, by show (Sym.function :: Sym.program :: r).all isTop = true; simp only [List.all_cons, isTop, Bool.true_and]; exact h.2⟩) inv.loose ?_ (by decide) (by decide)
    simp only [List.cons_append, List.nil_append, Good, topF_cons, Nat.add_zero]
    exact hg
  · refine Nx.mk' hs inv [] [] 0 0 0 0 rfl rfl rfl rfl rfl (by have := inv.le; omega) rfl rfl rfl rfl rfl (Nat.le_refl _) hn inv.loose ?_ (by decide) (by decide)
    exact hg _

theorem nx_leaf (inv : Inv s) (hs : s.todo = .plain :: r) (u : PS) (n : Nd) (c o : Nat) (h1 : u.todo = r) (h2 : u.toks = s.toks) (he : u.en = s.en) (h3 : u.at_ = s.at_ + c) (h4 : s.at_ + c ≤ s.toks.length) (h5 : u.begun = s.begun) (h6 : u.loose = s.loose) (h7 : u.nodes = s.nodes) (h8 : u.nest.length = s.nest.length) (h9 : u.funcs = s.funcs) (h10 : u.open_.natAbs ≤ s.open_.natAbs + o) (hc : 1 ≤ c) (ho : o ≤ 2) : Nx s (u.leaf n) := by
  have hg := inv.good
  rw [hs] at hg
  simp only [Good] at hg
  have hn := inv.nest_of hs rfl
  rw [leaf_eq]
  refine Nx.mk' hs inv [] [] c o 1 0 rfl h1 h2 he h3 h4 (by unfold froms; rw [h5]; rfl) (by rw [h6]; simp) (by rw [h7]; simp) h8 h9 h10 (.inl hn) ?_ hg.2 (by simp only [sumOf, wt, pen, pen0]; omega) (by simp only [sumOf, pot, pen, pen0, List.length_nil]; omega)
  intro i hi
  rw [h6, h7] at hi
  rw [h7]
  rcases List.mem_append.1 hi with hi | hi
  · obtain ⟨j, hj, hl⟩ := inv.loose i hi
    exact ⟨j, hj, by rw [List.length_append]; omega⟩
  · exact ⟨s.nodes.length, by simpa using hi, by simp⟩
theorem open_el (t : PS) : t.enter.skip.leave.open_.natAbs ≤ t.open_.natAbs + 0 := by show (t.open_ + 1 - 1).natAbs ≤ _; omega

set_option maxHeartbeats 4000000 in
theorem nx_plain (inv : Inv s) (hs : s.todo = .plain :: r) (h : ({ s with todo := r } : PS).rule .plain = .ok s') : Nx s s' := by
  have hg := inv.good
  rw [hs] at hg
  simp only [Good] at hg
  have hn := inv.nest_of hs rfl
  replace h : ({ s with todo := r } : PS).plain = .ok s' := h
  unfold PS.plain at h
  dsimp only at h
  by_cases hk0 : ({ s with todo := r } : PS).kind = 0
  · rw [if_pos hk0] at h; cases h
  rw [if_neg hk0] at h
  have l0 := kind_lt (s := s) hk0
  by_cases hk : ({ s with todo := r } : PS).kind = 2
  · rw [if_pos hk] at h
    injection h with h
    subst h
    exact nx_leaf inv hs _ _ 1 0 rfl rfl rfl rfl l0 rfl rfl rfl rfl rfl (Nat.le_refl _) (by decide) (by decide)
  rw [if_neg hk] at h
  clear hk
  by_cases hk : ({ s with todo := r } : PS).kind = 25
  · rw [if_pos hk] at h
    injection h with h
    subst h
    exact nx_leaf inv hs _ _ 1 0 rfl rfl rfl rfl l0 rfl rfl rfl rfl rfl (Nat.le_refl _) (by decide) (by decide)
  rw [if_neg hk] at h
  clear hk
  by_cases hk : ({ s with todo := r } : PS).kind = 26
  · rw [if_pos hk] at h
    injection h with h
    subst h
    exact nx_leaf inv hs _ _ 1 0 rfl rfl rfl rfl l0 rfl rfl rfl rfl rfl (Nat.le_refl _) (by decide) (by decide)
  rw [if_neg hk] at h
  clear hk
  by_cases hk : ({ s with todo := r } : PS).kind = 27
  · rw [if_pos hk] at h
    injection h with h
    subst h
    exact nx_leaf inv hs _ _ 1 0 rfl rfl rfl rfl l0 rfl rfl rfl rfl rfl (Nat.le_refl _) (by decide) (by decide)
  rw [if_neg hk] at h
  clear hk
  by_cases hk : ({ s with todo := r } : PS).kind = 20
  · rw [if_pos hk] at h
    obtain ⟨u1, h1, h⟩ := bind_ok h
    obtain ⟨rfl, l1⟩ := opened_ok (by decide) h1
    obtain ⟨u2, h2, h⟩ := bind_ok h
    obtain ⟨rfl, l2⟩ := closed_ok h2
    obtain rfl := pure_ok h
    exact nx_leaf inv hs _ _ 3 0 rfl rfl rfl rfl l2 rfl rfl rfl (enter_len _) rfl (open_el _) (by decide) (by decide)
  rw [if_neg hk] at h
  clear hk
  by_cases hk : ({ s with todo := r } : PS).kind = 1
  · rw [if_pos hk] at h
    unfold PS.name at h
    split at h
    · obtain ⟨u1, h1, h⟩ := bind_ok h
      obtain ⟨rfl, l1⟩ := opened_ok (by decide) h1
      obtain rfl := pure_ok h
      refine Nx.mk' hs inv [.arguments, .done] [s.loose.length] 2 1 0 1 rfl rfl rfl rfl rfl l1 rfl rfl rfl (enter_len _) rfl (open_enter _) (.inl hn) inv.loose ?_ (by decide) (by decide)
      simp only [List.cons_append, List.nil_append, Good, topF_cons, Nat.add_zero]
      first | exact hg | (repeat' apply And.intro) <;> first | omega | exact hg.2 | exact hg | exact ⟨_, _, rfl, by omega, hg.2⟩ | exact ⟨_, _, rfl, by omega, hg⟩ | exact fun m hm => ⟨_, _, rfl, by omega, hg.2⟩ | exact fun m hm => ⟨_, _, rfl, by omega, _, _, rfl, by omega, hg.2⟩ | exact ⟨_, _, rfl, by omega, by omega, hg.2⟩ | exact ⟨_, _, rfl, by omega, by omega, by rw [Nat.sub_add_cancel (by omega)]; exact hg.2⟩ | exact ⟨_, _, rfl, by omega, hgd⟩ | exact hg.2 _ (by omega) | exact fun m hm => hg.2 _ (by omega) | exact hg.2 _ (Nat.le_refl _)
    · injection h with h; subst h; exact nx_leaf inv hs _ _ 1 0 rfl rfl rfl rfl l0 rfl rfl rfl rfl rfl (Nat.le_refl _) (by decide) (by decide)
  rw [if_neg hk] at h
  clear hk
  by_cases hk : ({ s with todo := r } : PS).kind = 21
  · rw [if_pos hk] at h
    obtain ⟨u1, h1, h⟩ := bind_ok h
    obtain ⟨rfl, l1⟩ := opened_ok (by decide) h1
    obtain rfl := pure_ok h
    refine Nx.mk' hs inv [.expression, .closed, .done] [s.loose.length] 2 1 0 1 rfl rfl rfl rfl rfl l1 rfl rfl rfl (enter_len _) rfl (open_enter _) (.inl hn) inv.loose ?_ (by decide) (by decide)
    simp only [List.cons_append, List.nil_append, Good, topF_cons, Nat.add_zero]
    first | exact hg | (repeat' apply And.intro) <;> first | omega | exact hg.2 | exact hg | exact ⟨_, _, rfl, by omega, hg.2⟩ | exact ⟨_, _, rfl, by omega, hg⟩ | exact fun m hm => ⟨_, _, rfl, by omega, hg.2⟩ | exact fun m hm => ⟨_, _, rfl, by omega, _, _, rfl, by omega, hg.2⟩ | exact ⟨_, _, rfl, by omega, by omega, hg.2⟩ | exact ⟨_, _, rfl, by omega, by omega, by rw [Nat.sub_add_cancel (by omega)]; exact hg.2⟩ | exact ⟨_, _, rfl, by omega, hgd⟩ | exact hg.2 _ (by omega) | exact fun m hm => hg.2 _ (by omega) | exact hg.2 _ (Nat.le_refl _)
  rw [if_neg hk] at h
  clear hk
  by_cases hk : ({ s with todo := r } : PS).kind = 22
  · rw [if_pos hk] at h
    unfold PS.made at h
    obtain ⟨u1, h1, h⟩ := bind_ok h
    obtain ⟨rfl, l1⟩ := opened_ok (by decide) h1
    obtain ⟨u2, h2, h⟩ := bind_ok h
    obtain ⟨_, rfl, l2⟩ := expect_ok (by decide) h2
    obtain ⟨u3, h3, h⟩ := bind_ok h
    obtain ⟨_, rfl, l3⟩ := expect_ok (by decide) h3
    obtain ⟨u4, h4, h⟩ := bind_ok h
    obtain ⟨_, rfl, l4⟩ := expect_ok (by decide) h4
    obtain ⟨u5, h5, h⟩ := bind_ok h
    obtain ⟨_, rfl, l5⟩ := expect_ok (by decide) h5
    obtain rfl := pure_ok h
    refine Nx.mk' hs inv [.expression, .closed, .done] [s.loose.length] 6 1 0 1 rfl rfl rfl rfl rfl l5 rfl rfl rfl (enter_len _) rfl (open_enter _) (.inl hn) inv.loose ?_ (by decide) (by decide)
    simp only [List.cons_append, List.nil_append, Good, topF_cons, Nat.add_zero]
    first | exact hg | (repeat' apply And.intro) <;> first | omega | exact hg.2 | exact hg | exact ⟨_, _, rfl, by omega, hg.2⟩ | exact ⟨_, _, rfl, by omega, hg⟩ | exact fun m hm => ⟨_, _, rfl, by omega, hg.2⟩ | exact fun m hm => ⟨_, _, rfl, by omega, _, _, rfl, by omega, hg.2⟩ | exact ⟨_, _, rfl, by omega, by omega, hg.2⟩ | exact ⟨_, _, rfl, by omega, by omega, by rw [Nat.sub_add_cancel (by omega)]; exact hg.2⟩ | exact ⟨_, _, rfl, by omega, hgd⟩ | exact hg.2 _ (by omega) | exact fun m hm => hg.2 _ (by omega) | exact hg.2 _ (Nat.le_refl _)
  rw [if_neg hk] at h
  clear hk
  by_cases hk : ({ s with todo := r } : PS).kind = 40
  · rw [if_pos hk] at h
    injection h with h
    subst h
    refine Nx.mk' hs inv [.expression, .closed] [] 1 1 0 0 rfl rfl rfl rfl rfl l0 rfl rfl rfl (enter_len _) rfl (open_enter _) (.inl hn) inv.loose ?_ (by decide) (by decide)
    simp only [List.cons_append, List.nil_append, Good, topF_cons, Nat.add_zero]
    first | exact hg | (repeat' apply And.intro) <;> first | omega | exact hg.2 | exact hg | exact ⟨_, _, rfl, by omega, hg.2⟩ | exact ⟨_, _, rfl, by omega, hg⟩ | exact fun m hm => ⟨_, _, rfl, by omega, hg.2⟩ | exact fun m hm => ⟨_, _, rfl, by omega, _, _, rfl, by omega, hg.2⟩ | exact ⟨_, _, rfl, by omega, by omega, hg.2⟩ | exact ⟨_, _, rfl, by omega, by omega, by rw [Nat.sub_add_cancel (by omega)]; exact hg.2⟩ | exact ⟨_, _, rfl, by omega, hgd⟩ | exact hg.2 _ (by omega) | exact fun m hm => hg.2 _ (by omega) | exact hg.2 _ (Nat.le_refl _)
  rw [if_neg hk] at h
  cases h

end Pm
end Go.Proofs.Ythodjlhjfaccpaa
