/- What the reading of parameters does to the state. -/
import Derived.Test.YthodjlhjfaccpaaPr
set_option linter.unusedVariables false
namespace Go.Proofs.Ythodjlhjfaccpaa
open Go Go.RowKit Mem Pm
namespace Pm

/-- The same but for what was read: parameters, a type. -/
structure Fx (s s' : PS) : Prop where
  toks : s'.toks = s.toks
  en : s'.en = s.en
  begun : s'.begun = s.begun
  nest : s'.nest = s.nest
  todo : s'.todo = s.todo
  funcs : s'.funcs = s.funcs
  open_ : s'.open_ = s.open_
  at_ : s.at_ ≤ s'.at_
  end_ : s.at_ ≤ s.toks.length → s'.at_ ≤ s'.toks.length
  loose : s.loose.length ≤ s'.loose.length
  sz : s'.sz + 2 * (s'.toks.length - s'.at_) ≤ s.sz + 2 * (s.toks.length - s.at_)
theorem Fx.refl (s : PS) : Fx s s := ⟨rfl, rfl, rfl, rfl, rfl, rfl, rfl, Nat.le_refl _, fun h => h, Nat.le_refl _, Nat.le_refl _⟩
theorem Fx.trans {s s1 s2 : PS} (h : Fx s s1) (k : Fx s1 s2) : Fx s s2 :=
  ⟨k.toks.trans h.toks, k.en.trans h.en, k.begun.trans h.begun, k.nest.trans h.nest, k.todo.trans h.todo, k.funcs.trans h.funcs, k.open_.trans h.open_, Nat.le_trans h.at_ k.at_, fun e => k.end_ (h.end_ e), Nat.le_trans h.loose k.loose, Nat.le_trans k.sz h.sz⟩
theorem Fx.skip {s : PS} (h : s.at_ < s.toks.length) : Fx s s.skip :=
  ⟨rfl, rfl, rfl, rfl, rfl, rfl, rfl, Nat.le_succ _, fun _ => h, Nat.le_refl _, by
    have h1 : s.skip.sz = s.sz := rfl
    have h2 : s.skip.toks = s.toks := rfl
    have h3 : s.skip.at_ = s.at_ + 1 := rfl
    rw [h1, h2, h3]; omega⟩
theorem take_ok {s : PS} {k : Int} (hk : k ≠ 0) {t : Tok} {s' : PS} (h : s.take k = .ok (t, s')) : s.kind = k ∧ s' = s.skip ∧ t = s.cur ∧ s.at_ < s.toks.length := by
  unfold PS.take at h
  split at h
  case isTrue hh => injection h with h; injection h with h1 h2; exact ⟨hh, h2.symm, h1.symm, kind_lt (by rw [hh]; exact hk)⟩
  case isFalse => cases h
theorem expect_ok {s : PS} {k : Int} (hk : k ≠ 0) {s' : PS} (h : s.expect k = .ok s') : s.kind = k ∧ s' = s.skip ∧ s.at_ < s.toks.length := by
  unfold PS.expect at h
  cases hh : s.take k with
  | error f => rw [hh] at h; cases h
  | ok p =>
    obtain ⟨t, s1⟩ := p
    rw [hh] at h
    obtain ⟨h1, rfl, _, h3⟩ := take_ok hk hh
    injection h with h
    exact ⟨h1, h.symm, h3⟩
theorem typed_ok {s : PS} {d : Int} {s' : PS} (h : s.typed = .ok (d, s')) : Fx s s' ∧ s.at_ < s'.at_ ∧ s' = { s with at_ := s'.at_ } ∧ s'.sz = s.sz := by
  unfold PS.typed at h
  split at h
  case isTrue hh =>
    injection h with h; injection h with h1 h2; subst h2
    exact ⟨Fx.skip (kind_lt (by rw [hh]; decide)), Nat.lt_succ_self _, rfl, rfl⟩
  case isFalse =>
    split at h
    case isTrue hh =>
      injection h with h; injection h with h1 h2; subst h2
      exact ⟨Fx.skip (kind_lt (by rw [hh]; decide)), Nat.lt_succ_self _, rfl, rfl⟩
    case isFalse =>
      cases h1 : s.expect 44 with
      | error f => rw [h1] at h; cases h
      | ok s1 =>
        obtain ⟨_, rfl, l1⟩ := expect_ok (by decide) h1
        rw [h1] at h
        cases h2 : s.skip.expect 45 with
        | error f => simp only [bind, Except.bind, h2] at h; cases h
        | ok s2 =>
          obtain ⟨_, rfl, l2⟩ := expect_ok (by decide) h2
          cases h3 : s.skip.skip.expect 23 with
          | error f => simp only [bind, Except.bind, h2, h3] at h; cases h
          | ok s3 =>
            obtain ⟨_, rfl, l3⟩ := expect_ok (by decide) h3
            simp only [bind, Except.bind, h2, h3, pure, Except.pure] at h
            injection h with h; injection h with h4 h5; subst h5
            exact ⟨((Fx.skip l1).trans (Fx.skip l2)).trans (Fx.skip l3), by show s.at_ < s.at_ + 1 + 1 + 1; omega, rfl, rfl⟩
theorem leaf_eq (s : PS) (n : Nd) : s.leaf n = { s with nodes := s.nodes ++ [{ n with kids := [] }], loose := s.loose ++ [(s.nodes.length : Int)] } := by
  simp [PS.leaf, PS.begin_, PS.done]
theorem param_ok {s s' : PS} (h : s.param = .ok s') : Fx s s' ∧ s.at_ < s'.at_ := by
  unfold PS.param at h
  cases h1 : s.take 1 with
  | error f => rw [h1] at h; cases h
  | ok p =>
    obtain ⟨t, s1⟩ := p
    obtain ⟨_, rfl, _, l1⟩ := take_ok (by decide) h1
    rw [h1] at h
    cases h2 : s.skip.typed with
    | error f => simp only [bind, Except.bind, h2] at h; cases h
    | ok p =>
      obtain ⟨d, s2⟩ := p
      simp only [bind, Except.bind, h2, pure, Except.pure] at h
      injection h with h
      subst h
      obtain ⟨fx, hlt, he, hsz⟩ := typed_ok h2
      have hf := (Fx.skip l1).trans fx
      have hlt' : s.at_ + 1 < s2.at_ := hlt
      have hend := hf.end_ (Nat.le_of_lt l1)
      have hsz' : s2.sz = s.sz := hsz
      rw [leaf_eq]
      refine ⟨⟨hf.toks, hf.en, hf.begun, hf.nest, hf.todo, hf.funcs, hf.open_, by show s.at_ ≤ s2.at_; omega, fun _ => hend, Nat.le_trans hf.loose (by simp), ?_⟩, by show s.at_ < s2.at_; omega⟩
      have this : ∀ n : Nd, PS.sz { s2 with nodes := s2.nodes ++ [n], loose := s2.loose ++ [(s2.nodes.length : Int)] } = s2.sz + 2 := fun n => by
        simp only [PS.sz, List.length_append, List.length_cons, List.length_nil]; omega
      refine Nat.le_trans (Nat.le_of_eq (congrArg (· + 2 * (s2.toks.length - s2.at_)) (this _))) ?_
      have ht := hf.toks
      rw [ht] at hend ⊢
      show s2.sz + 2 + 2 * (s.toks.length - s2.at_) ≤ _
      omega
/-- What follows the parameters. -/
def PS.fnTail (s : PS) : M PS := do
  let s ← s.expect 41
  let s ← if s.kind = 42 then pure s else (do
    let (d, s) ← s.typed
    pure (s.top fun n => { n with decl := d }))
  pure (({ s with nest := s.nest ++ [0] } : PS).do_ [.block, .functionEnd])
end Pm
end Go.Proofs.Ythodjlhjfaccpaa
