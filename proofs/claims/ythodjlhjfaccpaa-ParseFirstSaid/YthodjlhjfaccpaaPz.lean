/- function, functionEnd; each step goes on well. No program here. -/
import Derived.Test.YthodjlhjfaccpaaPy
set_option linter.unusedVariables false
namespace Go.Proofs.Ythodjlhjfaccpaa
open Go
namespace Pm
variable {s s' : PS} {x : Sym} {r : List Sym}

theorem nx_functionEnd (inv : Inv s) (hs : s.todo = .functionEnd :: r) (h : ({ s with todo := r } : PS).rule .functionEnd = .ok s') : Nx s s' := by
  have hgd := inv.good
  rw [hs] at hgd
  simp only [Good] at hgd
  have hn := inv.nest_of hs rfl
  obtain ⟨f, F', hF, hf, hgood⟩ := hgd
  have hb : ∃ n rb, s.begun = (n, f) :: rb ∧ rb.map (·.2) = F' := by
    unfold froms at hF
    cases hb : s.begun with
    | nil => rw [hb] at hF; cases hF
    | cons y rb =>
      rw [hb, List.map_cons] at hF
      injection hF with h1 h2
      exact ⟨y.1, rb, by rw [← h1], h2⟩
  obtain ⟨n, rb, hb, hrb⟩ := hb
  replace h : Except.ok ({ s with todo := r } : PS).functionEnd = .ok s' := h
  injection h with h
  have hd : ∃ N : Nd, s' = { s with todo := r, begun := rb, nodes := s.nodes ++ [N], loose := [], funcs := s.funcs ++ [((s.nodes ++ [N]).length : Int) - 1] } := by
    rw [← h]
    unfold PS.functionEnd PS.top PS.done
    rw [show ({ s with todo := r } : PS).begun = s.begun from rfl, hb]
    exact ⟨_, rfl⟩
  obtain ⟨N, rfl⟩ := hd
  have hpr := pen_le r
  refine ⟨⟨?_, .inl hn, inv.at1, inv.le, fun i hi => by cases hi⟩, ?_, ?_, rfl, rfl⟩
  · show Good r (rb.map (·.2)) 0
    rw [hrb]; exact hgood
  · unfold Pm.mu rem
    rw [hs]
    show 30 * (s.toks.length - s.at_) + sumOf wt r + 4 * pen r < _
    simp only [sumOf_cons, pen_cons, wt, pen0]
    omega
  · unfold Pm.phi rem PS.sz
    rw [hs, hb]
    simp only [sumOf_cons, pen_cons, pot, pen0, List.length_append, List.length_cons, List.length_nil]
    omega

/-- What has no parent is a node. -/
def LV (s : PS) : Prop := ∀ i ∈ s.loose, ∃ j : Nat, i = j ∧ j < s.nodes.length
theorem param_lv (h : s.param = .ok s') (hl : LV s) : LV s' := by
  obtain ⟨⟨t, s1⟩, h1, h⟩ := bind_ok h
  obtain ⟨_, rfl, _, l1⟩ := take_ok (by decide) h1
  obtain ⟨⟨d, s2⟩, h2, h⟩ := bind_ok h
  obtain ⟨fx, hlt, he, hsz⟩ := typed_ok h2
  obtain rfl := pure_ok h
  have hl2 := congrArg PS.loose he
  replace hl2 : s2.loose = s.loose := hl2
  have hn2 := congrArg PS.nodes he
  replace hn2 : s2.nodes = s.nodes := hn2
  have hN : ∀ n : Nd, ∃ N : Nd, s2.leaf n = { s2 with nodes := s2.nodes ++ [N], loose := s2.loose ++ [(s2.nodes.length : Int)] } := fun n => ⟨_, leaf_eq s2 n⟩
  obtain ⟨N, hN⟩ := hN { kind := 2, at_ := t.at_, where_ := t.at_, name := t.name, decl := d }
  rw [hN]
  intro i hi
  show ∃ j : Nat, i = j ∧ j < (s2.nodes ++ [N]).length
  have hi' : i ∈ s2.loose ++ [(s2.nodes.length : Int)] := hi
  rw [hl2, hn2] at hi'
  rw [hn2]
  rcases List.mem_append.1 hi' with hi | hi
  · obtain ⟨j, hj, hl⟩ := hl i hi
    exact ⟨j, hj, by rw [List.length_append]; omega⟩
  · exact ⟨s.nodes.length, by simpa using hi, by simp⟩
theorem params_ok : ∀ (n : Nat) {s s' : PS}, PS.params n s = .ok s' → Fx s s' ∧ (LV s → LV s')
  | 0, s, s', h => by injection h with h; subst h; exact ⟨Fx.refl _, id⟩
  | n + 1, s, s', h => by
    unfold PS.params at h
    split at h
    · injection h with h; subst h; exact ⟨Fx.refl _, id⟩
    · obtain ⟨s1, h1, h⟩ := bind_ok h
      obtain ⟨_, rfl, l1⟩ := expect_ok (by decide) h1
      obtain ⟨s2, h2, h⟩ := bind_ok h
      obtain ⟨fx, hv⟩ := params_ok n h
      exact ⟨((Fx.skip l1).trans (param_ok h2).1).trans fx, fun hl => hv (param_lv h2 hl)⟩

/-- What is known of the state ahead of the function's body. -/
structure Fh (s u : PS) (f : Nat) : Prop where
  toks : u.toks = s.toks
  en : u.en = s.en
  todo : u.todo = s.todo
  froms : froms u = f :: froms s
  nest : u.nest = s.nest
  funcs : u.funcs = s.funcs
  open_ : u.open_ = s.open_
  at_ : s.at_ < u.at_
  le : u.at_ ≤ s.toks.length
  loose : f ≤ u.loose.length
  lv : LV s → LV u
  sz : u.sz + 2 * (s.toks.length - u.at_) ≤ s.sz + 1 + 2 * (s.toks.length - s.at_ - 3)
  three : s.at_ + 3 ≤ u.at_
theorem Fh.fx {s u v : PS} {f : Nat} (h : Fh s u f) (k : Fx u v) (hv : LV u → LV v) : Fh s v f where
  toks := k.toks.trans h.toks
  en := k.en.trans h.en
  todo := k.todo.trans h.todo
  froms := by unfold Pm.froms at *; rw [k.begun]; exact h.froms
  nest := k.nest.trans h.nest
  funcs := k.funcs.trans h.funcs
  open_ := k.open_.trans h.open_
  at_ := Nat.lt_of_lt_of_le h.at_ k.at_
  le := by have := k.end_ (by rw [h.toks]; exact h.le); rwa [k.toks, h.toks] at this
  loose := Nat.le_trans h.loose k.loose
  lv := fun hl => hv (h.lv hl)
  sz := by have h1 := k.sz; have h2 := h.sz; rw [k.toks, h.toks] at h1; omega
  three := Nat.le_trans h.three k.at_
theorem function_ok {t s' : PS} (h : t.function = .ok s') : ∃ u, Fh t u t.loose.length ∧ s' = ({ u with nest := u.nest ++ [0] } : PS).do_ [.block, .functionEnd] := by
  obtain ⟨⟨tk, s1⟩, h1, h⟩ := bind_ok h
  obtain ⟨_, rfl, _, l1⟩ := take_ok (by decide) h1
  obtain ⟨⟨tk2, s2⟩, h2, h⟩ := bind_ok h
  obtain ⟨_, rfl, _, l2⟩ := take_ok (by decide) h2
  obtain ⟨s3, h3, h⟩ := bind_ok h
  obtain ⟨_, rfl, l3⟩ := expect_ok (by decide) h3
  have H0 : ∀ n : Nd, Fh t (t.skip.skip.begin_ n 0).skip t.loose.length := fun n =>
    ⟨rfl, rfl, rfl, rfl, rfl, rfl, rfl, by show t.at_ < t.at_ + 1 + 1 + 1; omega, l3, Nat.le_refl _, id, by
      have h1 : PS.sz (t.skip.skip.begin_ n 0).skip = t.sz + 1 := begin_sz (s := t.skip.skip) n 0
      rw [h1]
      show t.sz + 1 + 2 * (t.toks.length - (t.at_ + 1 + 1 + 1)) ≤ _
      omega, Nat.le_refl _⟩
  have tail : ∀ u, Fh t u t.loose.length → ((PS.params (u.toks.length - u.at_) u).bind PS.fnTail = .ok s') → ∃ u, Fh t u t.loose.length ∧ s' = ({ u with nest := u.nest ++ [0] } : PS).do_ [.block, .functionEnd] := by
    intro u hu h
    obtain ⟨v, h4, h⟩ := bind_ok h
    obtain ⟨fx, hv⟩ := params_ok _ h4
    have Hv := hu.fx fx hv
    obtain ⟨v1, h5, h⟩ := bind_ok h
    obtain ⟨_, rfl, l5⟩ := expect_ok (by decide) h5
    have Hv1 := Hv.fx (Fx.skip l5) id
    dsimp only at h
    split at h
    · obtain rfl := pure_ok h
      exact ⟨_, Hv1, rfl⟩
    · obtain ⟨w, h6, h⟩ := bind_ok h
      obtain ⟨⟨d, v2⟩, h7, h6⟩ := bind_ok h6
      obtain rfl := pure_ok h6
      obtain ⟨fx2, hlt, he, hsz⟩ := typed_ok h7
      obtain rfl := pure_ok h
      have hlv : LV v.skip → LV v2 := fun hl => by rw [he]; exact hl
      have Hv2 := Hv1.fx fx2 hlv
      refine ⟨v2.top fun n => { n with decl := d }, ?_, rfl⟩
      have hf := Hv2.froms
      cases hb : v2.begun with
      | nil => unfold froms at hf; rw [hb] at hf; cases hf
      | cons y rb =>
        obtain ⟨n, f⟩ := y
        have htop : (v2.top fun n => { n with decl := d }) = { v2 with begun := ({ n with decl := d }, f) :: rb } := by unfold PS.top; rw [hb]
        rw [htop]
        refine ⟨Hv2.toks, Hv2.en, Hv2.todo, ?_, Hv2.nest, Hv2.funcs, Hv2.open_, Hv2.at_, Hv2.le, Hv2.loose, Hv2.lv, ?_, Hv2.three⟩
        · unfold froms at hf ⊢; rw [hb] at hf; exact hf
        · have h7 := Hv2.sz
          have h8 : PS.sz { v2 with begun := ({ n with decl := d }, f) :: rb } = v2.sz := by simp only [PS.sz, hb, List.length_cons]
          rw [h8]; exact h7
  dsimp only at h
  split at h
  · exact tail _ (H0 _) h
  · obtain ⟨u, h4, h⟩ := bind_ok h
    exact tail u ((H0 _).fx (param_ok h4).1 (fun hl => param_lv h4 hl)) h

theorem nx_function (inv : Inv s) (hs : s.todo = .function :: r) (h : ({ s with todo := r } : PS).rule .function = .ok s') : Nx s s' := by
  have hg := inv.good
  rw [hs] at hg
  simp only [Good] at hg
  obtain ⟨u, hu, rfl⟩ := function_ok (t := { s with todo := r }) h
  have hpr := pen_le r
  have hle := inv.le
  have h1 : u.toks = s.toks := hu.toks
  have h2 : u.todo = r := hu.todo
  have h3 : s.at_ < u.at_ := hu.at_
  have h4 : u.at_ ≤ s.toks.length := hu.le
  have h5 : s.at_ + 3 ≤ u.at_ := hu.three
  have h6 : u.sz + 2 * (s.toks.length - u.at_) ≤ PS.sz { s with todo := r } + 1 + 2 * (s.toks.length - s.at_ - 3) := hu.sz
  have h7 : PS.sz { s with todo := r } + 1 = s.sz := by simp only [PS.sz, hs, List.length_cons]; omega
  have h8 : PS.sz (({ u with nest := u.nest ++ [0] } : PS).do_ [.block, .functionEnd]) = u.sz + 3 := by
    simp only [PS.sz, PS.do_, List.length_append, List.length_cons, List.length_nil]; omega
  have h9 : froms u = s.loose.length :: froms s := hu.froms
  have h10 : s.loose.length ≤ u.loose.length := hu.loose
  refine ⟨⟨?_, .inl (by show u.nest ++ [0] ≠ []; simp), fun _ => by show 1 ≤ u.at_; omega, by show u.at_ ≤ u.toks.length; rw [h1]; exact h4, hu.lv inv.loose⟩, ?_, ?_, h1, hu.en⟩
  · show Good (.block :: .functionEnd :: u.todo) (froms u) u.loose.length
    rw [h2, h9]
    simp only [Good, topF_cons]
    exact ⟨h10, _, _, rfl, by omega, hg⟩
  · unfold Pm.mu rem
    rw [hs]
    show 30 * (u.toks.length - u.at_) + sumOf wt (.block :: .functionEnd :: u.todo) + 4 * pen (.block :: .functionEnd :: u.todo) < _
    rw [h1, h2]
    simp only [sumOf_cons, pen_cons, wt, pen0]
    omega
  · unfold Pm.phi rem
    rw [h8, hs]
    show u.sz + 3 + sumOf pot (.block :: .functionEnd :: u.todo) + pen (.block :: .functionEnd :: u.todo) + 12 * (u.toks.length - u.at_) ≤ _
    rw [h1, h2]
    simp only [sumOf_cons, pen_cons, pot, pen0]
    omega

/-- Each step goes on well. -/
theorem step_nx (inv : Inv s) (hs : s.todo = x :: r) (h : ({ s with todo := r } : PS).rule x = .ok s') : Nx s s' := by
  cases x with
  | program => exact nx_program inv hs h
  | function => exact nx_function inv hs h
  | functionEnd => exact nx_functionEnd inv hs h
  | block => exact nx_block inv hs h
  | statements => exact nx_statements inv hs h
  | statement => exact nx_statement inv hs h
  | semi => exact nx_semi inv hs h
  | done => exact nx_done inv hs h
  | closed => exact nx_closed inv hs h
  | shut => exact nx_shut inv hs h
  | leave => exact nx_leave inv hs h
  | set => exact nx_set inv hs h
  | arguments => exact nx_arguments inv hs h
  | moreArguments => exact nx_moreArguments inv hs h
  | otherwise => exact nx_otherwise inv hs h
  | condition => exact nx_condition inv hs h
  | expression => exact nx_expression inv hs h
  | both => exact nx_both inv hs h
  | either => exact nx_either inv hs h
  | compared => exact nx_compared inv hs h
  | andMore => exact nx_andMore inv hs h
  | sum => exact nx_sum inv hs h
  | compare => exact nx_compare inv hs h
  | nothing => exact nx_nothing inv hs h
  | product => exact nx_product inv hs h
  | sumMore => exact nx_sumMore inv hs h
  | signed => exact nx_signed inv hs h
  | productMore => exact nx_productMore inv hs h
  | plain => exact nx_plain inv hs h
  | index => exact nx_index inv hs h

/-- What a rule wants is there. -/
theorem inv_pre (inv : Inv s) (hs : s.todo = x :: r) : Pre { s with todo := r } x := by
  have hg := inv.good
  rw [hs] at hg
  have htop : ∀ f F', froms s = f :: F' → f ≤ s.loose.length → HasTop { s with todo := r } := by
    intro f F' hF hf
    unfold froms at hF
    cases hb : s.begun with
    | nil => rw [hb] at hF; cases hF
    | cons y rb =>
      rw [hb, List.map_cons] at hF
      injection hF with h1 h2
      exact ⟨y.1, f, rb, by show y :: rb = _; rw [← h1], hf⟩
  have hleft : 1 ≤ s.loose.length → HasLeft { s with todo := r } := by
    intro h1
    have h2 : s.loose[s.loose.length - 1]? = some s.loose[s.loose.length - 1] := List.getElem?_eq_getElem (by omega)
    obtain ⟨j, hj, hl⟩ := inv.loose s.loose[s.loose.length - 1] (List.getElem_mem (by omega))
    exact ⟨j, by show s.loose[s.loose.length - 1]? = _; rw [h2, hj], hl⟩
  cases x <;> simp only [Good] at hg <;> simp only [Pre]
  case functionEnd =>
    obtain ⟨f, F', hF, hf, _⟩ := hg
    exact ⟨htop f F' hF hf, inv.at1 (inv.nest_of hs rfl)⟩
  case done => obtain ⟨f, F', hF, hf, _⟩ := hg; exact htop f F' hF hf
  case statements => obtain ⟨f, F', hF, hf, _⟩ := hg; exact htop f F' hF hf
  case otherwise => obtain ⟨f, F', hF, hf, _⟩ := hg; exact ⟨inv.nest_of hs rfl, htop f F' hF hf⟩
  case index => exact ⟨inv.nest_of hs rfl, hleft (by omega)⟩
  case either => exact hleft (by omega)
  case andMore => exact hleft (by omega)
  case compare => exact hleft (by omega)
  case sumMore => exact hleft (by omega)
  case productMore => exact hleft (by omega)
  all_goals exact inv.nest_of hs rfl
end Pm
end Go.Proofs.Ythodjlhjfaccpaa
