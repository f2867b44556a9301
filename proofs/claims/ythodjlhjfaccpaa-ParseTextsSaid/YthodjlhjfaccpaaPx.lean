/- The plain machine goes on well: an invariant that gives each rule what it wants; a measure that falls; a size that is bound. No program here. -/
import Derived.Test.YthodjlhjfaccpaaPu
set_option linter.unusedVariables false
namespace Go.Proofs.Ythodjlhjfaccpaa
open Go
namespace Pm

def topF : List Nat → Nat
  | [] => 0
  | f :: _ => f
/-- What is still to be read fits to the nodes that were begun and to those that have no parent. -/
def Good : List Sym → List Nat → Nat → Prop
  | [], _, _ => True
  | x :: r, F, n => match x with
    | .expression | .both | .compared | .sum | .product | .signed | .plain | .block | .statement | .condition => topF F ≤ n ∧ Good r F (n + 1)
    | .either | .andMore | .compare | .sumMore | .productMore | .index => topF F + 1 ≤ n ∧ Good r F n
    | .nothing | .semi | .closed | .shut | .leave | .set => Good r F n
    | .done | .statements | .otherwise => ∃ f F', F = f :: F' ∧ f ≤ n ∧ Good r F' (f + 1)
    | .functionEnd => ∃ f F', F = f :: F' ∧ f ≤ n ∧ Good r F' 0
    | .arguments | .moreArguments => topF F ≤ n ∧ ∀ m, n ≤ m → Good r F m
    | .function => Good r F 0
    | .program => ∀ m, Good r F m
def froms (s : PS) : List Nat := s.begun.map (·.2)
def isTop (x : Sym) : Bool := match x with | .program | .function => true | _ => false

structure Inv (s : PS) : Prop where
  good : Good s.todo (froms s) s.loose.length
  nest : s.nest ≠ [] ∨ s.todo.all isTop = true
  at1 : s.nest ≠ [] → 1 ≤ s.at_
  le : s.at_ ≤ s.toks.length
  loose : ∀ i ∈ s.loose, ∃ j : Nat, i = j ∧ j < s.nodes.length

def wt : Sym → Nat
  | .signed => 3 | .product => 5 | .sum => 7 | .compared => 9 | .both => 11 | .expression => 13 | .arguments => 15 | .statement => 3 | .function => 3 | _ => 1
def pot : Sym → Nat
  | .signed => 1 | .product => 2 | .sum => 3 | .compared => 4 | .both => 5 | .expression => 6 | .arguments => 7 | _ => 0
def sumOf (f : Sym → Nat) : List Sym → Nat
  | [] => 0
  | x :: r => f x + sumOf f r
def pen0 : Sym → Nat
  | .statement | .function | .block => 0
  | _ => 1
def pen : List Sym → Nat
  | [] => 1
  | x :: _ => pen0 x
def rem (s : PS) : Nat := s.toks.length - s.at_
def mu (s : PS) : Nat := 30 * rem s + sumOf wt s.todo + 4 * pen s.todo
def phi (s : PS) : Nat := s.sz + sumOf pot s.todo + pen s.todo + 12 * rem s
theorem sumOf_append (f : Sym → Nat) : ∀ l r, sumOf f (l ++ r) = sumOf f l + sumOf f r
  | [], r => by simp [sumOf]
  | x :: l, r => by simp only [List.cons_append, sumOf, sumOf_append f l r]; omega
theorem pen_le : ∀ l, pen l ≤ 1
  | [] => Nat.le_refl _
  | x :: _ => by cases x <;> simp [pen, pen0]
theorem pen_cons (x : Sym) (r : List Sym) : pen (x :: r) = pen0 x := rfl
theorem sumOf_cons (f : Sym → Nat) (x : Sym) (r : List Sym) : sumOf f (x :: r) = f x + sumOf f r := rfl
theorem pen_append : ∀ l r, pen (l ++ r) ≤ pen l
  | [], r => pen_le r
  | _ :: _, _ => Nat.le_refl _

/-- A step goes on well. -/
structure Nx (s s' : PS) : Prop where
  inv : Inv s'
  mu : mu s' < mu s
  phi : phi s' ≤ phi s
  toks : s'.toks = s.toks
  en : s'.en = s.en

variable {s s' : PS} {x : Sym} {r : List Sym}
theorem Inv.nest_of (h : Inv s) (hs : s.todo = x :: r) (hx : isTop x = false) : s.nest ≠ [] := by
  rcases h.nest with h1 | h1
  · exact h1
  · rw [hs, List.all_cons, hx] at h1; simp at h1

/-- Things are put in the place of the next one. -/
theorem Nx.mk' (hs : s.todo = x :: r) (inv : Inv s) (l : List Sym) (P : List Nat) (c o q p : Nat) (hP : P.length = p) (h1 : s'.todo = l ++ r) (h2 : s'.toks = s.toks) (he : s'.en = s.en) (h3 : s'.at_ = s.at_ + c) (h4 : s.at_ + c ≤ s.toks.length)
    (h5 : froms s' = P ++ froms s) (h6 : s'.loose.length = s.loose.length + q) (h7 : s'.nodes.length = s.nodes.length + q) (h8 : s'.nest.length = s.nest.length) (h9 : s'.funcs = s.funcs) (h10 : s'.open_.natAbs ≤ s.open_.natAbs + o)
    (hn : s.nest ≠ [] ∨ (s.nest = [] ∧ s'.todo.all isTop = true)) (hl : ∀ i ∈ s'.loose, ∃ j : Nat, i = j ∧ j < s'.nodes.length) (hg : Good (l ++ r) (P ++ froms s) (s.loose.length + q))
    (hm : sumOf wt l + 4 * pen l < wt x + 4 * pen0 x + 30 * c) (hp : l.length + p + o + 2 * q + sumOf pot l + pen l ≤ 1 + pot x + pen0 x + 12 * c) : Nx s s' where
  inv := by
    refine ⟨by rw [h1, h5, h6]; exact hg, ?_, ?_, by rw [h2, h3]; exact h4, hl⟩
    · rcases hn with h | h
      · exact .inl fun h' => h (List.eq_nil_of_length_eq_zero (by rw [← h8, h']; rfl))
      · exact .inr h.2
    · intro h'
      rcases hn with h | h
      · have := inv.at1 h; omega
      · exact absurd (List.eq_nil_of_length_eq_zero (by rw [h8, h.1]; rfl)) h'
  mu := by
    have h11 := pen_append l r
    unfold Pm.mu rem
    rw [h1, h2, h3, hs, sumOf_append]
    simp only [sumOf_cons, pen_cons]
    omega
  phi := by
    have h11 := pen_append l r
    have h12 : s'.begun.length = p + s.begun.length := by
      have := congrArg List.length h5
      simpa [froms, hP] using this
    unfold Pm.phi rem PS.sz
    rw [h1, h2, h3, hs, sumOf_append, h12, h6, h7, h8, h9, List.length_append]
    simp only [sumOf_cons, pen_cons, List.length_cons]
    omega
  toks := h2
  en := he

/-- The node that was begun last is ended. -/
theorem Nx.done' (hs : s.todo = x :: r) (inv : Inv s) (t : PS) (c o : Nat) (hx : wt x = 1 ∧ pen0 x = 1) (h1 : t.todo = r) (h2 : t.toks = s.toks) (he : t.en = s.en) (h3 : t.at_ = s.at_ + c) (h4 : s.at_ + c ≤ s.toks.length)
    (h5 : t.begun = s.begun) (h6 : t.loose = s.loose) (h7 : t.nodes = s.nodes) (h8 : t.nest = s.nest) (h9 : t.funcs = s.funcs) (h10 : t.open_.natAbs ≤ s.open_.natAbs + o) (hn : s.nest ≠ [])
    (hg : ∃ f F', froms s = f :: F' ∧ f ≤ s.loose.length ∧ Good r F' (f + 1)) (ho : o ≤ 12 * c) : Nx s t.done := by
  obtain ⟨f, F', hF, hf, hgood⟩ := hg
  have hb : ∃ n rb, s.begun = (n, f) :: rb ∧ rb.map (·.2) = F' := by
    unfold froms at hF
    cases hb : s.begun with
    | nil => rw [hb] at hF; cases hF
    | cons y rb =>
      rw [hb, List.map_cons] at hF
      injection hF with h1 h2
      exact ⟨y.1, rb, by rw [← h1], h2⟩
  obtain ⟨n, rb, hb, hrb⟩ := hb
  have hd : t.done = { t with begun := rb, nodes := s.nodes ++ [{ n with kids := s.loose.drop f }], loose := s.loose.take f ++ [(s.nodes.length : Int)] } := by
    unfold PS.done; rw [h5, hb, h6, h7]
  generalize ({ n with kids := s.loose.drop f } : Nd) = N at hd
  have hlen : (s.loose.take f ++ [(s.nodes.length : Int)]).length = f + 1 := by rw [List.length_append, List.length_take, Nat.min_eq_left hf]; rfl
  rw [hd]
  have hpr := pen_le r
  refine ⟨⟨?_, .inl (by show t.nest ≠ []; rw [h8]; exact hn), ?_, ?_, ?_⟩, ?_, ?_, h2, he⟩
  · show Good t.todo (rb.map (·.2)) (s.loose.take f ++ [(s.nodes.length : Int)]).length
    rw [hlen, h1, hrb]; exact hgood
  · intro _
    have := inv.at1 hn
    show 1 ≤ t.at_
    omega
  · show t.at_ ≤ t.toks.length
    rw [h2, h3]; exact h4
  · intro i hi
    show ∃ j : Nat, i = j ∧ j < (s.nodes ++ [N]).length
    rcases List.mem_append.1 hi with hi | hi
    · obtain ⟨j, hj, hl⟩ := inv.loose i (List.mem_of_mem_take hi)
      exact ⟨j, hj, by rw [List.length_append]; omega⟩
    · exact ⟨s.nodes.length, by simpa using hi, by simp⟩
  · unfold Pm.mu rem
    show 30 * (t.toks.length - t.at_) + sumOf wt t.todo + 4 * pen t.todo < _
    rw [h1, h2, h3, hs]
    simp only [sumOf_cons, pen_cons]
    omega
  · unfold Pm.phi rem PS.sz
    show t.todo.length + (s.nodes ++ [N]).length + t.funcs.length + (s.loose.take f ++ [(s.nodes.length : Int)]).length + rb.length + t.nest.length + t.open_.natAbs + sumOf pot t.todo + pen t.todo + 12 * (t.toks.length - t.at_) ≤ _
    rw [hlen, h1, h2, h3, h8, h9, hs, hb, List.length_append]
    simp only [sumOf_cons, pen_cons, List.length_cons, List.length_nil]
    omega
end Pm
end Go.Proofs.Ythodjlhjfaccpaa
