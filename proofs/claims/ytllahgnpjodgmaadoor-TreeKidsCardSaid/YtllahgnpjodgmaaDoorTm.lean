/- What a tree is (chapter 3), on plain data: the fields, the kids, the order; as the program looks at it, and as the document's own answer does. No program here. -/
import Derived.Test.YtllahgnpjodgmaaDoorPm
set_option linter.unusedVariables false
namespace Go.Proofs.YtllahgnpjodgmaaDoor
open Pm
namespace Tm

def isE (k : Int) : Bool := decide (20 ≤ k) && decide (k ≤ 31)
def isS (k : Int) : Bool := decide (3 ≤ k) && decide (k ≤ 14)
def named (k : Int) : Bool := k == 1 || k == 2 || k == 4 || k == 5 || k == 6 || k == 24 || k == 25
/-- A node's fields but its kids. -/
def fields (n : Nd) : Bool :=
  (n.where_ == 0 || named n.kind || n.kind == 31) && (if named n.kind then isNm n.name.data.toList else n.name.data.toList.isEmpty) &&
  (if n.kind = 1 then decide (0 ≤ n.decl) && decide (n.decl ≤ 3) else if n.kind = 2 ∨ n.kind = 4 then decide (1 ≤ n.decl) && decide (n.decl ≤ 3) else n.decl == 0) &&
  (if n.kind = 30 then decide (20 ≤ n.op) && decide (n.op ≤ 22) else if n.kind = 31 then decide (1 ≤ n.op) && decide (n.op ≤ 19) else n.op == 0) &&
  (if n.kind = 20 then decide (0 ≤ n.value) else n.value == 0) &&
  (n.type == 0 || (isE n.kind && decide (0 < n.type) && decide (n.type ≤ 3))) && (n.close == 0 || n.kind == 1)
/-- The kinds of a node's kids. -/
def kidsOk (k : Int) (l : List Int) : Bool :=
  if k = 1 then decide (0 < l.length) && l.getLastD 0 == 3 && l.dropLast.all (· == 2)
  else if k = 3 then l.all isS
  else if k = 4 ∨ k = 12 then decide (l.length ≤ 1) && l.all isE
  else if k = 5 ∨ k = 8 ∨ k = 9 ∨ k = 27 ∨ k = 28 ∨ k = 30 then l.length == 1 && l.all isE
  else if k = 6 ∨ k = 29 ∨ k = 31 then l.length == 2 && l.all isE
  else if k = 7 then l.length == 1 && l.headD 0 == 25
  else if k = 10 then (l.length == 2 || l.length == 3) && isE (l.headD 0) && l.getD 1 0 == 3 && (l.drop 2).all (fun x => x == 3 || x == 10)
  else if k = 11 then (l.length == 1 || l.length == 2) && l.getLastD 0 == 3 && l.dropLast.all isE
  else if k = 25 then l.all isE
  else if k = 2 ∨ k = 13 ∨ k = 14 ∨ k = 20 ∨ k = 21 ∨ k = 22 ∨ k = 23 ∨ k = 24 ∨ k = 26 then l.length == 0
  else false
def kindOf (nodes : List Nd) (k : Int) : Int := (nodes.getD k.toNat {}).kind
/-- One node, behind those that wait for their parent. -/
def step (nodes : List Nd) (n : Nd) (i : Nat) (wait : List Int) : Option (List Int) :=
  if fields n = true ∧ n.kids.length ≤ wait.length ∧ wait.drop (wait.length - n.kids.length) = n.kids ∧ kidsOk n.kind (n.kids.map (kindOf nodes)) = true
  then some (wait.take (wait.length - n.kids.length) ++ [(i : Int)]) else none
/-- So many nodes, from the i-th on. -/
def go (nodes : List Nd) : Nat → Nat → List Int → Option (List Int)
  | 0, _, wait => some wait
  | m + 1, i, wait => (step nodes (nodes.getD i {}) i wait).bind (go nodes m (i + 1))
def check (nodes : List Nd) (funcs : List Int) : Bool := match go nodes nodes.length 0 [] with
  | none => false
  | some wait => decide (wait = funcs) && funcs.all (fun f => kindOf nodes f == 1)

/-- Kids stand ahead of their node: the numbers from lo to hi are those of rs and all below them, in the order of a walk. -/
inductive Fo (ks : Nat → List Nat) : Nat → Nat → List Nat → Prop
  | nil (lo : Nat) : Fo ks lo lo []
  | cons {lo r hi : Nat} {rs : List Nat} : Fo ks lo r (ks r) → Fo ks (r + 1) hi rs → Fo ks lo hi (r :: rs)
def kidsOf (nodes : List Nd) (k : Nat) : List Nat := (nodes.getD k {}).kids.map Int.toNat
variable {ks : Nat → List Nat}
theorem Fo.le {lo hi : Nat} {rs : List Nat} (h : Fo ks lo hi rs) : lo ≤ hi := by
  induction h with
  | nil => exact Nat.le_refl _
  | cons _ _ h1 h2 => omega
theorem Fo.append {lo mid hi : Nat} {a b : List Nat} (h : Fo ks lo mid a) (h2 : Fo ks mid hi b) : Fo ks lo hi (a ++ b) := by
  induction h with
  | nil => exact h2
  | cons h3 _ _ ih => exact .cons h3 (ih h2)
theorem Fo.split {lo hi : Nat} : ∀ {a b : List Nat}, Fo ks lo hi (a ++ b) → ∃ mid, Fo ks lo mid a ∧ Fo ks mid hi b
  | [], b, h => ⟨lo, .nil _, h⟩
  | x :: a, b, h => by
    cases h with
    | cons h1 h2 =>
      obtain ⟨mid, h3, h4⟩ := Fo.split h2
      exact ⟨mid, .cons h1 h3, h4⟩
theorem Fo.mem {lo hi : Nat} {rs : List Nat} (h : Fo ks lo hi rs) : ∀ r ∈ rs, lo ≤ r ∧ r < hi := by
  induction h with
  | nil => intro r hr; cases hr
  | @cons lo r hi rs h1 h2 _ ih =>
    intro x hx
    have := h1.le
    have := h2.le
    rcases List.mem_cons.1 hx with rfl | hx
    · omega
    · have := ih x hx; omega
/-- The last one is the last number. -/
theorem Fo.last {lo hi : Nat} {rs : List Nat} (h : Fo ks lo hi rs) : rs ≠ [] → ∃ r, rs.getLast? = some r ∧ r + 1 = hi := by
  induction h with
  | nil => intro h; exact absurd rfl h
  | @cons lo r hi rs h1 h2 _ ih =>
    intro _
    cases rs with
    | nil => cases h2; exact ⟨r, rfl, rfl⟩
    | cons y l =>
      obtain ⟨z, hz, he⟩ := ih (by simp)
      exact ⟨z, by rw [List.getLast?_cons_cons]; exact hz, he⟩

/-- What a tree is: all fields and kids right, the numbers in order, functions alone at the top. -/
structure Ok (nodes : List Nd) (funcs : List Int) : Prop where
  each : ∀ n ∈ nodes, fields n = true ∧ kidsOk n.kind (n.kids.map (kindOf nodes)) = true
  low : ∀ (i : Nat) (n : Nd), nodes[i]? = some n → ∀ k ∈ n.kids, 0 ≤ k ∧ k < (i : Int)
  fo : Fo (kidsOf nodes) 0 nodes.length (funcs.map Int.toNat)
  nn : ∀ f ∈ funcs, 0 ≤ f
  funcs : funcs.all (fun f => kindOf nodes f == 1) = true
end Tm
end Go.Proofs.YtllahgnpjodgmaaDoor
