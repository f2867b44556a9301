/- The parser of package parse as a machine on plain data: what is still to be read is a list of rules; each rule takes a state to a state, or to a fault. No program here.
Words for memory: what has changed, what is kept, what a call owns; blocks that are known whole; slices that read as lists.
Names of MiniGo: what their bytes are.
Trees and slices as they lie in memory.
What a call holds: blocks known whole and rows of its own, all apart from one another and from what was there; each step of a walk takes one such list to the next.
More steps of what a call holds: a slice that can be read is appended to a row of the call's own.
Slices and trees that read so. -/
import Derived.Below
import Derived.Test.YtllahgnpjodgmaaDoorReg
import Derived.Deep.AppendLies
import Derived.OneCell
import Derived.Deep.Draws
import Derived.Tactics2
import Derived.WalkKit
import Derived.WalkSpells
import Derived.WalkLawsBesides
import Derived.OwnWalk
import Derived.Laws.Pointers
import Derived.KernelRfl
import Derived.Outline
import Derived.Lib.Hide
import Derived.LoopTactic
import Derived.Deep.LoopGhost
import Derived.Lib.Strings
import Derived.Laws.AppendOwnNone
namespace Go.Proofs.YtllahgnpjodgmaaDoor
namespace Pm

structure Tok where
  kind : Int
  at_ : Int
  value : Int
  name : ByteArray

structure Nd where
  kind : Int := 0
  at_ : Int := 0
  where_ : Int := 0
  close : Int := 0
  decl : Int := 0
  type : Int := 0
  op : Int := 0
  value : Int := 0
  name : ByteArray := ⟨#[]⟩
  kids : List Int := []

inductive Sym where
  | program | function | functionEnd | block | statements | statement | semi | done | closed | shut | leave | set | arguments | moreArguments | otherwise | condition
  | expression | both | either | compared | andMore | sum | compare | nothing | product | sumMore | signed | productMore | plain | index

structure PS where
  toks : List Tok
  en : Int
  at_ : Nat
  todo : List Sym
  nodes : List Nd
  funcs : List Int
  loose : List Int
  begun : List (Nd × Nat)
  open_ : Int
  nest : List Int

/-- The words of MiniGo. -/
def words : List (List UInt8) := [[102, 117, 110, 99], [118, 97, 114], [105, 102], [101, 108, 115, 101], [102, 111, 114], [114, 101, 116, 117, 114, 110], [98, 114, 101, 97, 107],
  [99, 111, 110, 116, 105, 110, 117, 101], [112, 114, 105, 110, 116], [112, 97, 110, 105, 99], [105, 110, 112, 117, 116], [108, 101, 110], [109, 97, 107, 101], [105, 110, 116], [98, 111, 111, 108],
  [116, 114, 117, 101], [102, 97, 108, 115, 101], [110, 105, 108]]
def letter (c : UInt8) : Bool := c == 95 || (decide (97 ≤ c) && decide (c ≤ 122)) || (decide (65 ≤ c) && decide (c ≤ 90))
def digit (c : UInt8) : Bool := decide (48 ≤ c) && decide (c ≤ 57)
/-- A name, and no word. -/
def isNm (l : List UInt8) : Bool := match l with
  | [] => false
  | c :: r => decide (l.length ≤ 64) && letter c && r.all (fun c => letter c || digit c) && !words.contains l

def right (t : Tok) : Bool :=
  if t.kind = 1 then isNm t.name.data.toList else if t.kind = 2 then decide (0 ≤ t.value) else decide (10 ≤ t.kind ∧ t.kind ≤ 27 ∨ 40 ≤ t.kind ∧ t.kind ≤ 68)

abbrev M := Except (Int × Int)

namespace PS
def kind (s : PS) : Int := match s.toks[s.at_]? with
  | none => 0
  | some t => if right t then t.kind else 0
def fault (s : PS) : Int × Int := match s.toks[s.at_]? with
  | none => (s.en, 41)
  | some t => (t.at_, 40)
def skip (s : PS) : PS := { s with at_ := s.at_ + 1 }
def cur (s : PS) : Tok := s.toks.getD s.at_ ⟨0, 0, 0, ⟨#[]⟩⟩
def take (s : PS) (k : Int) : M (Tok × PS) := if s.kind = k then .ok (s.cur, s.skip) else .error s.fault
def do_ (s : PS) (l : List Sym) : PS := { s with todo := l ++ s.todo }
def maxLast : List Int → Int → List Int
  | [], _ => []
  | [x], m => [max x m]
  | x :: y :: l, m => x :: maxLast (y :: l) m
def enter (s : PS) : PS := { s with open_ := s.open_ + 1, nest := maxLast s.nest (s.open_ + 1) }
def leave (s : PS) : PS := { s with open_ := s.open_ - 1 }
def begin_ (s : PS) (n : Nd) (kids : Nat) : PS := { s with begun := (n, s.loose.length - kids) :: s.begun }
def done (s : PS) : PS := match s.begun with
  | [] => s
  | (n, f) :: r => { s with begun := r, nodes := s.nodes ++ [{ n with kids := s.loose.drop f }], loose := s.loose.take f ++ [(s.nodes.length : Int)] }
def leaf (s : PS) (n : Nd) : PS := (s.begin_ n 0).done
def leftAt (s : PS) : Int := (s.nodes.getD (s.loose.getLastD 0).toNat {}).at_
def top (s : PS) (f : Nd → Nd) : PS := match s.begun with
  | [] => s
  | (n, k) :: r => { s with begun := (f n, k) :: r }
def expect (s : PS) (k : Int) : M PS := do let (_, s) ← s.take k; pure s

def opened (s : PS) (k : Int) : M PS := do let s ← s.expect k; pure s.enter
def closed (s : PS) : M PS := do let s ← s.expect 41; pure s.leave
def shut (s : PS) : M PS := do let s ← s.expect 45; pure s.leave

def typed (s : PS) : M (Int × PS) :=
  if s.kind = 23 then .ok (1, s.skip) else if s.kind = 24 then .ok (2, s.skip) else do
    let s ← s.expect 44
    let s ← s.expect 45
    let s ← s.expect 23
    pure (3, s)
def param (s : PS) : M PS := do
  let (n, s) ← s.take 1
  let (d, s) ← s.typed
  pure (s.leaf { kind := 2, at_ := n.at_, where_ := n.at_, name := n.name, decl := d })
/-- Parameters behind the first, as long as no parenthesis shuts them. -/
def params : Nat → PS → M PS
  | 0, s => .ok s
  | n + 1, s => if s.kind = 41 then .ok s else do
    let s ← s.expect 46
    let s ← s.param
    params n s
def function (s : PS) : M PS := do
  let (f, s) ← s.take 10
  let (name, s) ← s.take 1
  let s := s.begin_ { kind := 1, at_ := f.at_, where_ := name.at_, name := name.name } 0
  let s ← s.expect 40
  let s ← if s.kind = 41 then pure s else s.param
  let s ← params (s.toks.length - s.at_) s
  let s ← s.expect 41
  let s ← if s.kind = 42 then pure s else (do
    let (d, s) ← s.typed
    pure (s.top fun n => { n with decl := d }))
  pure (({ s with nest := s.nest ++ [0] } : PS).do_ [.block, .functionEnd])
def functionEnd (s : PS) : PS :=
  let s := (s.top fun n => { n with close := (s.toks.getD (s.at_ - 1) ⟨0, 0, 0, ⟨#[]⟩⟩).at_ }).done
  { s with funcs := s.funcs ++ [(s.nodes.length : Int) - 1], loose := [] }
def block (s : PS) : M PS := do
  let (t, s) ← s.take 42
  pure ((s.begin_ { kind := 3, at_ := t.at_ } 0).enter.do_ [.statements])
def statements (s : PS) : PS := if s.kind = 43 then s.skip.leave.done else s.do_ [.statement, .statements]
def word (s : PS) (k : Int) : PS := (s.skip.begin_ { kind := k, at_ := s.cur.at_ } 0).do_ [.semi, .done]
def variable_ (s : PS) : M PS := do
  let (t, s) ← s.take 11
  let (n, s) ← s.take 1
  let (d, s) ← s.typed
  let s := s.begin_ { kind := 4, at_ := t.at_, where_ := n.at_, name := n.name, decl := d } 0
  if s.kind = 48 then pure (s.skip.do_ [.expression, .semi, .done]) else pure (s.do_ [.semi, .done])
def named (s : PS) : M PS := do
  let (n, s) ← s.take 1
  if s.kind = 48 then
    pure ((s.skip.begin_ { kind := 5, at_ := n.at_, where_ := n.at_, name := n.name } 0).do_ [.expression, .semi, .done])
  else if s.kind = 44 then do
    let s ← s.opened 44
    pure ((s.begin_ { kind := 6, at_ := n.at_, where_ := n.at_, name := n.name } 0).do_ [.expression, .shut, .set, .expression, .semi, .done])
  else do
    let s ← s.opened 40
    pure (((s.begin_ { kind := 7, at_ := n.at_ } 0).begin_ { kind := 25, at_ := n.at_, where_ := n.at_, name := n.name } 0).do_ [.arguments, .done, .semi, .done])
def told (s : PS) (k : Int) : M PS := do
  let s ← (s.skip.begin_ { kind := k, at_ := s.cur.at_ } 0).opened 40
  pure (s.do_ [.expression, .closed, .semi, .done])
def condition (s : PS) : M PS := do
  let (t, s) ← s.take 12
  pure ((s.begin_ { kind := 10, at_ := t.at_ } 0).do_ [.expression, .block, .otherwise])
def otherwise (s : PS) : PS :=
  if s.kind = 13 then
    if (s.toks[s.at_ + 1]?).any (fun t => t.kind == 12) then s.skip.enter.do_ [.condition, .leave, .done] else s.skip.do_ [.block, .done]
  else s.done
def loop (s : PS) : M PS := do
  let (t, s) ← s.take 14
  let s := s.begin_ { kind := 11, at_ := t.at_ } 0
  if s.kind = 42 then pure (s.do_ [.block, .done]) else pure (s.do_ [.expression, .block, .done])
def returned (s : PS) : M PS := do
  let (t, s) ← s.take 15
  let s := s.begin_ { kind := 12, at_ := t.at_ } 0
  if s.kind = 47 then pure (s.do_ [.semi, .done]) else pure (s.do_ [.expression, .semi, .done])
def statement (s : PS) : M PS :=
  if s.kind = 11 then s.variable_ else if s.kind = 1 then s.named else if s.kind = 18 then s.told 8 else if s.kind = 19 then s.told 9 else if s.kind = 12 then s.condition
  else if s.kind = 14 then s.loop else if s.kind = 15 then s.returned else if s.kind = 16 then .ok (s.word 13) else if s.kind = 17 then .ok (s.word 14)
  else if s.kind = 42 then .ok (s.do_ [.block]) else .error s.fault

/-- A sign's operator between two values, and how close it holds them. -/
def operator (k : Int) : Int × Int :=
  if k = 67 then (19, 1) else if k = 66 then (18, 2) else if 49 ≤ k ∧ k ≤ 54 then (12 + k - 49, 3) else if k = 55 then (1, 4) else if k = 56 then (2, 4) else if k = 61 then (7, 4)
  else if k = 62 then (8, 4) else if k = 57 then (3, 5) else if k = 58 then (4, 5) else if k = 59 then (5, 5) else if k = 60 then (6, 5) else if k = 63 then (9, 5) else if k = 64 then (10, 5)
  else if k = 65 then (11, 5) else (0, 0)
def joined (s : PS) (level : Int) (next again : Sym) : PS :=
  if (operator s.kind).2 = level then
    ((s.begin_ { kind := 31, at_ := s.leftAt, where_ := s.cur.at_, op := (operator s.kind).1 } 1).skip).do_ [next, .done, again]
  else s
def signed (s : PS) : PS :=
  let go (op : Int) : PS := ((s.begin_ { kind := 30, at_ := s.cur.at_, op := op } 0).skip.enter).do_ [.signed, .leave, .done]
  if s.kind = 56 then go 20 else if s.kind = 68 then go 21 else if s.kind = 62 then go 22 else s.do_ [.plain, .index]
def index (s : PS) : M PS :=
  if s.kind = 44 then do
    let s ← (s.begin_ { kind := 29, at_ := s.leftAt } 1).opened 44
    pure (s.do_ [.expression, .shut, .done, .index])
  else .ok s
def name (s : PS) (t : Tok) : M PS :=
  if s.kind = 40 then do
    let s ← (s.begin_ { kind := 25, at_ := t.at_, where_ := t.at_, name := t.name } 0).opened 40
    pure (s.do_ [.arguments, .done])
  else .ok (s.leaf { kind := 24, at_ := t.at_, where_ := t.at_, name := t.name })
def made (s : PS) (t : Tok) : M PS := do
  let s ← (s.begin_ { kind := 28, at_ := t.at_ } 0).opened 40
  let s ← s.expect 44
  let s ← s.expect 45
  let s ← s.expect 23
  let s ← s.expect 46
  pure (s.do_ [.expression, .closed, .done])
def plain (s : PS) : M PS :=
  let t := s.cur
  let k := s.kind
  if k = 0 then .error s.fault
  else if k = 2 then .ok (s.skip.leaf { kind := 20, at_ := t.at_, value := t.value })
  else if k = 25 then .ok (s.skip.leaf { kind := 21, at_ := t.at_ })
  else if k = 26 then .ok (s.skip.leaf { kind := 22, at_ := t.at_ })
  else if k = 27 then .ok (s.skip.leaf { kind := 23, at_ := t.at_ })
  else if k = 20 then do
    let s ← s.skip.opened 40
    let s ← s.closed
    pure (s.leaf { kind := 26, at_ := t.at_ })
  else if k = 1 then s.skip.name t
  else if k = 21 then do
    let s ← (s.skip.begin_ { kind := 27, at_ := t.at_ } 0).opened 40
    pure (s.do_ [.expression, .closed, .done])
  else if k = 22 then s.skip.made t
  else if k = 40 then .ok (s.skip.enter.do_ [.expression, .closed])
  else .error s.fault
def arguments (s : PS) : M PS := if s.kind = 41 then s.closed else .ok (s.do_ [.expression, .moreArguments])
def moreArguments (s : PS) : M PS := if s.kind = 46 then .ok (s.skip.do_ [.expression, .moreArguments]) else s.closed
def program (s : PS) : PS := if s.at_ < s.toks.length then s.do_ [.function, .program] else s

/-- One rule. -/
def rule (s : PS) : Sym → M PS
  | .program => .ok s.program
  | .function => s.function
  | .functionEnd => .ok s.functionEnd
  | .block => s.block
  | .statements => .ok s.statements
  | .statement => s.statement
  | .semi => s.expect 47
  | .done => .ok s.done
  | .closed => s.closed
  | .shut => s.shut
  | .leave => .ok s.leave
  | .set => s.expect 48
  | .arguments => s.arguments
  | .moreArguments => s.moreArguments
  | .otherwise => .ok s.otherwise
  | .condition => s.condition
  | .expression => .ok (s.do_ [.both, .either])
  | .either => .ok (s.joined 1 .both .either)
  | .both => .ok (s.do_ [.compared, .andMore])
  | .andMore => .ok (s.joined 2 .compared .andMore)
  | .compared => .ok (s.do_ [.sum, .compare])
  | .compare => .ok (s.joined 3 .sum .nothing)
  | .sum => .ok (s.do_ [.product, .sumMore])
  | .sumMore => .ok (s.joined 4 .product .sumMore)
  | .product => .ok (s.do_ [.signed, .productMore])
  | .productMore => .ok (s.joined 5 .signed .productMore)
  | .signed => .ok s.signed
  | .plain => s.plain
  | .index => s.index
  | .nothing => .ok s

/-- The next thing is read. -/
def step (s : PS) : M PS := match s.todo with
  | [] => .ok s
  | x :: r => ({ s with todo := r } : PS).rule x
end PS
end Pm
end Go.Proofs.YtllahgnpjodgmaaDoor

namespace Go.Proofs.YtllahgnpjodgmaaDoor
namespace Mem
open Go Go.RowKit

/-- Nothing has changed but the blocks of S and what is new. -/
structure Ch (S : Nat → Prop) (w w' : World) : Prop where
  os : w'.os = w.os
  tape : w'.tape = w.tape
  output : w'.output = w.output
  size : w.heap.size ≤ w'.heap.size
  block : ∀ k, k < w.heap.size → ¬ S k → w'.heap[k]? = w.heap[k]?
namespace Ch
variable {S T : Nat → Prop} {w w1 w2 : World}
theorem refl (S : Nat → Prop) (w : World) : Ch S w w := ⟨rfl, rfl, rfl, Nat.le_refl _, fun _ _ _ => rfl⟩
theorem trans (h : Ch S w w1) (k : Ch S w1 w2) : Ch S w w2 :=
  ⟨k.os.trans h.os, k.tape.trans h.tape, k.output.trans h.output, Nat.le_trans h.size k.size, fun i hi hs => (k.block i (Nat.lt_of_lt_of_le hi h.size) hs).trans (h.block i hi hs)⟩
theorem mono (h : Ch S w w1) (hS : ∀ k, S k → T k) : Ch T w w1 := ⟨h.os, h.tape, h.output, h.size, fun k hk hs => h.block k hk fun h' => hs (hS k h')⟩
theorem alloc (h : Ch S w w1) (o : Obj) : Ch S w (w1.alloc o) :=
  h.trans ⟨rfl, rfl, rfl, by simp, fun k hk _ => Below.heap_alloc _ _ _ hk⟩
theorem drew (h : Ch S w w1) : Ch S w w1.drew := ⟨h.os, h.tape, h.output, h.size, h.block⟩
theorem drewN (h : Ch S w w1) (n : Nat) : Ch S w (w1.drewN n) := ⟨h.os, h.tape, h.output, h.size, h.block⟩
theorem setCell (h : Ch S w w1) {p : Addr} (hp : S p.block) (u : Value) : Ch S w (w1.setCell p u) :=
  h.trans ⟨rfl, rfl, rfl, by simp, fun k _ hs => Below.heap_setCell _ _ _ _ fun e => hs (e ▸ hp)⟩
/-- A store into what is new. -/
theorem setNew (h : Ch S w w1) {p : Addr} (hp : w.heap.size ≤ p.block) (u : Value) : Ch S w (w1.setCell p u) :=
  ⟨h.os, h.tape, h.output, by simpa using h.size, fun k hk hs => (Below.heap_setCell _ _ _ _ (by omega)).trans (h.block k hk hs)⟩
theorem grown {row : Option Nat} (h : Ch S w w1) (hg : w1.grownBy w2 row) (hr : ∀ g, row = some g → S g ∨ w.heap.size ≤ g) : Ch S w w2 :=
  ⟨hg.os.trans h.os, hg.tape.trans h.tape, hg.output.trans h.output, Nat.le_trans h.size hg.size, fun k hk hs =>
    (hg.block k (Nat.lt_of_lt_of_le hk h.size) (fun e => by rcases hr k e.symm with h1 | h1 <;> first | exact hs h1 | omega)).trans (h.block k hk hs)⟩
end Ch

/-- The blocks of A are as they were. -/
structure Kp (A : Nat → Prop) (w w' : World) : Prop where
  os : w'.os = w.os
  tape : w'.tape = w.tape
  output : w'.output = w.output
  size : w.heap.size ≤ w'.heap.size
  block : ∀ k, A k → w'.heap[k]? = w.heap[k]?
namespace Kp
variable {A B : Nat → Prop} {w w1 w2 : World}
theorem refl (A : Nat → Prop) (w : World) : Kp A w w := ⟨rfl, rfl, rfl, Nat.le_refl _, fun _ _ => rfl⟩
theorem trans (h : Kp A w w1) (k : Kp A w1 w2) : Kp A w w2 :=
  ⟨k.os.trans h.os, k.tape.trans h.tape, k.output.trans h.output, Nat.le_trans h.size k.size, fun i hi => (k.block i hi).trans (h.block i hi)⟩
theorem mono (h : Kp A w w1) (hB : ∀ k, B k → A k) : Kp B w w1 := ⟨h.os, h.tape, h.output, h.size, fun k hk => h.block k (hB k hk)⟩
theorem of_ch {S : Nat → Prop} (h : Ch S w w1) (hA : ∀ k, A k → k < w.heap.size) (hS : ∀ k, A k → ¬ S k) : Kp A w w1 :=
  ⟨h.os, h.tape, h.output, h.size, fun k hk => h.block k (hA k hk) (hS k hk)⟩
theorem cell (h : Kp A w w1) {p : Addr} (hp : A p.block) : w1.cell? p = w.cell? p := World.cell?_of_block (h.block _ hp)
theorem frozen (h : Kp A w w1) {p : Addr} (hp : A p.block) : w1.frozen? p = w.frozen? p := World.frozen?_of_block (h.block _ hp)
theorem below {B : Nat} (h : Kp (fun k => k < B) w w1) : Below B w w1 := ⟨h.os, h.tape, h.output, h.size, h.block⟩
theorem drew (h : Kp A w w1) : Kp A w w1.drew := ⟨h.os, h.tape, h.output, h.size, h.block⟩
theorem drewN (h : Kp A w w1) (n : Nat) : Kp A w (w1.drewN n) := ⟨h.os, h.tape, h.output, h.size, h.block⟩
theorem alloc (h : Kp A w w1) (hA : ∀ k, A k → k < w.heap.size) (o : Obj) : Kp A w (w1.alloc o) :=
  ⟨h.os, h.tape, h.output, Nat.le_trans h.size (by simp), fun k hk => (Below.heap_alloc _ _ _ (Nat.lt_of_lt_of_le (hA k hk) h.size)).trans (h.block k hk)⟩
theorem setCell (h : Kp A w w1) {p : Addr} (hp : ¬ A p.block) (u : Value) : Kp A w (w1.setCell p u) :=
  ⟨h.os, h.tape, h.output, by simpa using h.size, fun k hk => (Below.heap_setCell _ _ _ _ fun e => hp (e ▸ hk)).trans (h.block k hk)⟩
end Kp

/-- A block known whole. -/
def Blk (w : World) (g : Nat) (t : TypeId) (cs : List Value) : Prop := w.heap[g]? = some (.cells cs.toArray t (0, 0))
namespace Blk
variable {w w1 : World} {g : Nat} {t : TypeId} {cs : List Value}
theorem lt (h : Blk w g t cs) : g < w.heap.size := by
  rcases Nat.lt_or_ge g w.heap.size with hlt | hge
  · exact hlt
  · unfold Blk at h; rw [Array.getElem?_eq_none hge] at h; cases h
theorem cell (h : Blk w g t cs) (i : Nat) : w.cell? ⟨g, i, none⟩ = cs[i]? := by rw [cell_of_row w g i cs.toArray t (0, 0) h]; simp
theorem frozen (h : Blk w g t cs) (i : Nat) : w.frozen? ⟨g, i, none⟩ = false := by
  unfold Blk at h
  simp [World.frozen?, h]
theorem new (w : World) (t : TypeId) (cs : List Value) : Blk (w.alloc (.cells cs.toArray t)) w.heap.size t cs := heap_alloc_new w _
theorem drew (h : Blk w g t cs) : Blk w.drew g t cs := h
theorem drewN (h : Blk w g t cs) (n : Nat) : Blk (w.drewN n) g t cs := h
theorem alloc (h : Blk w g t cs) (o : Obj) : Blk (w.alloc o) g t cs := (Below.heap_alloc w o g h.lt).trans h
theorem set_ (h : Blk w g t cs) (i : Nat) (u : Value) : Blk (w.setCell ⟨g, i, none⟩ u) g t (cs.set i u) := by
  unfold Blk at h ⊢
  simp [World.setCell, Array.getElem?_modify, h]
theorem far (h : Blk w g t cs) {p : Addr} (hp : g ≠ p.block) (u : Value) : Blk (w.setCell p u) g t cs := (Below.heap_setCell w p u g hp).trans h
theorem ch {S : Nat → Prop} (h : Blk w g t cs) (hc : Ch S w w1) (hg : ¬ S g) : Blk w1 g t cs := (hc.block g h.lt hg).trans h
theorem kp {A : Nat → Prop} (h : Blk w g t cs) (hc : Kp A w w1) (hg : A g) : Blk w1 g t cs := (hc.block g hg).trans h
theorem ne_ {g' : Nat} {t' : TypeId} {cs' : List Value} (h : Blk w g t cs) (h' : Blk w g' t' cs') (hne : t ≠ t') : g ≠ g' := by
  rintro rfl
  unfold Blk at h h'
  rw [h] at h'
  injection h' with h'
  injection h' with _ ht
  exact hne ht
end Blk

/-- A row of the call's own, outside of A. -/
def Own (A : Nat → Prop) (w : World) (e : TypeId) (size : Nat) (v : Value) (n : Nat) (xs : List Value) : Prop :=
  w.ownsRow 0 e size v n xs ∧ ∀ g, v.ownBlock = some g → ¬ A g
namespace Own
variable {A : Nat → Prop} {w w1 : World} {e : TypeId} {size n : Nat} {v : Value} {xs : List Value}
theorem nil (A : Nat → Prop) (w : World) (e : TypeId) (size : Nat) : Own A w e size (.slice none 0 0) 0 [] := ⟨World.ownsRow_nil w 0 e size, by simp [Value.ownBlock]⟩
theorem lt (h : Own A w e size v n xs) {g : Nat} (hg : v.ownBlock = some g) : g < w.heap.size := (h.1.lt g hg).2
theorem ch {S : Nat → Prop} (h : Own A w e size v n xs) (hc : Ch S w w1) (hS : ∀ g, v.ownBlock = some g → ¬ S g) : Own A w1 e size v n xs := by
  refine ⟨⟨h.1.1, ?_⟩, h.2⟩
  rcases h.1.2 with hn | ⟨g, cap, cur, rfl, hb, hgg, rest⟩
  · exact .inl hn
  · refine .inr ⟨g, cap, cur, rfl, hb, ?_, rest⟩
    rw [hc.block g (Array.getElem?_eq_some_iff.1 hgg).1 (hS g (by simp [Value.ownBlock]))]
    exact hgg
theorem drew (h : Own A w e size v n xs) : Own A w.drew e size v n xs := h
theorem alloc (h : Own A w e size v n xs) (o : Obj) : Own A (w.alloc o) e size v n xs := h.ch (S := fun _ => False) ((Ch.refl _ _).alloc o) (by simp)
theorem mono {B : Nat → Prop} (h : Own A w e size v n xs) (hB : ∀ k, k < w.heap.size → B k → A k) : Own B w e size v n xs := ⟨h.1, fun g hg hb => h.2 g hg (hB g (h.lt hg) hb)⟩
theorem len (h : Own A w e size v n xs) : xs.length = n * size := h.1.1
/-- What the value looks like. -/
theorem form (h : Own A w e size v n xs) : ∃ a cap, v = .slice a n cap ∧ n ≤ cap ∧ (0 < n → ∃ g, a = some ⟨g, 0, none⟩ ∧ v.ownBlock = some g) := by
  rcases h.1.2 with ⟨rfl, rfl⟩ | ⟨g, cap, cur, rfl, _, _, hl, _⟩
  · exact ⟨none, 0, rfl, Nat.le_refl _, fun h => absurd h (Nat.lt_irrefl 0)⟩
  · exact ⟨_, cap, rfl, hl, fun _ => ⟨g, rfl, rfl⟩⟩
theorem cell (h : Own A w e size v n xs) {g : Nat} (hg : v.ownBlock = some g) {j : Nat} {u : Value} (hu : xs[j]? = some u) : w.cell? ⟨g, j, none⟩ = some u := by
  have := h.1.cells hg j u hu
  have hadd : (⟨g, 0, none⟩ : Addr).add j = ⟨g, j, none⟩ := by unfold Addr.add; split <;> simp_all
  rwa [hadd] at this
theorem frozen (h : Own A w e size v n xs) {g : Nat} (hg : v.ownBlock = some g) (j : Nat) : w.frozen? ⟨g, j, none⟩ = false := by
  rcases h.1.2 with ⟨rfl, _⟩ | ⟨g', cap, cur, rfl, _, hgg, _⟩
  · simp [Value.ownBlock] at hg
  · simp [Value.ownBlock] at hg; subst hg; simp [World.frozen?, hgg]
theorem ne_blk (h : Own A w e size v n xs) {g : Nat} {t : TypeId} {cs : List Value} (hb : Blk w g t cs) (hne : e ≠ t) : v.ownBlock ≠ some g := by
  rcases h.1.2 with ⟨rfl, _⟩ | ⟨g', cap, cur, rfl, _, hh, _⟩
  · simp [Value.ownBlock]
  · intro he
    have : g' = g := by simpa [Value.ownBlock] using he
    subst this
    unfold Blk at hb
    rw [hb] at hh
    injection hh with hh
    injection hh with _ ht
    exact hne ht.symm
/-- Rows of unlike elements lie apart. -/
theorem ne_own {B : Nat → Prop} {e' : TypeId} {size' n' : Nat} {v' : Value} {xs' : List Value} (h : Own A w e size v n xs) (h' : Own B w e' size' v' n' xs') (hne : e ≠ e') : ∀ g, v.ownBlock = some g → v'.ownBlock ≠ some g := by
  intro g hg hg'
  rcases h.1.2 with ⟨rfl, _⟩ | ⟨g1, cap, cur, rfl, _, hh, _⟩
  · simp [Value.ownBlock] at hg
  rcases h'.1.2 with ⟨rfl, _⟩ | ⟨g2, cap', cur', rfl, _, hh', _⟩
  · simp [Value.ownBlock] at hg'
  simp [Value.ownBlock] at hg hg'
  subst hg hg'
  rw [hh] at hh'
  injection hh' with hh'
  injection hh' with _ ht
  exact hne ht
/-- Cut at its end. -/
theorem cut {k : Nat} {a : Option Addr} {cap : Nat} (h : Own A w e size (.slice a n cap) n xs) (hk : k ≤ n) : Own A w e size (.slice a k cap) k (xs.take (k * size)) := by
  refine ⟨⟨by rw [List.length_take, h.1.1]; exact Nat.min_eq_left (Nat.mul_le_mul_right _ hk), ?_⟩, fun g hg => h.2 g (by cases a <;> exact hg)⟩
  rcases h.1.2 with ⟨he, hn⟩ | ⟨g, c, cur, he, hb, hg, hl, hm, hs, ht⟩
  · left
    injection he with h1 h2 h3
    subst h1 h3
    have : k = 0 := by omega
    subst this
    exact ⟨rfl, rfl⟩
  · right
    injection he with h1 h2 h3
    subst h1 h3
    exact ⟨g, cap, cur, rfl, hb, hg, by omega, hm, hs, by rw [← ht, List.take_take, Nat.min_eq_left (Nat.mul_le_mul_right _ hk)]⟩
/-- One cell is set. -/
theorem set_ (h : Own A w e size v n xs) {g : Nat} (hg : v.ownBlock = some g) (j : Nat) (u : Value) : Own A (w.setCell ⟨g, j, none⟩ u) e size v n (xs.set j u) := by
  refine ⟨⟨by simpa using h.1.1, ?_⟩, h.2⟩
  rcases h.1.2 with ⟨rfl, _⟩ | ⟨g', cap, cur, rfl, hb, hh, hl, hm, hs, ht⟩
  · simp [Value.ownBlock] at hg
  · simp [Value.ownBlock] at hg
    subst hg
    refine .inr ⟨g', cap, cur.setIfInBounds j u, rfl, hb, heap_setCell_same w g' j cur e u hh, hl, hm, by simpa using hs, ?_⟩
    simp only [Array.toList_setIfInBounds]
    rw [← ht, List.take_set]
end Own

/-- A slice that reads as these cells, in blocks of A. -/
def Rd (A : Nat → Prop) (w : World) (a : Option Addr) (xs : List Value) : Prop :=
  xs ≠ [] → ∃ b off, a = some ⟨b, off, none⟩ ∧ A b ∧ ∀ j u, xs[j]? = some u → w.cell? ⟨b, off + j, none⟩ = some u
namespace Rd
variable {A : Nat → Prop} {w w1 : World} {a : Option Addr} {xs : List Value}
theorem kp (h : Rd A w a xs) (hk : Kp A w w1) : Rd A w1 a xs := fun hx => by
  obtain ⟨b, off, h1, h2, h3⟩ := h hx
  exact ⟨b, off, h1, h2, fun j u hu => (hk.cell h2).trans (h3 j u hu)⟩
theorem more {B : Nat → Prop} (h : Rd A w a xs) (hB : ∀ k, A k → B k) : Rd B w a xs := fun hx => by
  obtain ⟨b, off, h1, h2, h3⟩ := h hx
  exact ⟨b, off, h1, hB b h2, h3⟩
end Rd

/-- One element, which lies in a block of its own, is appended to a row of the call's own. -/
theorem wp_push {P : Program} {w : World} {ops : Array Oper} {rest : List Oper} {o : Oper} {a : Act} {Q : Exit → Act → World → Prop} (hgd : o.guard = none) (s x : Operand) (t : TypeId)
    (ho : o.op = .call { callee := .builtin .append, args := #[s, x], argTypes := #[t, t] })
    (e : TypeId) (i : TypeInfo) (z : Value) (size bytes : Nat) (ht : P.underlying t = some (.slice e)) (hi : P.info? e = some i) (hz : i.zero = some z)
    (hsize : i.size = size) (hby : i.bytes = bytes) (hzs : z.cells.size = size) (hsz : 0 < size) (hbb : bytes ≤ 1000)
    (A : Nat → Prop) (v : Value) (n : Nat) (xs news : List Value) (B : Nat) (hs : a.eval s = v) (hx : a.eval x = .slice (some ⟨B, 0, none⟩) 1 1)
    (hl : news.length = size) (h1 : (news.all fun u => u.oneCell') = true) (hn : n ≤ 1000000000)
    (hown : Own A w e size v n xs) (hA : ∀ k, A k → k < w.heap.size) (hB : Blk w B e news)
    (h : ∀ v' w', Own A w' e size v' (n + 1) (xs ++ news) → Ch (fun k => v.ownBlock = some k) w w' → (v'.ownBlock = v.ownBlock ∨ ∀ g, v'.ownBlock = some g → w.heap.size ≤ g) → wpList P ops Q rest (a.put o.dst v') w') : wpList P ops Q (o :: rest) a w := by
  refine wpList_append_lies w hgd s x t ho 0 e i z size bytes ht hi hz hsize hby hzs hsz v n xs hs hown.1 ⟨B, 0, none⟩ 1 1 news hx (by rw [hl, Nat.one_mul]) ?_ ?_ (by omega) ?_ ?_ (Nat.zero_le _) w.heap.size rfl ?_
  · intro j u hu
    have hadd : (⟨B, 0, none⟩ : Addr).add j = ⟨B, j, none⟩ := by unfold Addr.add; split <;> simp_all
    rw [hadd, hB.cell]; exact hu
  · intro u hu; exact List.all_eq_true.1 h1 u hu
  · simp only [maxLen]; omega
  · have : (n + 1) * bytes ≤ 1000000001 * 1000 := Nat.mul_le_mul (by omega) hbb
    omega
  · intro g cap w' hown' hgr hat _
    refine h _ _ ⟨hown', fun k hk => ?_⟩ ((Ch.refl _ _).grown hgr fun g hg => .inl hg) ?_
    · have hk' : k = g := by simpa [Value.ownBlock] using hk.symm
      subst hk'
      rcases hat with h2 | h2
      · exact hown.2 _ h2
      · intro h3; have := hA _ h3; omega
    · rcases hat with h2 | h2
      · left; rw [h2]; rfl
      · right; intro k hk
        have hk' : k = g := by simpa [Value.ownBlock] using hk.symm
        omega
end Mem
end Go.Proofs.YtllahgnpjodgmaaDoor

namespace Go.Proofs.YtllahgnpjodgmaaDoor
open Go Go.RowKit Mem

/-- Nothing that was there has changed. -/
abbrev Fr (w w' : World) : Prop := Ch (fun _ => False) w w'


/-- The i-th byte of a name. -/
def okc (i : Nat) (c : UInt8) : Bool := Pm.letter c || (i != 0 && Pm.digit c)
theorem letter_iff (c : UInt8) : Pm.letter c = true ↔ (c.toNat = 95 ∨ (97 ≤ c.toNat ∧ c.toNat ≤ 122) ∨ (65 ≤ c.toNat ∧ c.toNat ≤ 90)) := by
  have h : c = 95 ↔ c.toNat = 95 := ⟨fun h => by rw [h]; rfl, fun h => by rw [← UInt8.toNat_inj]; exact h⟩
  simp only [Pm.letter, Bool.or_eq_true, Bool.and_eq_true, decide_eq_true_eq, beq_iff_eq, UInt8.le_iff_toNat_le, h]
  simp [or_assoc]
theorem digit_iff (c : UInt8) : Pm.digit c = true ↔ (48 ≤ c.toNat ∧ c.toNat ≤ 57) := by
  simp only [Pm.digit, Bool.and_eq_true, decide_eq_true_eq, UInt8.le_iff_toNat_le]
  simp
theorem okc_iff (i : Nat) (c : UInt8) : okc i c = true ↔ ((c.toNat = 95 ∨ (97 ≤ c.toNat ∧ c.toNat ≤ 122) ∨ (65 ≤ c.toNat ∧ c.toNat ≤ 90)) ∨ (i ≠ 0 ∧ 48 ≤ c.toNat ∧ c.toNat ≤ 57)) := by
  unfold okc
  rw [Bool.or_eq_true, Bool.and_eq_true, letter_iff, digit_iff]
  simp
theorem isNm_false (l : List UInt8) (i : Nat) (c : UInt8) (h : l[i]? = some c) (hc : okc i c = false) : Pm.isNm l = false := by
  cases l with
  | nil => rfl
  | cons x r =>
    unfold Pm.isNm
    cases i with
    | zero =>
      simp at h; subst h
      have : Pm.letter x = false := by simpa [okc] using hc
      simp [this]
    | succ i =>
      have : r.all (fun c => Pm.letter c || Pm.digit c) = false := by
        rw [Bool.eq_false_iff]; intro hall
        rw [List.all_eq_true] at hall
        have := hall c (List.mem_of_getElem? (by simpa using h))
        simp [okc] at hc this
        simp [hc] at this
      simp only [this, Bool.and_false, Bool.false_and]
theorem isNm_of (l : List UInt8) (h0 : l ≠ []) (hl : l.length ≤ 64) (h : ∀ i c, l[i]? = some c → okc i c = true) : Pm.isNm l = !Pm.words.contains l := by
  cases l with
  | nil => exact absurd rfl h0
  | cons x r =>
    unfold Pm.isNm
    have h1 : Pm.letter x = true := by simpa [okc] using h 0 x rfl
    have h2 : r.all (fun c => Pm.letter c || Pm.digit c) = true := by
      rw [List.all_eq_true]
      intro c hc
      obtain ⟨i, hi⟩ := List.getElem?_of_mem hc
      simpa [okc] using h (i + 1) c (by simpa using hi)
    simp only [h1, h2, decide_eq_true hl, Bool.true_and]

theorem i64_eq {a b : Int} (h : a = b) : Value.int .i64 a = Value.int .i64 b := by rw [h]
def wordB (j : Nat) : ByteArray := ⟨(Pm.words.getD j []).toArray⟩
end Go.Proofs.YtllahgnpjodgmaaDoor

set_option linter.unusedVariables false
namespace Go.Proofs.YtllahgnpjodgmaaDoor
open Go Go.RowKit Mem
namespace Pm
def ints (l : List Int) : List Value := l.map (Value.int .i64)
def ndC (n : Nd) (kv : Value) : List Value := [.int .i64 n.kind, .int .i64 n.at_, .int .i64 n.where_, .int .i64 n.close, .int .i64 n.decl, .int .i64 n.type, .int .i64 n.op, .int .i64 n.value, .string n.name, kv]
def ndV (n : Nd) (kv : Value) : Value := .agg #[.int .i64 n.kind, .int .i64 n.at_, .int .i64 n.where_, .int .i64 n.close, .int .i64 n.decl, .int .i64 n.type, .int .i64 n.op, .int .i64 n.value, .string n.name, kv]
def ndsC (l : List (Nd × Value)) : List Value := l.flatMap fun x => ndC x.1 x.2
theorem zip_kv {l : List Nd} {kvs : List Value} {x : Nd × Value} (h : x ∈ l.zip kvs) : x.2 ∈ kvs := (List.of_mem_zip h).2
end Pm
open Pm
theorem Mem.Own.form2 {A : Nat → Prop} {w : World} {e : TypeId} {size n : Nat} {v : Value} {xs : List Value} (h : Own A w e size v n xs) : (v = .slice none 0 0 ∧ n = 0) ∨ ∃ g cap, v = .slice (some ⟨g, 0, none⟩) n cap ∧ n ≤ cap ∧ g < w.heap.size := by
  rcases h.1.2 with ⟨rfl, rfl⟩ | ⟨g, cap, cur, rfl, _, hh, hl, _⟩
  · exact .inl ⟨rfl, rfl⟩
  · exact .inr ⟨g, cap, rfl, hl, (Array.getElem?_eq_some_iff.1 hh).1⟩
/-- Nothing is appended to nil. -/
theorem Mem.wp_zero {P : Program} {w : World} {ops : Array Oper} {rest : List Oper} {o : Oper} {a : Act} {Q : Exit → Act → World → Prop} (hgd : o.guard = none) (s x : Operand) (t : TypeId)
    (ho : o.op = .call { callee := .builtin .append, args := #[s, x], argTypes := #[t, t] }) (e : TypeId) (i : TypeInfo) (ht : P.underlying t = some (.slice e)) (hi : P.info? e = some i)
    (ad : Option Addr) (c : Nat) (hs : a.eval s = .slice none 0 0) (hx : a.eval x = .slice ad 0 c)
    (h : wpList P ops Q rest (a.put o.dst (.slice none 0 0)) w) : wpList P ops Q (o :: rest) a w := by
  refine wpList_plain hgd fun K hK => ?_
  have hrun : (Builtin.append_ #[t, t] o.type #[.slice none 0 0, .slice ad 0 c]).run P w = .ok (.slice none 0 0) w := by
    cases ad <;> simp [Builtin.append_, run_underlying ht, sizeOf, typeInfo, hi, Builtin.lenOf, Builtin.firstCells, loadCells, loadCellsFrom]
  unfold Oper.wp
  simp [execOp, ho, resolve, invoke, builtin, hs, hx, hrun, Result.andThen]
  exact hK _ _ h

/-- A row's end is copied. -/
theorem Mem.wp_copy {P : Program} {w : World} {ops : Array Oper} {rest : List Oper} {o : Oper} {a : Act} {Q : Exit → Act → World → Prop} (hgd : o.guard = none) (s x : Operand) (t : TypeId)
    (ho : o.op = .call { callee := .builtin .append, args := #[s, x], argTypes := #[t, t] })
    (e : TypeId) (i : TypeInfo) (z : Value) (size bytes : Nat) (ht : P.underlying t = some (.slice e)) (hi : P.info? e = some i) (hz : i.zero = some z)
    (hsize : i.size = size) (hby : i.bytes = bytes) (hzs : z.cells.size = size) (hsz : 0 < size) (hbb : bytes ≤ 1000)
    (A : Nat → Prop) (ad : Option Addr) (m c : Nat) (news : List Value) (hs : a.eval s = .slice none 0 0) (hx : a.eval x = .slice ad m c)
    (hl : news.length = m * size) (h1 : (news.all fun u => u.oneCell') = true) (hn : m ≤ 1000000000) (hA : ∀ k, A k → k < w.heap.size)
    (hc : 0 < m → ∃ d, ad = some d ∧ ∀ j u, news[j]? = some u → w.cell? (d.add j) = some u)
    (h : ∀ v' w', Own A w' e size v' m news → Ch (fun _ => False) w w' → (∀ g, v'.ownBlock = some g → w.heap.size ≤ g) → wpList P ops Q rest (a.put o.dst v') w') : wpList P ops Q (o :: rest) a w := by
  rcases Nat.eq_zero_or_pos m with rfl | hm
  · have hnil : news = [] := List.eq_nil_of_length_eq_zero (by omega)
    subst hnil
    refine wp_zero hgd s x t ho e i ht hi ad c hs hx ?_
    exact h _ _ (Own.nil A w e size) (Ch.refl _ w) (by simp [Value.ownBlock])
  · obtain ⟨d, rfl, hd⟩ := hc hm
    refine wpList_append_lies w hgd s x t ho 0 e i z size bytes ht hi hz hsize hby hzs hsz (.slice none 0 0) 0 [] hs (World.ownsRow_nil w 0 e size) d m c news hx hl hd (fun u hu => List.all_eq_true.1 h1 u hu) hm ?_ ?_ (Nat.zero_le _) w.heap.size rfl ?_
    · simp only [maxLen]; omega
    · have : (0 + m) * bytes ≤ 1000000000 * 1000 := Nat.mul_le_mul (by omega) hbb
      omega
    · intro g cap w' hown' hgr hat _
      have hat' : g = w.heap.size := by
        rcases hat with h2 | h2
        · simp [Value.ownBlock] at h2
        · exact h2
      subst hat'
      rw [Nat.zero_add] at hown' ⊢
      rw [List.nil_append] at hown'
      refine h _ _ ⟨hown', fun k hk h3 => ?_⟩ ((Ch.refl _ _).grown hgr fun g hg => absurd hg (by simp [Value.ownBlock])) ?_
      · have hk' : k = w.heap.size := by simpa [Value.ownBlock] using hk.symm
        subst hk'
        exact absurd (hA _ h3) (Nat.lt_irrefl _)
      · intro k hk
        have hk' : k = w.heap.size := by simpa [Value.ownBlock] using hk.symm
        omega

theorem ints_len (l : List Int) : (ints l).length = l.length := by simp [ints]
theorem ints_get {l : List Int} {i : Nat} {x : Int} (h : l[i]? = some x) : (ints l)[i]? = some (.int .i64 x) := by simp [ints, h]
theorem ndsC_get {l : List (Nd × Value)} {i : Nat} {n : Nd} {kv : Value} (h : l[i]? = some (n, kv)) (j : Nat) (hj : j < 10) : (ndsC l)[i * 10 + j]? = (ndC n kv)[j]? := by
  have hlen : ∀ (n : Nd) kv, (ndC n kv).length = 10 := fun _ _ => rfl
  induction l generalizing i with
  | nil => simp at h
  | cons x r ih =>
    unfold ndsC at ih ⊢
    rw [List.flatMap_cons]
    cases i with
    | zero => simp at h; subst h; rw [List.getElem?_append_left (by rw [hlen]; omega)]; simp
    | succ i => rw [List.getElem?_append_right (by rw [hlen]; omega), hlen, show (i + 1) * 10 + j - 10 = i * 10 + j by omega]; exact ih (by simpa using h)


end Go.Proofs.YtllahgnpjodgmaaDoor

set_option linter.unusedVariables false
namespace Go.Proofs.YtllahgnpjodgmaaDoor
open Go Go.RowKit
namespace Mem
theorem size_alloc' (w : World) (o : Obj) : (w.alloc o).heap.size = w.heap.size + 1 := by simp
theorem size_setCell (w : World) (a : Addr) (v : Value) : (w.setCell a v).heap.size = w.heap.size := by simp
theorem size_drew (w : World) : w.drew.heap.size = w.heap.size := rfl

inductive Res where
  | blk (g : Nat) (t : TypeId) (cs : List Value)
  | row (e : TypeId) (size : Nat) (v : Value) (n : Nat) (xs : List Value)
namespace Res
def own : Res → Option Nat
  | .blk g _ _ => some g
  | .row _ _ v _ _ => v.ownBlock
def ok (A : Nat → Prop) (w : World) : Res → Prop
  | .blk g t cs => Blk w g t cs ∧ ¬ A g
  | .row e size v n xs => Own A w e size v n xs
variable {A : Nat → Prop} {w w' : World} {r : Res} {S : Nat → Prop}
theorem ok.lt (h : r.ok A w) {g : Nat} (hg : r.own = some g) : g < w.heap.size := by
  cases r with
  | blk g' t cs => simp only [own, Option.some.injEq] at hg; subst hg; exact h.1.lt
  | row e size v n xs => exact Own.lt h hg
theorem ok.out (h : r.ok A w) {g : Nat} (hg : r.own = some g) : ¬ A g := by
  cases r with
  | blk g' t cs => simp only [own, Option.some.injEq] at hg; subst hg; exact h.2
  | row e size v n xs => exact h.2 g hg
theorem ok.ch (h : r.ok A w) (hc : Ch S w w') (hS : ∀ g, r.own = some g → ¬ S g) : r.ok A w' := by
  cases r with
  | blk g' t cs => exact ⟨h.1.ch hc (hS g' rfl), h.2⟩
  | row e size v n xs => exact Own.ch h hc hS
end Res
/-- Two resources lie apart. -/
def Ap (a b : Res) : Prop := ∀ g, a.own = some g → b.own ≠ some g
theorem Ap.symm {a b : Res} (h : Ap a b) : Ap b a := fun g hg hg' => h g hg' hg

structure Hs (A : Nat → Prop) (w0 w : World) (rs : List Res) : Prop where
  kp : Kp A w0 w
  alt : ∀ k, A k → k < w0.heap.size
  ok : ∀ r ∈ rs, r.ok A w
  apart : rs.Pairwise Ap

namespace Hs
variable {A : Nat → Prop} {w0 w w' : World} {rs rs' : List Res} {S : Nat → Prop}
theorem start (w : World) : Hs (fun k => k < w.heap.size) w w [] := ⟨Kp.refl _ _, fun _ h => h, (fun _ h => nomatch h), List.Pairwise.nil⟩
theorem start' {A : Nat → Prop} (w : World) (h : ∀ k, A k → k < w.heap.size) : Hs A w w [] := ⟨Kp.refl _ _, h, (fun _ h => nomatch h), List.Pairwise.nil⟩
theorem get (h : Hs A w0 w rs) {i : Nat} {r : Res} (hi : rs[i]? = some r) : r.ok A w := h.ok r (List.mem_of_getElem? hi)
theorem perm (h : Hs A w0 w rs) (hp : rs.Perm rs') : Hs A w0 w rs' := ⟨h.kp, h.alt, fun r hr => h.ok r (hp.mem_iff.2 hr), (hp.pairwise_iff (fun h => h.symm)).1 h.apart⟩
theorem sub (h : Hs A w0 w rs) (hs : rs'.Sublist rs) : Hs A w0 w rs' := ⟨h.kp, h.alt, fun r hr => h.ok r (hs.subset hr), h.apart.sublist hs⟩
theorem tail {r : Res} (h : Hs A w0 w (r :: rs)) : Hs A w0 w rs := h.sub (List.sublist_cons_self _ _)
theorem mid {r : Res} {l m : List Res} (h : Hs A w0 w (r :: (l ++ m))) : Hs A w0 w (l ++ r :: m) := h.perm List.perm_middle.symm
theorem front {r : Res} {l m : List Res} (h : Hs A w0 w (l ++ r :: m)) : Hs A w0 w (r :: (l ++ m)) := h.perm List.perm_middle
theorem frontP {l p m : List Res} (h : Hs A w0 w (l ++ (p ++ m))) : Hs A w0 w (p ++ (l ++ m)) := by
  refine h.perm ?_
  rw [← List.append_assoc, ← List.append_assoc]
  exact List.Perm.append_right m List.perm_append_comm
theorem swap {l m : List Res} (h : Hs A w0 w (l ++ m)) : Hs A w0 w (m ++ l) := h.perm List.perm_append_comm
theorem ne (h : Hs A w0 w rs) {i j : Nat} {a b : Res} (hi : rs[i]? = some a) (hj : rs[j]? = some b) (hij : i ≠ j) : Ap a b := by
  have hil : i < rs.length := (List.getElem?_eq_some_iff.1 hi).1
  have hjl : j < rs.length := (List.getElem?_eq_some_iff.1 hj).1
  have ha : rs[i] = a := (List.getElem?_eq_some_iff.1 hi).2
  have hb : rs[j] = b := (List.getElem?_eq_some_iff.1 hj).2
  rcases Nat.lt_or_gt_of_ne hij with h1 | h1
  · have := List.pairwise_iff_getElem.1 h.apart i j hil hjl h1
    rwa [ha, hb] at this
  · have := List.pairwise_iff_getElem.1 h.apart j i hjl hil h1
    rw [ha, hb] at this
    exact this.symm
theorem nin (h : Hs A w0 w rs) {i : Nat} {a : Res} (hi : rs[i]? = some a) {g : Nat} (hg : a.own = some g) : g < w.heap.size ∧ ¬ A g := ⟨(h.get hi).lt hg, (h.get hi).out hg⟩
theorem alt' (h : Hs A w0 w rs) : ∀ k, A k → k < w.heap.size := fun k hk => Nat.lt_of_lt_of_le (h.alt k hk) h.kp.size

/-- The i-th resource alone is changed. -/
theorem turn (h : Hs A w0 w rs) {i : Nat} {r r' : Res} (hi : rs[i]? = some r) (hc : Ch (fun k => r.own = some k) w w') (hr : r'.ok A w') (hat : r'.own = r.own ∨ ∀ g, r'.own = some g → w.heap.size ≤ g) : Hs A w0 w' (rs.set i r') := by
  have hk : Kp A w w' := Kp.of_ch hc h.alt' (fun k hk he => (h.get hi).out he hk)
  refine ⟨h.kp.trans hk, h.alt, ?_, ?_⟩
  · intro q hq
    obtain ⟨j, hj⟩ := List.getElem?_of_mem hq
    by_cases hij : i = j
    · subst hij
      rw [List.getElem?_set_self (List.getElem?_eq_some_iff.1 hi).1] at hj
      injection hj with hj
      subst hj
      exact hr
    · rw [List.getElem?_set_ne hij] at hj
      exact (h.get hj).ch hc (fun g hg he => h.ne hi hj hij g he hg)
  · rw [List.pairwise_iff_getElem]
    intro a b ha' hb' hab
    have ha := ha'
    have hb := hb'
    rw [List.length_set] at ha hb
    have hq : ∀ j (hj : j < rs.length), i ≠ j → Ap r' rs[j] := by
      intro j hj hij g hg hg'
      rcases hat with h1 | h1
      · exact h.ne hi (List.getElem?_eq_getElem hj) hij g (h1 ▸ hg) hg'
      · have := h1 g hg
        have := (h.get (List.getElem?_eq_getElem hj)).lt hg'
        omega
    rw [List.getElem_set, List.getElem_set]
    split
    · subst_vars
      rw [if_neg (by omega)]
      exact hq b hb (by omega)
    · split
      · subst_vars
        exact (hq a ha (by omega)).symm
      · exact List.pairwise_iff_getElem.1 h.apart a b ha hb hab
/-- Something new. -/
theorem new (h : Hs A w0 w rs) {r : Res} (hc : Ch (fun _ => False) w w') (hr : r.ok A w') (hat : ∀ g, r.own = some g → w.heap.size ≤ g) : Hs A w0 w' (r :: rs) := by
  refine ⟨h.kp.trans (Kp.of_ch hc h.alt' (fun _ _ => id)), h.alt, ?_, List.Pairwise.cons ?_ h.apart⟩
  · intro q hq
    rcases List.mem_cons.1 hq with rfl | hq
    · exact hr
    · exact (h.ok q hq).ch hc (fun _ _ => id)
  · intro q hq g hg hg'
    have := hat g hg
    have := (h.ok q hq).lt hg'
    omega
theorem ch0 (h : Hs A w0 w rs) (hc : Ch (fun _ => False) w w') : Hs A w0 w' rs :=
  ⟨h.kp.trans (Kp.of_ch hc h.alt' (fun _ _ => id)), h.alt, fun q hq => (h.ok q hq).ch hc (fun _ _ => id), h.apart⟩
theorem drew (h : Hs A w0 w rs) : Hs A w0 w.drew rs := h.ch0 (Ch.refl _ _).drew
theorem drewN (h : Hs A w0 w rs) (n : Nat) : Hs A w0 (w.drewN n) rs := h.ch0 ((Ch.refl _ _).drewN n)
theorem alloc (h : Hs A w0 w rs) (cs : List Value) (t : TypeId) : Hs A w0 (w.alloc (.cells cs.toArray t)) (.blk w.heap.size t cs :: rs) :=
  h.new ((Ch.refl _ _).alloc _) ⟨Blk.new w t cs, fun hA => Nat.lt_irrefl _ (h.alt' _ hA)⟩ (fun g hg => by simp only [Res.own, Option.some.injEq] at hg; omega)
theorem alloc' (h : Hs A w0 w rs) (o : Obj) : Hs A w0 (w.alloc o) rs := h.ch0 ((Ch.refl _ _).alloc _)
/-- A cell of a block. -/
theorem set_ (h : Hs A w0 w rs) (i : Nat) {g : Nat} {t : TypeId} {cs : List Value} (hi : rs[i]? = some (.blk g t cs)) (j : Nat) (u : Value) : Hs A w0 (w.setCell ⟨g, j, none⟩ u) (rs.set i (.blk g t (cs.set j u))) :=
  h.turn hi (Ch.setCell (S := fun k => some g = some k) (p := ⟨g, j, none⟩) (Ch.refl _ _) rfl u) ⟨(h.get hi).1.set_ j u, (h.get hi).2⟩ (.inl rfl)
/-- A cell of a row. -/
theorem rset (h : Hs A w0 w rs) (i : Nat) {e : TypeId} {size n : Nat} {v : Value} {xs : List Value} (hi : rs[i]? = some (.row e size v n xs)) {g : Nat} (hg : v.ownBlock = some g) (j : Nat) (u : Value) : Hs A w0 (w.setCell ⟨g, j, none⟩ u) (rs.set i (.row e size v n (xs.set j u))) :=
  h.turn hi (Ch.setCell (S := fun k => v.ownBlock = some k) (p := ⟨g, j, none⟩) (Ch.refl _ _) hg u) (Own.set_ (h.get hi) hg j u) (.inl rfl)
/-- A row is cut at its end. -/
theorem cut (h : Hs A w0 w rs) (i : Nat) {e : TypeId} {size n k cap : Nat} {a : Option Addr} {xs : List Value} (hi : rs[i]? = some (.row e size (.slice a n cap) n xs)) (hk : k ≤ n) : Hs A w0 w (rs.set i (.row e size (.slice a k cap) k (xs.take (k * size)))) :=
  h.turn hi (Ch.refl _ _) (Own.cut (h.get hi) hk) (.inl (by cases a <;> rfl))
theorem nil (h : Hs A w0 w rs) (e : TypeId) (size : Nat) : Hs A w0 w (.row e size (.slice none 0 0) 0 [] :: rs) := h.new (Ch.refl _ _) (Own.nil A w e size) (fun g hg => by simp [Res.own, Value.ownBlock] at hg)
/-- A row is forgotten, an empty one put in its place. -/
theorem renil (h : Hs A w0 w rs) (i : Nat) {e : TypeId} {size n : Nat} {v : Value} {xs : List Value} (hi : rs[i]? = some (.row e size v n xs)) : Hs A w0 w (rs.set i (.row e size (.slice none 0 0) 0 [])) :=
  h.turn hi (Ch.refl _ _) (Own.nil A w e size) (.inr (fun g hg => by simp [Res.own, Value.ownBlock] at hg))

/-- What lies in a block. -/
theorem cell (h : Hs A w0 w rs) (i : Nat) {g : Nat} {t : TypeId} {cs : List Value} (hi : rs[i]? = some (.blk g t cs)) (j : Nat) {u : Value} (hu : cs[j]? = some u) : w.cell? ⟨g, j, none⟩ = some u := by rw [(h.get hi).1.cell]; exact hu
theorem froz (h : Hs A w0 w rs) (i : Nat) {g : Nat} {t : TypeId} {cs : List Value} (hi : rs[i]? = some (.blk g t cs)) (j : Nat) : w.frozen? ⟨g, j, none⟩ = false := (h.get hi).1.frozen j
theorem rcell (h : Hs A w0 w rs) (i : Nat) {e : TypeId} {size n : Nat} {v : Value} {xs : List Value} (hi : rs[i]? = some (.row e size v n xs)) {g : Nat} (hg : v.ownBlock = some g) (j : Nat) {u : Value} (hu : xs[j]? = some u) : w.cell? ⟨g, j, none⟩ = some u := Own.cell (h.get hi) hg hu
theorem rfroz (h : Hs A w0 w rs) (i : Nat) {e : TypeId} {size n : Nat} {v : Value} {xs : List Value} (hi : rs[i]? = some (.row e size v n xs)) {g : Nat} (hg : v.ownBlock = some g) (j : Nat) : w.frozen? ⟨g, j, none⟩ = false := Own.frozen (h.get hi) hg j
theorem form (h : Hs A w0 w rs) (i : Nat) {e : TypeId} {size n : Nat} {v : Value} {xs : List Value} (hi : rs[i]? = some (.row e size v n xs)) : ∃ a cap, v = .slice a n cap ∧ n ≤ cap ∧ (0 < n → ∃ g, a = some ⟨g, 0, none⟩ ∧ v.ownBlock = some g) := Own.form (h.get hi)
theorem form2 (h : Hs A w0 w rs) (i : Nat) {e : TypeId} {size n : Nat} {v : Value} {xs : List Value} (hi : rs[i]? = some (.row e size v n xs)) : (v = .slice none 0 0 ∧ n = 0) ∨ ∃ g cap, v = .slice (some ⟨g, 0, none⟩) n cap ∧ n ≤ cap ∧ g < w.heap.size := Own.form2 (h.get hi)
theorem len (h : Hs A w0 w rs) (i : Nat) {e : TypeId} {size n : Nat} {v : Value} {xs : List Value} (hi : rs[i]? = some (.row e size v n xs)) : xs.length = n * size := Own.len (h.get hi)
/-- What was there reads as before. -/
theorem rd (h : Hs A w0 w rs) {a : Option Addr} {xs : List Value} (hr : Rd A w0 a xs) : Rd A w a xs := hr.kp h.kp

/-- A row as what can be read. -/
theorem rdRow (h : Hs A w0 w rs) (i : Nat) {e : TypeId} {size n cap : Nat} {a : Option Addr} {xs : List Value} (hi : rs[i]? = some (.row e size (.slice a n cap) n xs)) (hx : xs ≠ []) : ∃ g, a = some ⟨g, 0, none⟩ ∧ ∀ j u, xs[j]? = some u → w.cell? ⟨g, j, none⟩ = some u := by
  obtain ⟨a', cap', he, _, hg⟩ := h.form i hi
  have hn : 0 < n := by
    have := h.len i hi
    rcases Nat.eq_zero_or_pos n with rfl | h1
    · rw [Nat.zero_mul] at this; exact absurd (List.eq_nil_of_length_eq_zero this) hx
    · exact h1
  obtain ⟨g, hg1, hg2⟩ := hg hn
  injection he with h1 h2 h3
  subst h1 h3
  exact ⟨g, hg1, fun j u hu => h.rcell i hi hg2 j hu⟩

/-- A block as a row of its own. -/
theorem asRow (h : Hs A w0 w rs) (i : Nat) {g : Nat} {t : TypeId} {cs : List Value} (hi : rs[i]? = some (.blk g t cs)) (size n : Nat) (hn : cs.length = n * size) (hm : n ≤ maxLen) : Hs A w0 w (rs.set i (.row t size (.slice (some ⟨g, 0, none⟩) n n) n cs)) := by
  have h1 := (h.get hi).1
  refine h.turn hi (Ch.refl _ _) ⟨⟨hn, .inr ⟨g, n, cs.toArray, rfl, Nat.zero_le _, h1, Nat.le_refl _, hm, by simpa using hn, by simp [← hn]⟩⟩, ?_⟩ (.inl rfl)
  intro g' hg' hA
  have : g' = g := by simpa [Value.ownBlock] using hg'.symm
  exact (h.get hi).2 (this ▸ hA)

/-- One element, which lies in a block of its own, is appended to a row. -/
theorem push {P : Program} {ops : Array Oper} {rest : List Oper} {o : Oper} {a : Act} {Q : Exit → Act → World → Prop} (hgd : o.guard = none) (s x : Operand) (t : TypeId)
    (ho : o.op = .call { callee := .builtin .append, args := #[s, x], argTypes := #[t, t] })
    (e : TypeId) (inf : TypeInfo) (z : Value) (size bytes : Nat) (ht : P.underlying t = some (.slice e)) (hinf : P.info? e = some inf) (hz : inf.zero = some z)
    (hsize : inf.size = size) (hby : inf.bytes = bytes) (hzs : z.cells.size = size) (hsz : 0 < size) (hbb : bytes ≤ 1000)
    (i : Nat) (v : Value) (n : Nat) (xs : List Value) (hi : rs[i]? = some (.row e size v n xs)) (k : Nat) (B : Nat) (news : List Value) (hk : rs[k]? = some (.blk B e news))
    (hs : a.eval s = v) (hx : a.eval x = .slice (some ⟨B, 0, none⟩) 1 1)
    (hl : news.length = size) (h1 : (news.all fun u => u.oneCell') = true) (hn : n ≤ 1000000000) (H : Hs A w0 w rs)
    (h : ∀ v' w', Hs A w0 w' (rs.set i (.row e size v' (n + 1) (xs ++ news))) → wpList P ops Q rest (a.put o.dst v') w') : wpList P ops Q (o :: rest) a w :=
  wp_push hgd s x t ho e inf z size bytes ht hinf hz hsize hby hzs hsz hbb A v n xs news B hs hx hl h1 hn (H.get hi) H.alt' (H.get hk).1
    fun v' w' hown hch hat => h v' w' (H.turn hi hch hown hat)
end Hs

/-- Several elements at once, out of a block of their own. -/
theorem wp_pushN {P : Program} {w : World} {ops : Array Oper} {rest : List Oper} {o : Oper} {a : Act} {Q : Exit → Act → World → Prop} (hgd : o.guard = none) (s x : Operand) (t : TypeId)
    (ho : o.op = .call { callee := .builtin .append, args := #[s, x], argTypes := #[t, t] })
    (e : TypeId) (i : TypeInfo) (z : Value) (size bytes : Nat) (ht : P.underlying t = some (.slice e)) (hi : P.info? e = some i) (hz : i.zero = some z)
    (hsize : i.size = size) (hby : i.bytes = bytes) (hzs : z.cells.size = size) (hsz : 0 < size) (hbb : bytes ≤ 1000)
    (A : Nat → Prop) (v : Value) (n m : Nat) (xs news : List Value) (B : Nat) (hs : a.eval s = v) (hx : a.eval x = .slice (some ⟨B, 0, none⟩) m m) (hm : 0 < m)
    (hl : news.length = m * size) (h1 : (news.all fun u => u.oneCell') = true) (hn : n + m ≤ 1000000001)
    (hown : Own A w e size v n xs) (hA : ∀ k, A k → k < w.heap.size) (hB : Blk w B e news)
    (h : ∀ v' w', Own A w' e size v' (n + m) (xs ++ news) → Ch (fun k => v.ownBlock = some k) w w' → (v'.ownBlock = v.ownBlock ∨ ∀ g, v'.ownBlock = some g → w.heap.size ≤ g) → wpList P ops Q rest (a.put o.dst v') w') : wpList P ops Q (o :: rest) a w := by
  refine wpList_append_lies w hgd s x t ho 0 e i z size bytes ht hi hz hsize hby hzs hsz v n xs hs hown.1 ⟨B, 0, none⟩ m m news hx hl ?_ ?_ hm ?_ ?_ (Nat.zero_le _) w.heap.size rfl ?_
  · intro j u hu
    have hadd : (⟨B, 0, none⟩ : Addr).add j = ⟨B, j, none⟩ := by unfold Addr.add; split <;> simp_all
    rw [hadd, hB.cell]; exact hu
  · intro u hu; exact List.all_eq_true.1 h1 u hu
  · simp only [maxLen]; omega
  · have : (n + m) * bytes ≤ 1000000001 * 1000 := Nat.mul_le_mul (by omega) hbb
    omega
  · intro g cap w' hown' hgr hat _
    refine h _ _ ⟨hown', fun k hk => ?_⟩ ((Ch.refl _ _).grown hgr fun g hg => .inl hg) ?_
    · have hk' : k = g := by simpa [Value.ownBlock] using hk.symm
      subst hk'
      rcases hat with h2 | h2
      · exact hown.2 _ h2
      · intro h3; have := hA _ h3; omega
    · rcases hat with h2 | h2
      · left; rw [h2]; rfl
      · right; intro k hk
        have hk' : k = g := by simpa [Value.ownBlock] using hk.symm
        omega
namespace Hs
variable {A : Nat → Prop} {w0 w : World} {rs : List Res}
theorem pushN {P : Program} {ops : Array Oper} {rest : List Oper} {o : Oper} {a : Act} {Q : Exit → Act → World → Prop} (hgd : o.guard = none) (s x : Operand) (t : TypeId)
    (ho : o.op = .call { callee := .builtin .append, args := #[s, x], argTypes := #[t, t] })
    (e : TypeId) (inf : TypeInfo) (z : Value) (size bytes : Nat) (ht : P.underlying t = some (.slice e)) (hinf : P.info? e = some inf) (hz : inf.zero = some z)
    (hsize : inf.size = size) (hby : inf.bytes = bytes) (hzs : z.cells.size = size) (hsz : 0 < size) (hbb : bytes ≤ 1000)
    (i : Nat) (v : Value) (n : Nat) (xs : List Value) (hi : rs[i]? = some (.row e size v n xs)) (k : Nat) (B m : Nat) (news : List Value) (hk : rs[k]? = some (.blk B e news))
    (hs : a.eval s = v) (hx : a.eval x = .slice (some ⟨B, 0, none⟩) m m) (hm : 0 < m)
    (hl : news.length = m * size) (h1 : (news.all fun u => u.oneCell') = true) (hn : n + m ≤ 1000000001) (H : Hs A w0 w rs)
    (h : ∀ v' w', Hs A w0 w' (rs.set i (.row e size v' (n + m) (xs ++ news))) → wpList P ops Q rest (a.put o.dst v') w') : wpList P ops Q (o :: rest) a w :=
  wp_pushN hgd s x t ho e inf z size bytes ht hinf hz hsize hby hzs hsz hbb A v n m xs news B hs hx hm hl h1 hn (H.get hi) H.alt' (H.get hk).1
    fun v' w' hown hch hat => h v' w' (H.turn hi hch hown hat)
/-- append(nil, xs...): a copy. -/
theorem copy {P : Program} {ops : Array Oper} {rest : List Oper} {o : Oper} {a : Act} {Q : Exit → Act → World → Prop} (hgd : o.guard = none) (s x : Operand) (t : TypeId)
    (ho : o.op = .call { callee := .builtin .append, args := #[s, x], argTypes := #[t, t] })
    (e : TypeId) (inf : TypeInfo) (z : Value) (size bytes : Nat) (ht : P.underlying t = some (.slice e)) (hinf : P.info? e = some inf) (hz : inf.zero = some z)
    (hsize : inf.size = size) (hby : inf.bytes = bytes) (hzs : z.cells.size = size) (hsz : 0 < size) (hbb : bytes ≤ 1000)
    (ad : Option Addr) (m c : Nat) (news : List Value) (hs : a.eval s = .slice none 0 0) (hx : a.eval x = .slice ad m c)
    (hl : news.length = m * size) (h1 : (news.all fun u => u.oneCell') = true) (hn : m ≤ 1000000000)
    (hc : 0 < m → ∃ d, ad = some d ∧ ∀ j u, news[j]? = some u → w.cell? (d.add j) = some u) (H : Hs A w0 w rs)
    (h : ∀ v' w', Hs A w0 w' (.row e size v' m news :: rs) → wpList P ops Q rest (a.put o.dst v') w') : wpList P ops Q (o :: rest) a w :=
  wp_copy hgd s x t ho e inf z size bytes ht hinf hz hsize hby hzs hsz hbb A ad m c news hs hx hl h1 hn H.alt' hc
    fun v' w' hown hch hat => h v' w' (H.new hch hown hat)
end Hs

/-- What a call gives, whatever was held before it. -/
def Gives (w w' : World) (res : List Res) : Prop := ∀ (A : Nat → Prop) (w0 : World) (rs : List Res), Hs A w0 w rs → Hs A w0 w' (res ++ rs)
theorem gives_of {w w' : World} {res : List Res} (h : Hs (fun k => k < w.heap.size) w w' res) : Gives w w' res := by
  intro A w0 rs H
  have hk := h.kp
  have hc : Ch (fun _ => False) w w' := ⟨hk.os, hk.tape, hk.output, hk.size, fun k hk' _ => hk.block k hk'⟩
  refine ⟨H.kp.trans (Kp.of_ch hc H.alt' (fun _ _ => id)), H.alt, ?_, ?_⟩
  · intro r hr
    rcases List.mem_append.1 hr with hr | hr
    · have h1 := h.ok r hr
      cases r with
      | blk g t cs => exact ⟨h1.1, fun hA => h1.2 (H.alt' g hA)⟩
      | row e size v n xs => exact ⟨h1.1, fun g hg hA => h1.2 g hg (H.alt' g hA)⟩
    · exact (H.ok r hr).ch hc (fun _ _ => id)
  · rw [List.pairwise_append]
    refine ⟨h.apart, H.apart, fun a ha b hb g hg hg' => ?_⟩
    exact (h.ok a ha).out hg ((H.ok b hb).lt hg')
theorem Gives.fr {w w' : World} (h : Ch (fun _ => False) w w') : Gives w w' [] := fun A w0 rs H => H.ch0 h
theorem Gives.kp {w w' : World} {res : List Res} (h : Gives w w' res) : Kp (fun k => k < w.heap.size) w w' := (h _ _ _ (Hs.start w)).kp
end Mem
end Go.Proofs.YtllahgnpjodgmaaDoor

set_option linter.unusedVariables false
namespace Go.Proofs.YtllahgnpjodgmaaDoor
open Go Go.RowKit
namespace Mem
theorem wp_push0 {P : Program} {w : World} {ops : Array Oper} {rest : List Oper} {o : Oper} {a : Act} {Q : Exit → Act → World → Prop} (hgd : o.guard = none) (s x : Operand) (t : TypeId)
    (ho : o.op = .call { callee := .builtin .append, args := #[s, x], argTypes := #[t, t] })
    (e : TypeId) (i : TypeInfo) (size : Nat) (ht : P.underlying t = some (.slice e)) (hi : P.info? e = some i)
    (v : Value) (n : Nat) (xs : List Value) (hs : a.eval s = v) (hown : w.ownsRow 0 e size v n xs) (ad : Option Addr) (c : Nat) (hx : a.eval x = .slice ad 0 c)
    (h : wpList P ops Q rest (a.put o.dst v) w) : wpList P ops Q (o :: rest) a w := by
  refine wpList_plain hgd fun K hK => ?_
  have hrun : (Builtin.append_ #[t, t] o.type #[v, .slice ad 0 c]).run P w = .ok v w := by
    rcases hown.2 with ⟨rfl, rfl⟩ | ⟨g, cap, cur, rfl, _, _, hnc, _⟩
    · cases ad <;> simp [Builtin.append_, run_underlying ht, sizeOf, typeInfo, hi, Builtin.lenOf, Builtin.firstCells, loadCells, loadCellsFrom]
    · cases ad <;> simp [Builtin.append_, run_underlying ht, sizeOf, typeInfo, hi, Builtin.lenOf, Builtin.firstCells, hnc, storeCells, loadCells, loadCellsFrom]
  unfold Oper.wp
  simp [execOp, ho, resolve, invoke, builtin, hs, hx, hrun, Result.andThen]
  exact hK _ _ h

theorem wp_pushS {P : Program} {w : World} {ops : Array Oper} {rest : List Oper} {o : Oper} {a : Act} {Q : Exit → Act → World → Prop} (hgd : o.guard = none) (s x : Operand) (t : TypeId)
    (ho : o.op = .call { callee := .builtin .append, args := #[s, x], argTypes := #[t, t] })
    (e : TypeId) (i : TypeInfo) (z : Value) (size bytes : Nat) (ht : P.underlying t = some (.slice e)) (hi : P.info? e = some i) (hz : i.zero = some z)
    (hsize : i.size = size) (hby : i.bytes = bytes) (hzs : z.cells.size = size) (hsz : 0 < size) (hbb : bytes ≤ 1000)
    (A : Nat → Prop) (v : Value) (n m : Nat) (xs news : List Value) (ad : Option Addr) (c : Nat) (hs : a.eval s = v) (hx : a.eval x = .slice ad m c)
    (hl : news.length = m * size) (h1 : (news.all fun u => u.oneCell') = true) (hn : n + m ≤ 1000000001)
    (hown : Own A w e size v n xs) (hA : ∀ k, A k → k < w.heap.size) (hc : 0 < m → ∃ d, ad = some d ∧ ∀ j u, news[j]? = some u → w.cell? (d.add j) = some u)
    (h : ∀ v' w', Own A w' e size v' (n + m) (xs ++ news) → Ch (fun k => v.ownBlock = some k) w w' → (v'.ownBlock = v.ownBlock ∨ ∀ g, v'.ownBlock = some g → w.heap.size ≤ g) → wpList P ops Q rest (a.put o.dst v') w') : wpList P ops Q (o :: rest) a w := by
  rcases Nat.eq_zero_or_pos m with rfl | hm
  · have hnil : news = [] := List.eq_nil_of_length_eq_zero (by omega)
    subst hnil
    refine wp_push0 hgd s x t ho e i size ht hi v n xs hs hown.1 ad c hx ?_
    exact h _ _ (by rw [List.append_nil]; exact hown) (Ch.refl _ w) (.inl rfl)
  obtain ⟨d, rfl, hd⟩ := hc hm
  refine wpList_append_lies w hgd s x t ho 0 e i z size bytes ht hi hz hsize hby hzs hsz v n xs hs hown.1 d m c news hx hl hd (fun u hu => List.all_eq_true.1 h1 u hu) hm ?_ ?_ (Nat.zero_le _) w.heap.size rfl ?_
  · simp only [maxLen]; omega
  · have : (n + m) * bytes ≤ 1000000001 * 1000 := Nat.mul_le_mul (by omega) hbb
    omega
  · intro g cap w' hown' hgr hat _
    refine h _ _ ⟨hown', fun k hk => ?_⟩ ((Ch.refl _ _).grown hgr fun g hg => .inl hg) ?_
    · have hk' : k = g := by simpa [Value.ownBlock] using hk.symm
      subst hk'
      rcases hat with h2 | h2
      · exact hown.2 _ h2
      · intro h3; have := hA _ h3; omega
    · rcases hat with h2 | h2
      · left; rw [h2]; rfl
      · right; intro k hk
        have hk' : k = g := by simpa [Value.ownBlock] using hk.symm
        omega
namespace Hs
variable {A : Nat → Prop} {w0 w : World} {rs : List Res}
/-- What can be read is appended to a row. -/
theorem pushS {P : Program} {ops : Array Oper} {rest : List Oper} {o : Oper} {a : Act} {Q : Exit → Act → World → Prop} (hgd : o.guard = none) (s x : Operand) (t : TypeId)
    (ho : o.op = .call { callee := .builtin .append, args := #[s, x], argTypes := #[t, t] })
    (e : TypeId) (inf : TypeInfo) (z : Value) (size bytes : Nat) (ht : P.underlying t = some (.slice e)) (hinf : P.info? e = some inf) (hz : inf.zero = some z)
    (hsize : inf.size = size) (hby : inf.bytes = bytes) (hzs : z.cells.size = size) (hsz : 0 < size) (hbb : bytes ≤ 1000)
    (i : Nat) (v : Value) (n : Nat) (xs : List Value) (hi : rs[i]? = some (.row e size v n xs)) (ad : Option Addr) (m c : Nat) (news : List Value)
    (hs : a.eval s = v) (hx : a.eval x = .slice ad m c)
    (hl : news.length = m * size) (h1 : (news.all fun u => u.oneCell') = true) (hn : n + m ≤ 1000000001)
    (hc : 0 < m → ∃ d, ad = some d ∧ ∀ j u, news[j]? = some u → w.cell? (d.add j) = some u) (H : Hs A w0 w rs)
    (h : ∀ v' w', Hs A w0 w' (rs.set i (.row e size v' (n + m) (xs ++ news))) → wpList P ops Q rest (a.put o.dst v') w') : wpList P ops Q (o :: rest) a w :=
  wp_pushS hgd s x t ho e inf z size bytes ht hinf hz hsize hby hzs hsz hbb A v n m xs news ad c hs hx hl h1 hn (H.get hi) H.alt' hc
    fun v' w' hown hch hat => h v' w' (H.turn hi hch hown hat)
end Hs
end Mem
end Go.Proofs.YtllahgnpjodgmaaDoor

set_option linter.unusedVariables false
namespace Go.Proofs.YtllahgnpjodgmaaDoor
open Go Go.RowKit Mem Pm
theorem infoNode : (Tryd.prog.info? 45).map (fun i => (i.zero, i.size, i.bytes)) = some (some (.agg #[.int .i64 0, .int .i64 0, .int .i64 0, .int .i64 0, .int .i64 0, .int .i64 0, .int .i64 0, .int .i64 0, .string ⟨#[]⟩, .slice none 0 0]), 10, 104) := by kernel_rfl
theorem infoInt : (Tryd.prog.info? 3).map (fun i => (i.zero, i.size, i.bytes)) = some (some (.int .i64 0), 1, 8) := by kernel_rfl
def kidRows (l : List (Nd × Value)) : List Res := l.map fun x => .row 3 1 x.2 x.1.kids.length (ints x.1.kids)
/-- A slice that reads as these cells. -/
def RdS (w : World) (v : Value) (n : Nat) (xs : List Value) : Prop := ∃ a cap, v = .slice a n cap ∧ n ≤ cap ∧ (xs ≠ [] → ∃ g off, a = some ⟨g, off, none⟩ ∧ ∀ j u, xs[j]? = some u → w.cell? ⟨g, off + j, none⟩ = some u)
theorem RdS.fr {w w' : World} {v : Value} {n : Nat} {xs : List Value} (h : RdS w v n xs) (hf : Fr w w') : RdS w' v n xs := by
  obtain ⟨a, cap, h1, h2, h3⟩ := h
  refine ⟨a, cap, h1, h2, fun hx => ?_⟩
  obtain ⟨g, off, h4, h5⟩ := h3 hx
  refine ⟨g, off, h4, fun j u hu => ?_⟩
  have h6 := h5 j u hu
  have hlt := block_lt_of_cell h6
  exact (World.cell?_of_block (hf.block g hlt id)).trans h6
theorem rdS_row {A : Nat → Prop} {w0 w : World} {rs : List Res} (h : Hs A w0 w rs) (i : Nat) {e : TypeId} {size n : Nat} {v : Value} {xs : List Value} (hi : rs[i]? = some (.row e size v n xs)) : RdS w v n xs := by
  obtain ⟨a, cap, rfl, hl, hg⟩ := h.form i hi
  refine ⟨a, cap, rfl, hl, fun hx => ?_⟩
  obtain ⟨g, h1, h2⟩ := h.rdRow i hi hx
  exact ⟨g, 0, h1, fun j u hu => by rw [Nat.zero_add]; exact h2 j u hu⟩

/-- A tree that reads so. -/
structure TreeRd (w : World) (nodes : List Nd) (funcs : List Int) (nd fu : Value) : Prop where
  nds : ∃ kvs : List Value, kvs.length = nodes.length ∧ RdS w nd nodes.length (ndsC (nodes.zip kvs)) ∧ ∀ x ∈ nodes.zip kvs, RdS w x.2 x.1.kids.length (ints x.1.kids)
  funcs : RdS w fu funcs.length (ints funcs)
theorem TreeRd.fr {w w' : World} {nodes : List Nd} {funcs : List Int} {nd fu : Value} (h : TreeRd w nodes funcs nd fu) (hf : Fr w w') : TreeRd w' nodes funcs nd fu := by
  obtain ⟨⟨kvs, h1, h2, h3⟩, h4⟩ := h
  exact ⟨⟨kvs, h1, h2.fr hf, fun x hx => (h3 x hx).fr hf⟩, h4.fr hf⟩
theorem rdS_cells {w : World} {v : Value} {n : Nat} {l : List (Nd × Value)} (h : RdS w v n (ndsC l)) (hl : l.length ≤ n) {i : Nat} {x : Nd} {kv : Value} (hx : l[i]? = some (x, kv)) :
    ∃ g off cap, v = .slice (some ⟨g, off, none⟩) n cap ∧ ∀ j u, j < 10 → (ndC x kv)[j]? = some u → w.cell? ⟨g, off + (i * 10 + j), none⟩ = some u := by
  obtain ⟨a, cap, rfl, _, h3⟩ := h
  have h0 := ndsC_get hx 0 (by omega)
  have hne : ndsC l ≠ [] := fun h => by rw [h] at h0; simp [ndC] at h0
  obtain ⟨g, off, rfl, h4⟩ := h3 hne
  exact ⟨g, off, cap, rfl, fun j u hj hu => h4 _ _ (by rw [ndsC_get hx j hj]; exact hu)⟩

theorem kidRows_snoc {l : List Nd} {kvs : List Value} {n : Nd} {kv : Value} (h : kvs.length = l.length) : kidRows ((l ++ [n]).zip (kvs ++ [kv])) = kidRows (l.zip kvs) ++ [.row 3 1 kv n.kids.length (ints n.kids)] := by
  rw [List.zip_append h.symm]
  simp [kidRows]
theorem rd_of_rdS {w : World} {a : Option Addr} {n cap : Nat} {xs : List Value} (h : RdS w (.slice a n cap) n xs) : Rd (fun k => k < w.heap.size) w a xs := by
  obtain ⟨a0, c0, he, _, hr⟩ := h
  injection he with he1 _ he2
  subst he1 he2
  intro hx
  obtain ⟨g, off, h1, h2⟩ := hr hx
  refine ⟨g, off, h1, ?_, h2⟩
  cases xs with
  | nil => exact absurd rfl hx
  | cons u r => exact block_lt_of_cell (h2 0 u rfl)
theorem RdS.pre {w : World} {a : Option Addr} {n m cap : Nat} {xs ys : List Value} (h : RdS w (.slice a n cap) n (xs ++ ys)) (hm : m ≤ n) : RdS w (.slice a m cap) m xs := by
  obtain ⟨a0, c0, he, hc, hr⟩ := h
  injection he with he1 _ he2
  subst he1 he2
  refine ⟨_, _, rfl, by omega, fun hx => ?_⟩
  obtain ⟨g, off, h1, h2⟩ := hr (by simp [hx])
  exact ⟨g, off, h1, fun j u hu => h2 j u (by rw [List.getElem?_append_left (List.getElem?_eq_some_iff.1 hu).1]; exact hu)⟩
theorem row_len {A : Nat → Prop} {w0 w : World} {rs : List Res} (h : Hs A w0 w rs) {r : Res} (hr : r ∈ rs) : match r with | .row _ _ _ n _ => n ≤ 9223372036854775807 | _ => True := by
  have h1 := h.ok r hr
  cases r with
  | blk g t cs => trivial
  | row e size v n xs =>
    rcases h1.1.2 with ⟨_, h2⟩ | ⟨g, cap, cur, _, _, _, h3, h4, _⟩
    · dsimp only; omega
    · unfold maxLen at h4; dsimp only; omega

end Go.Proofs.YtllahgnpjodgmaaDoor
