/- The parser of package parse as a machine on plain data: what is still to be read is a list of rules; each rule takes a state to a state, or to a fault. No program here. -/
import Derived.Below
namespace Go.Proofs.YtllahgnpjodgmaaDoor
namespace Pm

structure Tok where
  kind : Int
  at_ : Int
  value : Int
  name : ByteArray

structure Nd where
  kind : Int := 0
  at_ : Int := 0
  where_ : Int := 0
  close : Int := 0
  decl : Int := 0
  type : Int := 0
  op : Int := 0
  value : Int := 0
  name : ByteArray := ⟨#[]⟩
  kids : List Int := []

inductive Sym where
  | program | function | functionEnd | block | statements | statement | semi | done | closed | shut | leave | set | arguments | moreArguments | otherwise | condition
  | expression | both | either | compared | andMore | sum | compare | nothing | product | sumMore | signed | productMore | plain | index

structure PS where
  toks : List Tok
  en : Int
  at_ : Nat
  todo : List Sym
  nodes : List Nd
  funcs : List Int
  loose : List Int
  begun : List (Nd × Nat)
  open_ : Int
  nest : List Int

/-- The words of MiniGo. -/
def words : List (List UInt8) := [[102, 117, 110, 99], [118, 97, 114], [105, 102], [101, 108, 115, 101], [102, 111, 114], [114, 101, 116, 117, 114, 110], [98, 114, 101, 97, 107],
  [99, 111, 110, 116, 105, 110, 117, 101], [112, 114, 105, 110, 116], [112, 97, 110, 105, 99], [105, 110, 112, 117, 116], [108, 101, 110], [109, 97, 107, 101], [105, 110, 116], [98, 111, 111, 108],
  [116, 114, 117, 101], [102, 97, 108, 115, 101], [110, 105, 108]]
def letter (c : UInt8) : Bool := c == 95 || (decide (97 ≤ c) && decide (c ≤ 122)) || (decide (65 ≤ c) && decide (c ≤ 90))
def digit (c : UInt8) : Bool := decide (48 ≤ c) && decide (c ≤ 57)
/-- A name, and no word. -/
def isNm (l : List UInt8) : Bool := match l with
  | [] => false
  | c :: r => decide (l.length ≤ 64) && letter c && r.all (fun c => letter c || digit c) && !words.contains l

def right (t : Tok) : Bool :=
  if t.kind = 1 then isNm t.name.data.toList else if t.kind = 2 then decide (0 ≤ t.value) else decide (10 ≤ t.kind ∧ t.kind ≤ 27 ∨ 40 ≤ t.kind ∧ t.kind ≤ 68)

abbrev M := Except (Int × Int)

namespace PS
def kind (s : PS) : Int := match s.toks[s.at_]? with
  | none => 0
  | some t => if right t then t.kind else 0
def fault (s : PS) : Int × Int := match s.toks[s.at_]? with
  | none => (s.en, 41)
  | some t => (t.at_, 40)
def skip (s : PS) : PS := { s with at_ := s.at_ + 1 }
def cur (s : PS) : Tok := s.toks.getD s.at_ ⟨0, 0, 0, ⟨#[]⟩⟩
def take (s : PS) (k : Int) : M (Tok × PS) := if s.kind = k then .ok (s.cur, s.skip) else .error s.fault
def do_ (s : PS) (l : List Sym) : PS := { s with todo := l ++ s.todo }
def maxLast : List Int → Int → List Int
  | [], _ => []
  | [x], m => [max x m]
  | x :: y :: l, m => x :: maxLast (y :: l) m
def enter (s : PS) : PS := { s with open_ := s.open_ + 1, nest := maxLast s.nest (s.open_ + 1) }
def leave (s : PS) : PS := { s with open_ := s.open_ - 1 }
def begin_ (s : PS) (n : Nd) (kids : Nat) : PS := { s with begun := (n, s.loose.length - kids) :: s.begun }
def done (s : PS) : PS := match s.begun with
  | [] => s
  | (n, f) :: r => { s with begun := r, nodes := s.nodes ++ [{ n with kids := s.loose.drop f }], loose := s.loose.take f ++ [(s.nodes.length : Int)] }
def leaf (s : PS) (n : Nd) : PS := (s.begin_ n 0).done
def leftAt (s : PS) : Int := (s.nodes.getD (s.loose.getLastD 0).toNat {}).at_
def top (s : PS) (f : Nd → Nd) : PS := match s.begun with
  | [] => s
  | (n, k) :: r => { s with begun := (f n, k) :: r }
def expect (s : PS) (k : Int) : M PS := do let (_, s) ← s.take k; pure s

def opened (s : PS) (k : Int) : M PS := do let s ← s.expect k; pure s.enter
def closed (s : PS) : M PS := do let s ← s.expect 41; pure s.leave
def shut (s : PS) : M PS := do let s ← s.expect 45; pure s.leave

def typed (s : PS) : M (Int × PS) :=
  if s.kind = 23 then .ok (1, s.skip) else if s.kind = 24 then .ok (2, s.skip) else do
    let s ← s.expect 44
    let s ← s.expect 45
    let s ← s.expect 23
    pure (3, s)
def param (s : PS) : M PS := do
  let (n, s) ← s.take 1
  let (d, s) ← s.typed
  pure (s.leaf { kind := 2, at_ := n.at_, where_ := n.at_, name := n.name, decl := d })
/-- Parameters behind the first, as long as no parenthesis shuts them. -/
def params : Nat → PS → M PS
  | 0, s => .ok s
  | n + 1, s => if s.kind = 41 then .ok s else do
    let s ← s.expect 46
    let s ← s.param
    params n s
def function (s : PS) : M PS := do
  let (f, s) ← s.take 10
  let (name, s) ← s.take 1
  let s := s.begin_ { kind := 1, at_ := f.at_, where_ := name.at_, name := name.name } 0
  let s ← s.expect 40
  let s ← if s.kind = 41 then pure s else s.param
  let s ← params (s.toks.length - s.at_) s
  let s ← s.expect 41
  let s ← if s.kind = 42 then pure s else (do
    let (d, s) ← s.typed
    pure (s.top fun n => { n with decl := d }))
  pure (({ s with nest := s.nest ++ [0] } : PS).do_ [.block, .functionEnd])
def functionEnd (s : PS) : PS :=
  let s := (s.top fun n => { n with close := (s.toks.getD (s.at_ - 1) ⟨0, 0, 0, ⟨#[]⟩⟩).at_ }).done
  { s with funcs := s.funcs ++ [(s.nodes.length : Int) - 1], loose := [] }
def block (s : PS) : M PS := do
  let (t, s) ← s.take 42
  pure ((s.begin_ { kind := 3, at_ := t.at_ } 0).enter.do_ [.statements])
def statements (s : PS) : PS := if s.kind = 43 then s.skip.leave.done else s.do_ [.statement, .statements]
def word (s : PS) (k : Int) : PS := (s.skip.begin_ { kind := k, at_ := s.cur.at_ } 0).do_ [.semi, .done]
def variable_ (s : PS) : M PS := do
  let (t, s) ← s.take 11
  let (n, s) ← s.take 1
  let (d, s) ← s.typed
  let s := s.begin_ { kind := 4, at_ := t.at_, where_ := n.at_, name := n.name, decl := d } 0
  if s.kind = 48 then pure (s.skip.do_ [.expression, .semi, .done]) else pure (s.do_ [.semi, .done])
def named (s : PS) : M PS := do
  let (n, s) ← s.take 1
  if s.kind = 48 then
    pure ((s.skip.begin_ { kind := 5, at_ := n.at_, where_ := n.at_, name := n.name } 0).do_ [.expression, .semi, .done])
  else if s.kind = 44 then do
    let s ← s.opened 44
    pure ((s.begin_ { kind := 6, at_ := n.at_, where_ := n.at_, name := n.name } 0).do_ [.expression, .shut, .set, .expression, .semi, .done])
  else do
    let s ← s.opened 40
    pure (((s.begin_ { kind := 7, at_ := n.at_ } 0).begin_ { kind := 25, at_ := n.at_, where_ := n.at_, name := n.name } 0).do_ [.arguments, .done, .semi, .done])
def told (s : PS) (k : Int) : M PS := do
  let s ← (s.skip.begin_ { kind := k, at_ := s.cur.at_ } 0).opened 40
  pure (s.do_ [.expression, .closed, .semi, .done])
def condition (s : PS) : M PS := do
  let (t, s) ← s.take 12
  pure ((s.begin_ { kind := 10, at_ := t.at_ } 0).do_ [.expression, .block, .otherwise])
def otherwise (s : PS) : PS :=
  if s.kind = 13 then
    if (s.toks[s.at_ + 1]?).any (fun t => t.kind == 12) then s.skip.enter.do_ [.condition, .leave, .done] else s.skip.do_ [.block, .done]
  else s.done
def loop (s : PS) : M PS := do
  let (t, s) ← s.take 14
  let s := s.begin_ { kind := 11, at_ := t.at_ } 0
  if s.kind = 42 then pure (s.do_ [.block, .done]) else pure (s.do_ [.expression, .block, .done])
def returned (s : PS) : M PS := do
  let (t, s) ← s.take 15
  let s := s.begin_ { kind := 12, at_ := t.at_ } 0
  if s.kind = 47 then pure (s.do_ [.semi, .done]) else pure (s.do_ [.expression, .semi, .done])
def statement (s : PS) : M PS :=
  if s.kind = 11 then s.variable_ else if s.kind = 1 then s.named else if s.kind = 18 then s.told 8 else if s.kind = 19 then s.told 9 else if s.kind = 12 then s.condition
  else if s.kind = 14 then s.loop else if s.kind = 15 then s.returned else if s.kind = 16 then .ok (s.word 13) else if s.kind = 17 then .ok (s.word 14)
  else if s.kind = 42 then .ok (s.do_ [.block]) else .error s.fault

/-- A sign's operator between two values, and how close it holds them. -/
def operator (k : Int) : Int × Int :=
  if k = 67 then (19, 1) else if k = 66 then (18, 2) else if 49 ≤ k ∧ k ≤ 54 then (12 + k - 49, 3) else if k = 55 then (1, 4) else if k = 56 then (2, 4) else if k = 61 then (7, 4)
  else if k = 62 then (8, 4) else if k = 57 then (3, 5) else if k = 58 then (4, 5) else if k = 59 then (5, 5) else if k = 60 then (6, 5) else if k = 63 then (9, 5) else if k = 64 then (10, 5)
  else if k = 65 then (11, 5) else (0, 0)
def joined (s : PS) (level : Int) (next again : Sym) : PS :=
  if (operator s.kind).2 = level then
    ((s.begin_ { kind := 31, at_ := s.leftAt, where_ := s.cur.at_, op := (operator s.kind).1 } 1).skip).do_ [next, .done, again]
  else s
def signed (s : PS) : PS :=
  let go (op : Int) : PS := ((s.begin_ { kind := 30, at_ := s.cur.at_, op := op } 0).skip.enter).do_ [.signed, .leave, .done]
  if s.kind = 56 then go 20 else if s.kind = 68 then go 21 else if s.kind = 62 then go 22 else s.do_ [.plain, .index]
def index (s : PS) : M PS :=
  if s.kind = 44 then do
    let s ← (s.begin_ { kind := 29, at_ := s.leftAt } 1).opened 44
    pure (s.do_ [.expression, .shut, .done, .index])
  else .ok s
def name (s : PS) (t : Tok) : M PS :=
  if s.kind = 40 then do
    let s ← (s.begin_ { kind := 25, at_ := t.at_, where_ := t.at_, name := t.name } 0).opened 40
    pure (s.do_ [.arguments, .done])
  else .ok (s.leaf { kind := 24, at_ := t.at_, where_ := t.at_, name := t.name })
def made (s : PS) (t : Tok) : M PS := do
  let s ← (s.begin_ { kind := 28, at_ := t.at_ } 0).opened 40
  let s ← s.expect 44
  let s ← s.expect 45
  let s ← s.expect 23
  let s ← s.expect 46
  pure (s.do_ [.expression, .closed, .done])
def plain (s : PS) : M PS :=
  let t := s.cur
  let k := s.kind
  if k = 0 then .error s.fault
  else if k = 2 then .ok (s.skip.leaf { kind := 20, at_ := t.at_, value := t.value })
  else if k = 25 then .ok (s.skip.leaf { kind := 21, at_ := t.at_ })
  else if k = 26 then .ok (s.skip.leaf { kind := 22, at_ := t.at_ })
  else if k = 27 then .ok (s.skip.leaf { kind := 23, at_ := t.at_ })
  else if k = 20 then do
    let s ← s.skip.opened 40
    let s ← s.closed
    pure (s.leaf { kind := 26, at_ := t.at_ })
  else if k = 1 then s.skip.name t
  else if k = 21 then do
    let s ← (s.skip.begin_ { kind := 27, at_ := t.at_ } 0).opened 40
    pure (s.do_ [.expression, .closed, .done])
  else if k = 22 then s.skip.made t
  else if k = 40 then .ok (s.skip.enter.do_ [.expression, .closed])
  else .error s.fault
def arguments (s : PS) : M PS := if s.kind = 41 then s.closed else .ok (s.do_ [.expression, .moreArguments])
def moreArguments (s : PS) : M PS := if s.kind = 46 then .ok (s.skip.do_ [.expression, .moreArguments]) else s.closed
def program (s : PS) : PS := if s.at_ < s.toks.length then s.do_ [.function, .program] else s

/-- One rule. -/
def rule (s : PS) : Sym → M PS
  | .program => .ok s.program
  | .function => s.function
  | .functionEnd => .ok s.functionEnd
  | .block => s.block
  | .statements => .ok s.statements
  | .statement => s.statement
  | .semi => s.expect 47
  | .done => .ok s.done
  | .closed => s.closed
  | .shut => s.shut
  | .leave => .ok s.leave
  | .set => s.expect 48
  | .arguments => s.arguments
  | .moreArguments => s.moreArguments
  | .otherwise => .ok s.otherwise
  | .condition => s.condition
  | .expression => .ok (s.do_ [.both, .either])
  | .either => .ok (s.joined 1 .both .either)
  | .both => .ok (s.do_ [.compared, .andMore])
  | .andMore => .ok (s.joined 2 .compared .andMore)
  | .compared => .ok (s.do_ [.sum, .compare])
  | .compare => .ok (s.joined 3 .sum .nothing)
  | .sum => .ok (s.do_ [.product, .sumMore])
  | .sumMore => .ok (s.joined 4 .product .sumMore)
  | .product => .ok (s.do_ [.signed, .productMore])
  | .productMore => .ok (s.joined 5 .signed .productMore)
  | .signed => .ok s.signed
  | .plain => s.plain
  | .index => s.index
  | .nothing => .ok s

/-- The next thing is read. -/
def step (s : PS) : M PS := match s.todo with
  | [] => .ok s
  | x :: r => ({ s with todo := r } : PS).rule x
end PS
end Pm
end Go.Proofs.YtllahgnpjodgmaaDoor
