/- A tree's text (chapter 3), on plain data: as the program's list of jobs makes it, and as the document's walk does: they are the same. No program here. -/
import Derived.Test.YtllahgnpjodgmaaDoorTc
import Derived.Lib.ItoaNum
set_option linter.unusedVariables false
namespace Go.Proofs.YtllahgnpjodgmaaDoor
open Pm
namespace Tm

/-- What is still to be printed. -/
inductive Part where
  | s (l : List UInt8)
  | ln (t : Nat)
  | k (k : Int) (t : Nat)

def level (n : Nd) : Int :=
  if n.kind = 30 then 6 else if n.kind ≠ 31 then 7 else if n.op = 19 then 1 else if n.op = 18 then 2 else if 12 ≤ n.op ∧ n.op ≤ 17 then 3
  else if n.op = 1 ∨ n.op = 2 ∨ n.op = 7 ∨ n.op = 8 then 4 else 5
def signs : List (List UInt8) := [[], [43], [45], [42], [47], [37], [38], [124], [94], [38, 94], [60, 60], [62, 62], [61, 61], [33, 61], [60], [60, 61], [62], [62, 61], [38, 38], [124, 124], [45], [33], [94]]
def sign (op : Int) : List UInt8 := signs.getD op.toNat []
def typeName (t : Int) : List UInt8 := if t = 1 then [105, 110, 116] else if t = 2 then [98, 111, 111, 108] else [91, 93, 105, 110, 116]
def nm (n : Nd) : List UInt8 := n.name.data.toList
def value (k : Int) (wanted : Bool) : List Part := if wanted then [.s [40], .k k 0, .s [41]] else [.k k 0]
/-- The arguments of a call. -/
def joined : List Int → List Part
  | [] => []
  | [k] => [.k k 0]
  | k :: l => .k k 0 :: .s [44, 32] :: joined l
def nodeAt (nodes : List Nd) (k : Int) : Nd := nodes.getD k.toNat {}
def operation (nodes : List Nd) (n : Nd) : List Part :=
  if n.kind = 29 then value (n.kids.getD 0 0) (decide (level (nodeAt nodes (n.kids.getD 0 0)) < 7)) ++ [.s [91], .k (n.kids.getD 1 0) 0, .s [93]]
  else if n.kind = 30 then .s (sign n.op) :: value (n.kids.getD 0 0) (decide (level (nodeAt nodes (n.kids.getD 0 0)) < 6))
  else value (n.kids.getD 0 0) (decide (level (nodeAt nodes (n.kids.getD 0 0)) < level n) || (decide (level (nodeAt nodes (n.kids.getD 0 0)) = 3) && decide (level n = 3))) ++
    (.s ([32] ++ sign n.op ++ [32]) :: value (n.kids.getD 1 0) (decide (level (nodeAt nodes (n.kids.getD 1 0)) ≤ level n)))
def expression (nodes : List Nd) (n : Nd) : List Part :=
  if n.kind = 20 then [.s (Lib.itoa n.value)] else if n.kind = 21 then [.s [116, 114, 117, 101]] else if n.kind = 22 then [.s [102, 97, 108, 115, 101]] else if n.kind = 23 then [.s [110, 105, 108]]
  else if n.kind = 26 then [.s [105, 110, 112, 117, 116, 40, 41]] else if n.kind = 24 then [.s (nm n)]
  else if n.kind = 25 then .s (nm n ++ [40]) :: (joined n.kids ++ [.s [41]])
  else if n.kind = 27 then [.s [108, 101, 110, 40], .k (n.kids.getD 0 0) 0, .s [41]]
  else if n.kind = 28 then [.s [109, 97, 107, 101, 40, 91, 93, 105, 110, 116, 44, 32], .k (n.kids.getD 0 0) 0, .s [41]]
  else operation nodes n
def statement (n : Nd) (t : Nat) : List Part :=
  if n.kind = 4 then
    if n.kids.length = 0 then [.s ([118, 97, 114, 32] ++ nm n ++ [32] ++ typeName n.decl ++ [59])]
    else [.s ([118, 97, 114, 32] ++ nm n ++ [32] ++ typeName n.decl ++ [32, 61, 32]), .k (n.kids.getD 0 0) t, .s [59]]
  else if n.kind = 5 then [.s (nm n ++ [32, 61, 32]), .k (n.kids.getD 0 0) t, .s [59]]
  else if n.kind = 6 then [.s (nm n ++ [91]), .k (n.kids.getD 0 0) t, .s [93, 32, 61, 32], .k (n.kids.getD 1 0) t, .s [59]]
  else if n.kind = 7 then [.k (n.kids.getD 0 0) t, .s [59]]
  else if n.kind = 8 then [.s [112, 114, 105, 110, 116, 40], .k (n.kids.getD 0 0) t, .s [41, 59]]
  else if n.kind = 9 then [.s [112, 97, 110, 105, 99, 40], .k (n.kids.getD 0 0) t, .s [41, 59]]
  else if n.kind = 13 then [.s [98, 114, 101, 97, 107, 59]]
  else if n.kind = 14 then [.s [99, 111, 110, 116, 105, 110, 117, 101, 59]]
  else if n.kind = 12 then if n.kids.length = 0 then [.s [114, 101, 116, 117, 114, 110, 59]] else [.s [114, 101, 116, 117, 114, 110, 32], .k (n.kids.getD 0 0) t, .s [59]]
  else if n.kind = 10 then
    if n.kids.length = 3 then [.s [105, 102, 32], .k (n.kids.getD 0 0) t, .s [32], .k (n.kids.getD 1 0) t, .s [32, 101, 108, 115, 101, 32], .k (n.kids.getD 2 0) t]
    else [.s [105, 102, 32], .k (n.kids.getD 0 0) t, .s [32], .k (n.kids.getD 1 0) t]
  else if n.kids.length = 1 then [.s [102, 111, 114, 32], .k (n.kids.getD 0 0) t] else [.s [102, 111, 114, 32], .k (n.kids.getD 0 0) t, .s [32], .k (n.kids.getD 1 0) t]
def block (n : Nd) (t : Nat) : List Part := .s [123] :: (n.kids.flatMap (fun k => [.ln (t + 1), .k k (t + 1)]) ++ [.ln t, .s [125]])
/-- The parameters of a function. -/
def params (nodes : List Nd) : List Int → List Part
  | [] => []
  | [k] => [.s (nm (nodeAt nodes k) ++ [32] ++ typeName (nodeAt nodes k).decl)]
  | k :: l => .s (nm (nodeAt nodes k) ++ [32] ++ typeName (nodeAt nodes k).decl) :: .s [44, 32] :: params nodes l
def function (nodes : List Nd) (n : Nd) : List Part :=
  .s ([102, 117, 110, 99, 32] ++ nm n ++ [40]) :: (params nodes n.kids.dropLast ++ .s [41, 32] :: ((if n.decl = 0 then [] else [.s (typeName n.decl ++ [32])]) ++ [.k (n.kids.getLastD 0) 0, .s [10]]))
/-- What a node comes to, behind so many tabs. -/
def node (nodes : List Nd) (n : Nd) (t : Nat) : List Part :=
  if n.kind = 1 then function nodes n else if n.kind = 3 then block n t else if isS n.kind = true then statement n t else expression nodes n
def outP (f : Int → Nat → List UInt8) : Part → List UInt8
  | .s l => l
  | .ln t => 10 :: List.replicate t 9
  | .k k t => f k t
/-- A node's text. -/
def tx (nodes : List Nd) : Nat → Int → Nat → List UInt8
  | 0, _, _ => []
  | d + 1, k, t => (node nodes (nodeAt nodes k) t).flatMap (outP (tx nodes d))
/-- The text of jobs. -/
def text (nodes : List Nd) (l : List Part) : List UInt8 := l.flatMap (outP (tx nodes (nodes.length + 1)))
/-- A tree's. -/
def print (nodes : List Nd) (funcs : List Int) : List UInt8 := text nodes (funcs.map fun f => .k f 0)

/-- The document's: what stands ahead of a node's i-th kid; b: how many blocks are open (a Block's own too). -/
def around (nodes : List Nd) (n : Nd) (i : Nat) : Bool :=
  if n.kind = 31 then if i = 0 then decide (level (nodeAt nodes (n.kids.getD i 0)) < level n) || (decide (level (nodeAt nodes (n.kids.getD i 0)) = 3) && decide (level n = 3)) else decide (level (nodeAt nodes (n.kids.getD i 0)) ≤ level n)
  else if n.kind = 30 then decide (level (nodeAt nodes (n.kids.getD i 0)) < 6)
  else if n.kind = 29 then decide (i = 0) && decide (level (nodeAt nodes (n.kids.getD i 0)) < 7)
  else false
def line (t : Nat) : List UInt8 := 10 :: List.replicate t 9
/-- A type's name; none has none. -/
def typeName0 (t : Int) : List UInt8 := if t = 0 then [] else typeName t
def ahead0 (n : Nd) (i b : Nat) : List UInt8 :=
  if n.kind = 1 then
    if i + 1 = n.kids.length then (if 0 < i then [] else [102, 117, 110, 99, 32] ++ nm n ++ [40]) ++ [41, 32] ++ typeName0 n.decl ++ (if n.decl = 0 then [] else [32])
    else if i = 0 then [102, 117, 110, 99, 32] ++ nm n ++ [40] else [44, 32]
  else if n.kind = 3 then (if i = 0 then [123] else []) ++ line b
  else if n.kind = 4 then [118, 97, 114, 32] ++ nm n ++ [32] ++ typeName0 n.decl ++ [32, 61, 32]
  else if n.kind = 5 then nm n ++ [32, 61, 32]
  else if n.kind = 6 then if i = 1 then [93, 32, 61, 32] else nm n ++ [91]
  else if n.kind = 8 then [112, 114, 105, 110, 116, 40]
  else if n.kind = 9 then [112, 97, 110, 105, 99, 40]
  else if n.kind = 10 then if i = 0 then [105, 102, 32] else if i = 1 then [32] else [32, 101, 108, 115, 101, 32]
  else if n.kind = 11 then if i = 1 then [32] else [102, 111, 114, 32]
  else if n.kind = 12 then [114, 101, 116, 117, 114, 110, 32]
  else if n.kind = 25 then if i = 0 then nm n ++ [40] else [44, 32]
  else if n.kind = 27 then [108, 101, 110, 40]
  else if n.kind = 28 then [109, 97, 107, 101, 40, 91, 93, 105, 110, 116, 44, 32]
  else if n.kind = 29 then if i = 1 then [91] else []
  else if n.kind = 30 then sign n.op
  else if n.kind = 31 then if i = 1 then [32] ++ sign n.op ++ [32] else []
  else []
def ahead (nodes : List Nd) (n : Nd) (i b : Nat) : List UInt8 := ahead0 n i b ++ (if around nodes n i = true then [40] else [])
def close (nodes : List Nd) (n : Nd) (i : Nat) : List UInt8 := if around nodes n i = true then [41] else []
def behind (n : Nd) (b : Nat) : List UInt8 :=
  if n.kind = 1 then [10]
  else if n.kind = 2 then nm n ++ [32] ++ typeName0 n.decl
  else if n.kind = 3 then (if n.kids.length = 0 then [123] else []) ++ line (b - 1) ++ [125]
  else if n.kind = 4 then if n.kids.length = 0 then [118, 97, 114, 32] ++ nm n ++ [32] ++ typeName0 n.decl ++ [59] else [59]
  else if n.kind = 5 ∨ n.kind = 6 ∨ n.kind = 7 then [59]
  else if n.kind = 8 ∨ n.kind = 9 then [41, 59]
  else if n.kind = 12 then if n.kids.length = 0 then [114, 101, 116, 117, 114, 110, 59] else [59]
  else if n.kind = 13 then [98, 114, 101, 97, 107, 59]
  else if n.kind = 14 then [99, 111, 110, 116, 105, 110, 117, 101, 59]
  else if n.kind = 20 then Lib.itoa n.value
  else if n.kind = 21 then [116, 114, 117, 101]
  else if n.kind = 22 then [102, 97, 108, 115, 101]
  else if n.kind = 23 then [110, 105, 108]
  else if n.kind = 24 then nm n
  else if n.kind = 25 then if n.kids.length = 0 then nm n ++ [40, 41] else [41]
  else if n.kind = 26 then [105, 110, 112, 117, 116, 40, 41]
  else if n.kind = 27 ∨ n.kind = 28 then [41]
  else if n.kind = 29 then [93]
  else []
/-- Blocks that are open within a node. -/
def inner (n : Nd) (b : Nat) : Nat := if n.kind = 3 then b + 1 else b
/-- A node's kids from the i-th on. -/
def rest (nodes : List Nd) (f : Int → Nat → List UInt8) (n : Nd) (b : Nat) : List Int → Nat → List UInt8
  | [], _ => behind n b
  | k :: l, i => ahead nodes n i b ++ f k b ++ close nodes n i ++ rest nodes f n b l (i + 1)
def rtx (nodes : List Nd) : Nat → Int → Nat → List UInt8
  | 0, _, _ => []
  | d + 1, k, b => rest nodes (rtx nodes d) (nodeAt nodes k) (inner (nodeAt nodes k) b) (nodeAt nodes k).kids 0
end Tm
end Go.Proofs.YtllahgnpjodgmaaDoor
