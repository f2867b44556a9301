/- A tree's text (chapter 3), on plain data: as the program's list of jobs makes it, and as the document's walk does: they are the same. No program here.
The printer's jobs, and its small functions: say, margin, typeName, sign, level, value. -/
import Derived.Test.YtllahgnpjodgmaaDoorQ9
import Derived.Lib.ItoaNum
import Derived.Test.YtllahgnpjodgmaaDoorQ10
import Derived.Deep.DeepCutAuto
set_option linter.unusedVariables false
namespace Go.Proofs.YtllahgnpjodgmaaDoor
open Pm
namespace Tm

/-- What is still to be printed. -/
inductive Part where
  | s (l : List UInt8)
  | ln (t : Nat)
  | k (k : Int) (t : Nat)

def level (n : Nd) : Int :=
  if n.kind = 30 then 6 else if n.kind ≠ 31 then 7 else if n.op = 19 then 1 else if n.op = 18 then 2 else if 12 ≤ n.op ∧ n.op ≤ 17 then 3
  else if n.op = 1 ∨ n.op = 2 ∨ n.op = 7 ∨ n.op = 8 then 4 else 5
def signs : List (List UInt8) := [[], [43], [45], [42], [47], [37], [38], [124], [94], [38, 94], [60, 60], [62, 62], [61, 61], [33, 61], [60], [60, 61], [62], [62, 61], [38, 38], [124, 124], [45], [33], [94]]
def sign (op : Int) : List UInt8 := signs.getD op.toNat []
def typeName (t : Int) : List UInt8 := if t = 1 then [105, 110, 116] else if t = 2 then [98, 111, 111, 108] else [91, 93, 105, 110, 116]
def nm (n : Nd) : List UInt8 := n.name.data.toList
def value (k : Int) (wanted : Bool) : List Part := if wanted then [.s [40], .k k 0, .s [41]] else [.k k 0]
/-- The arguments of a call. -/
def joined : List Int → List Part
  | [] => []
  | [k] => [.k k 0]
  | k :: l => .k k 0 :: .s [44, 32] :: joined l
def nodeAt (nodes : List Nd) (k : Int) : Nd := nodes.getD k.toNat {}
def operation (nodes : List Nd) (n : Nd) : List Part :=
  if n.kind = 29 then value (n.kids.getD 0 0) (decide (level (nodeAt nodes (n.kids.getD 0 0)) < 7)) ++ [.s [91], .k (n.kids.getD 1 0) 0, .s [93]]
  else if n.kind = 30 then .s (sign n.op) :: value (n.kids.getD 0 0) (decide (level (nodeAt nodes (n.kids.getD 0 0)) < 6))
  else value (n.kids.getD 0 0) (decide (level (nodeAt nodes (n.kids.getD 0 0)) < level n) || (decide (level (nodeAt nodes (n.kids.getD 0 0)) = 3) && decide (level n = 3))) ++
    (.s ([32] ++ sign n.op ++ [32]) :: value (n.kids.getD 1 0) (decide (level (nodeAt nodes (n.kids.getD 1 0)) ≤ level n)))
def expression (nodes : List Nd) (n : Nd) : List Part :=
  if n.kind = 20 then [.s (Lib.itoa n.value)] else if n.kind = 21 then [.s [116, 114, 117, 101]] else if n.kind = 22 then [.s [102, 97, 108, 115, 101]] else if n.kind = 23 then [.s [110, 105, 108]]
  else if n.kind = 26 then [.s [105, 110, 112, 117, 116, 40, 41]] else if n.kind = 24 then [.s (nm n)]
  else if n.kind = 25 then .s (nm n ++ [40]) :: (joined n.kids ++ [.s [41]])
  else if n.kind = 27 then [.s [108, 101, 110, 40], .k (n.kids.getD 0 0) 0, .s [41]]
  else if n.kind = 28 then [.s [109, 97, 107, 101, 40, 91, 93, 105, 110, 116, 44, 32], .k (n.kids.getD 0 0) 0, .s [41]]
  else operation nodes n
def statement (n : Nd) (t : Nat) : List Part :=
  if n.kind = 4 then
    if n.kids.length = 0 then [.s ([118, 97, 114, 32] ++ nm n ++ [32] ++ typeName n.decl ++ [59])]
    else [.s ([118, 97, 114, 32] ++ nm n ++ [32] ++ typeName n.decl ++ [32, 61, 32]), .k (n.kids.getD 0 0) t, .s [59]]
  else if n.kind = 5 then [.s (nm n ++ [32, 61, 32]), .k (n.kids.getD 0 0) t, .s [59]]
  else if n.kind = 6 then [.s (nm n ++ [91]), .k (n.kids.getD 0 0) t, .s [93, 32, 61, 32], .k (n.kids.getD 1 0) t, .s [59]]
  else if n.kind = 7 then [.k (n.kids.getD 0 0) t, .s [59]]
  else if n.kind = 8 then [.s [112, 114, 105, 110, 116, 40], .k (n.kids.getD 0 0) t, .s [41, 59]]
  else if n.kind = 9 then [.s [112, 97, 110, 105, 99, 40], .k (n.kids.getD 0 0) t, .s [41, 59]]
  else if n.kind = 13 then [.s [98, 114, 101, 97, 107, 59]]
  else if n.kind = 14 then [.s [99, 111, 110, 116, 105, 110, 117, 101, 59]]
  else if n.kind = 12 then if n.kids.length = 0 then [.s [114, 101, 116, 117, 114, 110, 59]] else [.s [114, 101, 116, 117, 114, 110, 32], .k (n.kids.getD 0 0) t, .s [59]]
  else if n.kind = 10 then
    if n.kids.length = 3 then [.s [105, 102, 32], .k (n.kids.getD 0 0) t, .s [32], .k (n.kids.getD 1 0) t, .s [32, 101, 108, 115, 101, 32], .k (n.kids.getD 2 0) t]
    else [.s [105, 102, 32], .k (n.kids.getD 0 0) t, .s [32], .k (n.kids.getD 1 0) t]
  else if n.kids.length = 1 then [.s [102, 111, 114, 32], .k (n.kids.getD 0 0) t] else [.s [102, 111, 114, 32], .k (n.kids.getD 0 0) t, .s [32], .k (n.kids.getD 1 0) t]
def block (n : Nd) (t : Nat) : List Part := .s [123] :: (n.kids.flatMap (fun k => [.ln (t + 1), .k k (t + 1)]) ++ [.ln t, .s [125]])
/-- The parameters of a function. -/
def params (nodes : List Nd) : List Int → List Part
  | [] => []
  | [k] => [.s (nm (nodeAt nodes k) ++ [32] ++ typeName (nodeAt nodes k).decl)]
  | k :: l => .s (nm (nodeAt nodes k) ++ [32] ++ typeName (nodeAt nodes k).decl) :: .s [44, 32] :: params nodes l
def function (nodes : List Nd) (n : Nd) : List Part :=
  .s ([102, 117, 110, 99, 32] ++ nm n ++ [40]) :: (params nodes n.kids.dropLast ++ .s [41, 32] :: ((if n.decl = 0 then [] else [.s (typeName n.decl ++ [32])]) ++ [.k (n.kids.getLastD 0) 0, .s [10]]))
/-- What a node comes to, behind so many tabs. -/
def node (nodes : List Nd) (n : Nd) (t : Nat) : List Part :=
  if n.kind = 1 then function nodes n else if n.kind = 3 then block n t else if isS n.kind = true then statement n t else expression nodes n
def outP (f : Int → Nat → List UInt8) : Part → List UInt8
  | .s l => l
  | .ln t => 10 :: List.replicate t 9
  | .k k t => f k t
/-- A node's text. -/
def tx (nodes : List Nd) : Nat → Int → Nat → List UInt8
  | 0, _, _ => []
  | d + 1, k, t => (node nodes (nodeAt nodes k) t).flatMap (outP (tx nodes d))
/-- The text of jobs. -/
def text (nodes : List Nd) (l : List Part) : List UInt8 := l.flatMap (outP (tx nodes (nodes.length + 1)))
/-- A tree's. -/
def print (nodes : List Nd) (funcs : List Int) : List UInt8 := text nodes (funcs.map fun f => .k f 0)

/-- The document's: what stands ahead of a node's i-th kid; b: how many blocks are open (a Block's own too). -/
def around (nodes : List Nd) (n : Nd) (i : Nat) : Bool :=
  if n.kind = 31 then if i = 0 then decide (level (nodeAt nodes (n.kids.getD i 0)) < level n) || (decide (level (nodeAt nodes (n.kids.getD i 0)) = 3) && decide (level n = 3)) else decide (level (nodeAt nodes (n.kids.getD i 0)) ≤ level n)
  else if n.kind = 30 then decide (level (nodeAt nodes (n.kids.getD i 0)) < 6)
  else if n.kind = 29 then decide (i = 0) && decide (level (nodeAt nodes (n.kids.getD i 0)) < 7)
  else false
def line (t : Nat) : List UInt8 := 10 :: List.replicate t 9
/-- A type's name; none has none. -/
def typeName0 (t : Int) : List UInt8 := if t = 0 then [] else typeName t
def ahead0 (n : Nd) (i b : Nat) : List UInt8 :=
  if n.kind = 1 then
    if i + 1 = n.kids.length then (if 0 < i then [] else [102, 117, 110, 99, 32] ++ nm n ++ [40]) ++ [41, 32] ++ typeName0 n.decl ++ (if n.decl = 0 then [] else [32])
    else if i = 0 then [102, 117, 110, 99, 32] ++ nm n ++ [40] else [44, 32]
  else if n.kind = 3 then (if i = 0 then [123] else []) ++ line b
  else if n.kind = 4 then [118, 97, 114, 32] ++ nm n ++ [32] ++ typeName0 n.decl ++ [32, 61, 32]
  else if n.kind = 5 then nm n ++ [32, 61, 32]
  else if n.kind = 6 then if i = 1 then [93, 32, 61, 32] else nm n ++ [91]
  else if n.kind = 8 then [112, 114, 105, 110, 116, 40]
  else if n.kind = 9 then [112, 97, 110, 105, 99, 40]
  else if n.kind = 10 then if i = 0 then [105, 102, 32] else if i = 1 then [32] else [32, 101, 108, 115, 101, 32]
  else if n.kind = 11 then if i = 1 then [32] else [102, 111, 114, 32]
  else if n.kind = 12 then [114, 101, 116, 117, 114, 110, 32]
  else if n.kind = 25 then if i = 0 then nm n ++ [40] else [44, 32]
  else if n.kind = 27 then [108, 101, 110, 40]
  else if n.kind = 28 then [109, 97, 107, 101, 40, 91, 93, 105, 110, 116, 44, 32]
  else if n.kind = 29 then if i = 1 then [91] else []
  else if n.kind = 30 then sign n.op
  else if n.kind = 31 then if i = 1 then [32] ++ sign n.op ++ [32] else []
  else []
def ahead (nodes : List Nd) (n : Nd) (i b : Nat) : List UInt8 := ahead0 n i b ++ (if around nodes n i = true then [40] else [])
def close (nodes : List Nd) (n : Nd) (i : Nat) : List UInt8 := if around nodes n i = true then [41] else []
def behind (n : Nd) (b : Nat) : List UInt8 :=
  if n.kind = 1 then [10]
  else if n.kind = 2 then nm n ++ [32] ++ typeName0 n.decl
  else if n.kind = 3 then (if n.kids.length = 0 then [123] else []) ++ line (b - 1) ++ [125]
  else if n.kind = 4 then if n.kids.length = 0 then [118, 97, 114, 32] ++ nm n ++ [32] ++ typeName0 n.decl ++ [59] else [59]
  else if n.kind = 5 ∨ n.kind = 6 ∨ n.kind = 7 then [59]
  else if n.kind = 8 ∨ n.kind = 9 then [41, 59]
  else if n.kind = 12 then if n.kids.length = 0 then [114, 101, 116, 117, 114, 110, 59] else [59]
  else if n.kind = 13 then [98, 114, 101, 97, 107, 59]
  else if n.kind = 14 then [99, 111, 110, 116, 105, 110, 117, 101, 59]
  else if n.kind = 20 then Lib.itoa n.value
  else if n.kind = 21 then [116, 114, 117, 101]
  else if n.kind = 22 then [102, 97, 108, 115, 101]
  else if n.kind = 23 then [110, 105, 108]
  else if n.kind = 24 then nm n
  else if n.kind = 25 then if n.kids.length = 0 then nm n ++ [40, 41] else [41]
  else if n.kind = 26 then [105, 110, 112, 117, 116, 40, 41]
  else if n.kind = 27 ∨ n.kind = 28 then [41]
  else if n.kind = 29 then [93]
  else []
/-- Blocks that are open within a node. -/
def inner (n : Nd) (b : Nat) : Nat := if n.kind = 3 then b + 1 else b
/-- A node's kids from the i-th on. -/
def rest (nodes : List Nd) (f : Int → Nat → List UInt8) (n : Nd) (b : Nat) : List Int → Nat → List UInt8
  | [], _ => behind n b
  | k :: l, i => ahead nodes n i b ++ f k b ++ close nodes n i ++ rest nodes f n b l (i + 1)
def rtx (nodes : List Nd) : Nat → Int → Nat → List UInt8
  | 0, _, _ => []
  | d + 1, k, b => rest nodes (rtx nodes d) (nodeAt nodes k) (inner (nodeAt nodes k) b) (nodeAt nodes k).kids 0
end Tm
end Go.Proofs.YtllahgnpjodgmaaDoor

set_option linter.unusedVariables false
namespace Go.Proofs.YtllahgnpjodgmaaDoor
open Go Go.RowKit Mem Pm
def ba (l : List UInt8) : ByteArray := ⟨l.toArray⟩
theorem ba_nm (n : Nd) : ba (Tm.nm n) = n.name := by unfold ba Tm.nm; simp
namespace Tm
def Part.tx : Part → ByteArray
  | .s l => ba l
  | _ => ⟨#[]⟩
def Part.isL : Part → Bool
  | .ln _ => true
  | _ => false
def Part.num : Part → Int
  | .k x _ => x
  | _ => 0
def Part.tabs : Part → Int
  | .s _ => 0
  | .ln x => (x : Int)
  | .k _ x => (x : Int)
/-- A job's cells. -/
def Part.C (p : Part) : List Value := [.string p.tx, .bool p.isL, .int .i64 p.num, .int .i64 p.tabs]
def Part.V (p : Part) : Value := .agg #[.string p.tx, .bool p.isL, .int .i64 p.num, .int .i64 p.tabs]
end Tm
open Tm (Part)
def partsC (l : List Part) : List Value := l.flatMap Part.C
theorem partsC_len (l : List Part) : (partsC l).length = l.length * 4 := by
  induction l with
  | nil => rfl
  | cons p l ih => show (p.C ++ partsC l).length = _; rw [List.length_append, ih, List.length_cons]; show 4 + _ = _; omega
theorem partsC_app (a b : List Part) : partsC (a ++ b) = partsC a ++ partsC b := by unfold partsC; rw [List.flatMap_append]
theorem partsC_get {l : List Part} {i : Nat} {p : Part} (h : l[i]? = some p) (j : Nat) (hj : j < 4) : (partsC l)[i * 4 + j]? = p.C[j]? := by
  induction l generalizing i with
  | nil => cases h
  | cons q l ih =>
    show (q.C ++ partsC l)[i * 4 + j]? = _
    cases i with
    | zero =>
      injection h with h
      subst h
      rw [Nat.zero_mul, Nat.zero_add, List.getElem?_append_left (by show j < 4; exact hj)]
    | succ i =>
      rw [List.getElem?_append_right (by show 4 ≤ _; omega)]
      have : (i + 1) * 4 + j - q.C.length = i * 4 + j := by show (i + 1) * 4 + j - 4 = _; omega
      rw [this]
      exact ih h
theorem infoJob : (Tryd.prog.info? 67).map (fun i => (i.zero, i.size, i.bytes)) = some (some (.agg #[.string ⟨#[]⟩, .bool false, .int .i64 0, .int .i64 0]), 4, 40) := by kernel_rfl

theorem jobTy : ∃ x, Tryd.prog.underlying 67 = some (.struct x) := by
  have hb : (match Tryd.prog.underlying 67 with | some (.struct _) => true | _ => false) = true := by kernel_rfl
  generalize Tryd.prog.underlying 67 = o at hb
  cases o with
  | none => cases hb
  | some t => cases t <;> first | exact ⟨_, rfl⟩ | cases hb

set_option maxRecDepth 100000 in
set_option maxHeartbeats 2000000 in
theorem say_c (s : ByteArray) (w : World) : Calls Tryd.prog 69 #[.string s] w fun e w' => e = .returned (.agg #[.string s, .bool false, .int .i64 0, .int .i64 0]) ∧ Fr w w' := by
  have H0 := Lib.hid ((Hs.start w).alloc [.string ⟨#[]⟩, .bool false, .int .i64 0, .int .i64 0] 67)
  go_enter Tryd.func69, Tryd.ntmps69
  go_wp2_with fail
  obtain ⟨x, hu⟩ := jobTy
  refine bodyPost_ret (results_cell_row (p := 2) (ty := 67) rfl _ _ w.heap.size 67 _ (0, 0) _ rfl (heap_alloc_new _ _) hu rfl (by kernel_rfl)) rfl ⟨rfl, (Ch.refl _ _).alloc _⟩
set_option maxRecDepth 100000 in
set_option maxHeartbeats 2000000 in
theorem margin_c (t : Int) (w : World) : Calls Tryd.prog 71 #[.int .i64 t] w fun e w' => e = .returned (.agg #[.string ⟨#[]⟩, .bool true, .int .i64 0, .int .i64 t]) ∧ Fr w w' := by
  have H0 := Lib.hid ((Hs.start w).alloc [.string ⟨#[]⟩, .bool false, .int .i64 0, .int .i64 0] 67)
  go_enter Tryd.func71, Tryd.ntmps71
  go_wp2_with fail
  obtain ⟨x, hu⟩ := jobTy
  refine bodyPost_ret (results_cell_row (p := 2) (ty := 67) rfl _ _ w.heap.size 67 _ (0, 0) _ rfl (heap_alloc_new _ _) hu rfl (by kernel_rfl)) rfl ⟨rfl, (Ch.refl _ _).alloc _⟩
set_option maxRecDepth 100000 in
set_option maxHeartbeats 2000000 in
theorem typeName_c (t : Int) (w : World) : Calls Tryd.prog 70 #[.int .i64 t] w fun e w' => e = .returned (.string (ba (Tm.typeName t))) ∧ w = w' := by
  obtain ⟨R, hR⟩ : ∃ R, R = ba (Tm.typeName t) := ⟨_, rfl⟩
  rw [← hR]
  have HR := Lib.hid hR
  clear hR
  cases e1 : (t == 1) with
  | true =>
    have h : Hid (R = ⟨#[105, 110, 116]⟩) := Lib.hid (by rw [HR.out]; unfold Tm.typeName; rw [if_pos (beq_iff_eq.1 e1)]; rfl)
    go_enter Tryd.func70, Tryd.ntmps70
    go_wp2_with fail
    go_ret
    exact ⟨by rw [h.out]; rfl, rfl⟩
  | false =>
    cases e2 : (t == 2) with
    | true =>
      have h : Hid (R = ⟨#[98, 111, 111, 108]⟩) := Lib.hid (by rw [HR.out]; unfold Tm.typeName; rw [if_neg (beq_eq_false_iff_ne.1 e1), if_pos (beq_iff_eq.1 e2)]; rfl)
      go_enter Tryd.func70, Tryd.ntmps70
      go_wp2_with fail
      go_ret
      exact ⟨by rw [h.out]; rfl, rfl⟩
    | false =>
      have h : Hid (R = ⟨#[91, 93, 105, 110, 116]⟩) := Lib.hid (by rw [HR.out]; unfold Tm.typeName; rw [if_neg (beq_eq_false_iff_ne.1 e1), if_neg (beq_eq_false_iff_ne.1 e2)]; rfl)
      go_enter Tryd.func70, Tryd.ntmps70
      go_wp2_with fail
      go_ret
      exact ⟨by rw [h.out]; rfl, rfl⟩
set_option maxRecDepth 100000 in
set_option maxHeartbeats 4000000 in
theorem level_c (n : Nd) (kv : Value) (w : World) : Calls Tryd.prog 81 #[ndV n kv] w fun e w' => e = .returned (.int .i64 (Tm.level n)) ∧ Fr w w' := by
  obtain ⟨k, a1, a2, a3, a4, a5, a6, a7, nm, ks⟩ := n
  obtain ⟨R, hR⟩ : ∃ R : Int, R = Tm.level ⟨k, a1, a2, a3, a4, a5, a6, a7, nm, ks⟩ := ⟨_, rfl⟩
  rw [← hR]
  have HR : Hid (R = if k = 30 then 6 else if k ≠ 31 then 7 else if a6 = 19 then 1 else if a6 = 18 then 2 else if 12 ≤ a6 ∧ a6 ≤ 17 then 3 else if a6 = 1 ∨ a6 = 2 ∨ a6 = 7 ∨ a6 = 8 then 4 else 5) := Lib.hid hR
  clear hR
  have h0 : Fr w (w.alloc (.cells #[.int .i64 k, .int .i64 a1, .int .i64 a2, .int .i64 a3, .int .i64 a4, .int .i64 a5, .int .i64 a6, .int .i64 a7, .string nm, kv] 45)) := (Ch.refl _ _).alloc _
  have H0 := Lib.hid h0
  clear h0
  unfold ndV
  dsimp only
  rcases (show k = 30 ∨ (k ≠ 30 ∧ k ≠ 31) ∨ (k = 31 ∧ (a6 = 19 ∨ a6 = 18 ∨ a6 = 12 ∨ a6 = 13 ∨ a6 = 14 ∨ a6 = 15 ∨ a6 = 16 ∨ a6 = 17 ∨ a6 = 1 ∨ a6 = 2 ∨ a6 = 7 ∨ a6 = 8 ∨ (a6 ≠ 19 ∧ a6 ≠ 18 ∧ a6 ≠ 12 ∧ a6 ≠ 13 ∧ a6 ≠ 14 ∧ a6 ≠ 15 ∧ a6 ≠ 16 ∧ a6 ≠ 17 ∧ a6 ≠ 1 ∧ a6 ≠ 2 ∧ a6 ≠ 7 ∧ a6 ≠ 8))) by omega) with rfl | ⟨h1, h2⟩ | ⟨rfl, rfl | rfl | rfl | rfl | rfl | rfl | rfl | rfl | rfl | rfl | rfl | rfl | ⟨n1, n2, n3, n4, n5, n6, n7, n8, n9, n10, n11, n12⟩⟩
  · have h : Hid (R = 6) := Lib.hid (by rw [HR.out]; rfl)
    go_enter Tryd.func81, Tryd.ntmps81
    go_wp2_with fail
    go_ret
    exact ⟨by rw [h.out]; rfl, H0.out⟩
  · have h : Hid (R = 7) := Lib.hid (by rw [HR.out, if_neg h1, if_pos h2])
    have e1 : (k == 30) = false := beq_eq_false_iff_ne.2 h1
    have e2 : (k != 31) = true := bne_iff_ne.2 h2
    go_enter Tryd.func81, Tryd.ntmps81
    go_wp2_with fail
    go_ret
    exact ⟨by rw [h.out]; rfl, H0.out⟩
  · have h : Hid (R = 1) := Lib.hid (by rw [HR.out]; rfl)
    go_enter Tryd.func81, Tryd.ntmps81
    go_wp2_with fail
    go_ret
    exact ⟨by rw [h.out]; rfl, H0.out⟩
  · have h : Hid (R = 2) := Lib.hid (by rw [HR.out]; rfl)
    go_enter Tryd.func81, Tryd.ntmps81
    go_wp2_with fail
    go_ret
    exact ⟨by rw [h.out]; rfl, H0.out⟩
  · have h : Hid (R = 3) := Lib.hid (by rw [HR.out]; rfl)
    go_enter Tryd.func81, Tryd.ntmps81
    go_wp2_with fail
    go_ret
    exact ⟨by rw [h.out]; rfl, H0.out⟩
  · have h : Hid (R = 3) := Lib.hid (by rw [HR.out]; rfl)
    go_enter Tryd.func81, Tryd.ntmps81
    go_wp2_with fail
    go_ret
    exact ⟨by rw [h.out]; rfl, H0.out⟩
  · have h : Hid (R = 3) := Lib.hid (by rw [HR.out]; rfl)
    go_enter Tryd.func81, Tryd.ntmps81
    go_wp2_with fail
    go_ret
    exact ⟨by rw [h.out]; rfl, H0.out⟩
  · have h : Hid (R = 3) := Lib.hid (by rw [HR.out]; rfl)
    go_enter Tryd.func81, Tryd.ntmps81
    go_wp2_with fail
    go_ret
    exact ⟨by rw [h.out]; rfl, H0.out⟩
  · have h : Hid (R = 3) := Lib.hid (by rw [HR.out]; rfl)
    go_enter Tryd.func81, Tryd.ntmps81
    go_wp2_with fail
    go_ret
    exact ⟨by rw [h.out]; rfl, H0.out⟩
  · have h : Hid (R = 3) := Lib.hid (by rw [HR.out]; rfl)
    go_enter Tryd.func81, Tryd.ntmps81
    go_wp2_with fail
    go_ret
    exact ⟨by rw [h.out]; rfl, H0.out⟩
  · have h : Hid (R = 4) := Lib.hid (by rw [HR.out]; rfl)
    go_enter Tryd.func81, Tryd.ntmps81
    go_wp2_with fail
    go_ret
    exact ⟨by rw [h.out]; rfl, H0.out⟩
  · have h : Hid (R = 4) := Lib.hid (by rw [HR.out]; rfl)
    go_enter Tryd.func81, Tryd.ntmps81
    go_wp2_with fail
    go_ret
    exact ⟨by rw [h.out]; rfl, H0.out⟩
  · have h : Hid (R = 4) := Lib.hid (by rw [HR.out]; rfl)
    go_enter Tryd.func81, Tryd.ntmps81
    go_wp2_with fail
    go_ret
    exact ⟨by rw [h.out]; rfl, H0.out⟩
  · have h : Hid (R = 4) := Lib.hid (by rw [HR.out]; rfl)
    go_enter Tryd.func81, Tryd.ntmps81
    go_wp2_with fail
    go_ret
    exact ⟨by rw [h.out]; rfl, H0.out⟩
  · have h : Hid (R = 5) := Lib.hid (by rw [HR.out, if_neg (by decide), if_neg (by decide), if_neg n1, if_neg n2, if_neg (by omega), if_neg (by omega)])
    have e0 : (a6 == 19) = false := beq_eq_false_iff_ne.2 n1
    have e1 : (a6 == 18) = false := beq_eq_false_iff_ne.2 n2
    have e2 : (a6 == 12) = false := beq_eq_false_iff_ne.2 n3
    have e3 : (a6 == 13) = false := beq_eq_false_iff_ne.2 n4
    have e4 : (a6 == 14) = false := beq_eq_false_iff_ne.2 n5
    have e5 : (a6 == 15) = false := beq_eq_false_iff_ne.2 n6
    have e6 : (a6 == 16) = false := beq_eq_false_iff_ne.2 n7
    have e7 : (a6 == 17) = false := beq_eq_false_iff_ne.2 n8
    have e8 : (a6 == 1) = false := beq_eq_false_iff_ne.2 n9
    have e9 : (a6 == 2) = false := beq_eq_false_iff_ne.2 n10
    have e10 : (a6 == 7) = false := beq_eq_false_iff_ne.2 n11
    have e11 : (a6 == 8) = false := beq_eq_false_iff_ne.2 n12
    go_enter Tryd.func81, Tryd.ntmps81
    go_wp2_with fail
    go_ret
    exact ⟨by rw [h.out]; rfl, H0.out⟩
def sgA : Array Value := #[.string ⟨#[]⟩, .string ⟨#[43]⟩, .string ⟨#[45]⟩, .string ⟨#[42]⟩, .string ⟨#[47]⟩, .string ⟨#[37]⟩, .string ⟨#[38]⟩, .string ⟨#[124]⟩, .string ⟨#[94]⟩, .string ⟨#[38, 94]⟩, .string ⟨#[60, 60]⟩, .string ⟨#[62, 62]⟩, .string ⟨#[61, 61]⟩, .string ⟨#[33, 61]⟩, .string ⟨#[60]⟩, .string ⟨#[60, 61]⟩, .string ⟨#[62]⟩, .string ⟨#[62, 61]⟩, .string ⟨#[38, 38]⟩, .string ⟨#[124, 124]⟩, .string ⟨#[45]⟩, .string ⟨#[33]⟩, .string ⟨#[94]⟩]
def sgN : Array Value := #[.string ⟨#[]⟩, .string ⟨#[]⟩, .string ⟨#[]⟩, .string ⟨#[]⟩, .string ⟨#[]⟩, .string ⟨#[]⟩, .string ⟨#[]⟩, .string ⟨#[]⟩, .string ⟨#[]⟩, .string ⟨#[]⟩, .string ⟨#[]⟩, .string ⟨#[]⟩, .string ⟨#[]⟩, .string ⟨#[]⟩, .string ⟨#[]⟩, .string ⟨#[]⟩, .string ⟨#[]⟩, .string ⟨#[]⟩, .string ⟨#[]⟩, .string ⟨#[]⟩, .string ⟨#[]⟩, .string ⟨#[]⟩, .string ⟨#[]⟩]
theorem sgA_get {k : Int} (h0 : 0 ≤ k) (h : k ≤ 22) : sgA[k.toNat]? = some (.string (ba (Tm.sign k))) := by
  obtain ⟨j, rfl⟩ : ∃ j : Nat, k = (j : Int) := ⟨k.toNat, by omega⟩
  have hj : j < 23 := by omega
  have h1 : sgA = (Tm.signs.map fun s => Value.string (ba s)).toArray := by rfl
  show sgA[j]? = some (.string (ba (Tm.signs.getD j [])))
  rw [h1, List.getElem?_toArray, List.getElem?_map, List.getD_eq_getElem?_getD]
  cases e : Tm.signs[j]? with
  | none => have := List.getElem?_eq_none_iff.1 e; have : Tm.signs.length = 23 := rfl; omega
  | some s => rfl
theorem built_to {P : Program} {ops : Array Oper} {rest : List Oper} {o : Oper} {a : Act} {w : World} {Q : Exit → Act → World → Prop} (hg : o.guard = none) (t : TypeId) (parts : Array (Nat × Operand)) (ho : o.op = .build t parts) (cells : Array Value)
    (hf : P.built t (parts.map fun (i, x) => (i, a.eval x)).toList = some cells)
    (h : wpList P ops Q rest (a.put o.dst (.agg cells)) w) : wpList P ops Q (o :: rest) a w :=
  wpList_build hg t parts ho (by rw [hf]; rfl) (by rw [hf]; exact h)
theorem arr_new (w : World) (old cs : Array Value) (t : TypeId) : Fr w ((w.alloc (.cells old t)).setRow w.heap.size cs) ∧ ∀ j : Nat, ((w.alloc (.cells old t)).setRow w.heap.size cs).cell? ⟨w.heap.size, j, none⟩ = cs[j]? :=
  ⟨⟨rfl, rfl, rfl, by rw [size_setRow, size_alloc']; exact Nat.le_succ _, fun k hk _ => by rw [setRow_other _ _ _ _ (Nat.ne_of_lt hk)]; exact Below.heap_alloc _ _ _ hk⟩,
    fun j => cell_setRow_same _ _ _ old cs t (0, 0) (heap_alloc_new _ _)⟩
end Go.Proofs.YtllahgnpjodgmaaDoor
