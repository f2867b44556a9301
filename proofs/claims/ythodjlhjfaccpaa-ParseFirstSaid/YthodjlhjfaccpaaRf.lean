/- The document's own reading of tokens (quernref4) as a machine on plain data. No program here. -/
import Derived.Test.YthodjlhjfaccpaaPm
namespace Go.Proofs.Ythodjlhjfaccpaa
open Pm
namespace Rf

structure RS where
  nodes : List Nd := []
  funcs : List Int := []
  nest : List Int := []
  want : List Int := []
  marks : List (Nd × Nat) := []
  wait : List Int := []
  decl : Int := 0
  deep : Int := 0
  last : Tok := ⟨0, 0, 0, ⟨#[]⟩⟩

def operator (k : Int) : Int :=
  if k = 55 then 1 else if k = 56 then 2 else if k = 57 then 3 else if k = 58 then 4 else if k = 59 then 5 else if k = 60 then 6 else if k = 61 then 7 else if k = 62 then 8
  else if k = 63 then 9 else if k = 64 then 10 else if k = 65 then 11 else if k = 66 then 18 else if k = 67 then 19 else 12 + k - 49

def heads (g k : Int) (over : Bool) : List Int × Bool :=
  if g = 100 then if over = true then ([], true) else ([101, 100], k == 10)
  else if g = 101 then ([2001, 10, 1, 4002, 40, 102, 41, 105, 4003, 4008, 107, 4007, 1001], true)
  else if g = 102 then if k = 41 then ([], true) else ([103, 104], k == 1)
  else if g = 103 then ([2002, 1, 4002, 106, 4003, 1002], true)
  else if g = 104 then if k = 41 then ([], true) else ([46, 103, 104], k == 46)
  else if g = 105 then if k = 42 then ([], true) else ([106], (k == 23 || k == 24) || k == 44)
  else if g = 106 then if k = 44 then ([44, 45, 23], true) else ([k], k == 23 || k == 24)
  else ([2003, 42, 4000, 108, 43, 4001, 1003], k == 42)

def statement (k : Int) : List Int × Bool :=
  if k = 11 then ([2004, 11, 1, 4002, 106, 4003, 110, 47, 1004], true)
  else if k = 1 then ([2007, 1, 111], true)
  else if k = 18 then ([2008, 18, 40, 4000, 119, 41, 4001, 47, 1008], true)
  else if k = 19 then ([2009, 19, 40, 4000, 119, 41, 4001, 47, 1009], true)
  else if k = 12 then ([112], true)
  else if k = 14 then ([2011, 14, 115, 107, 1011], true)
  else if k = 15 then ([2012, 15, 116, 47, 1012], true)
  else if k = 16 then ([2013, 16, 47, 1013], true)
  else if k = 17 then ([2014, 17, 47, 1014], true)
  else if k = 42 then ([107], true)
  else ([], false)

def statements (g k : Int) : List Int × Bool :=
  if g = 108 then if k = 43 then ([], true) else ([109, 108], true)
  else if g = 109 then statement k
  else if g = 110 then if k = 47 then ([], true) else ([48, 119], k == 48)
  else if g = 111 then
    if k = 48 then ([4002, 5005, 48, 119, 47, 1005], true)
    else if k = 44 then ([4002, 5006, 44, 4000, 119, 45, 4001, 48, 119, 47, 1006], true)
    else if k = 40 then ([6025, 4002, 40, 4000, 117, 41, 4001, 1025, 47, 1007], true)
    else ([], false)
  else if g = 112 then ([2010, 12, 119, 107, 113, 1010], k == 12)
  else if g = 113 then if k = 13 then ([13, 114], true) else ([], true)
  else if g = 114 then if k = 12 then ([4000, 112, 4001], true) else ([107], k == 42)
  else if g = 115 then if k = 42 then ([], true) else ([119], true)
  else if k = 47 then ([], true) else ([119], true)

def chain (k : Int) (is : Bool) (value more : Int) : List Int × Bool :=
  if is = true then if more = 0 then ([3031, k, 4004, value, 1031], true) else ([3031, k, 4004, value, 1031, more], true) else ([], true)

def prim (k : Int) : List Int × Bool :=
  if k = 2 then ([2020, 2, 4006, 1020], true)
  else if k = 25 then ([2021, 25, 1021], true)
  else if k = 26 then ([2022, 26, 1022], true)
  else if k = 27 then ([2023, 27, 1023], true)
  else if k = 1 then ([2024, 1, 4002, 132], true)
  else if k = 20 then ([2026, 20, 40, 4000, 41, 4001, 1026], true)
  else if k = 21 then ([2027, 21, 40, 4000, 119, 41, 4001, 1027], true)
  else if k = 22 then ([2028, 22, 40, 4000, 44, 45, 23, 46, 119, 41, 4001, 1028], true)
  else if k = 40 then ([40, 4000, 119, 41, 4001], true)
  else ([], false)

def values (g k : Int) : List Int × Bool :=
  if g = 117 then if k = 41 then ([], true) else ([119, 118], true)
  else if g = 118 then if k = 41 then ([], true) else ([46, 119, 118], k == 46)
  else if g = 119 then ([121, 120], true)
  else if g = 120 then chain k (k == 67) 121 120
  else if g = 121 then ([123, 122], true)
  else if g = 122 then chain k (k == 66) 123 122
  else if g = 123 then ([125, 124], true)
  else if g = 124 then chain k (decide (49 ≤ k) && decide (k ≤ 54)) 125 0
  else if g = 125 then ([127, 126], true)
  else if g = 126 then chain k (((k == 55 || k == 56) || k == 61) || k == 62) 127 126
  else if g = 127 then ([129, 128], true)
  else if g = 128 then chain k ((((k == 57 || k == 58) || k == 59) || k == 60) || (decide (63 ≤ k) && decide (k ≤ 65))) 129 128
  else if g = 129 then if k = 56 ∨ k = 68 ∨ k = 62 then ([2030, k, 4005, 4000, 129, 4001, 1030], true) else ([131, 130], true)
  else if g = 130 then if k = 44 then ([3029, 44, 4000, 119, 45, 4001, 1029, 130], true) else ([], true)
  else if g = 132 then if k = 40 then ([5025, 40, 4000, 117, 41, 4001, 1025], true) else ([1024], true)
  else prim k

def rule (g k : Int) (over : Bool) : List Int × Bool := if g ≤ 107 then heads g k over else if g ≤ 116 then statements g k else values g k

namespace RS
def top (s : RS) (f : Nd → Nd) : Option RS := match s.marks with
  | [] => none
  | (n, k) :: r => some { s with marks := (f n, k) :: r }
def begin_ (s : RS) (n : Nd) (from_ : Nat) : RS := { s with marks := (n, from_) :: s.marks }
def node (s : RS) : Option RS := match s.marks with
  | [] => none
  | (n, f) :: r => if f ≤ s.wait.length then
      if n.kind = 1 then some { s with marks := r, nodes := s.nodes ++ [{ n with kids := s.wait.drop f }], funcs := s.funcs ++ [(s.nodes.length : Int)], wait := [] }
      else some { s with marks := r, nodes := s.nodes ++ [{ n with kids := s.wait.drop f }], wait := s.wait.take f ++ [(s.nodes.length : Int)] }
    else none
def own (k : Int) : Int := if k = 62 then 22 else if k = 68 then 21 else 20
/-- The node that was read last is there. -/
def leftAt (s : RS) : Option Int := match s.wait.getLast? with
  | none => none
  | some i => match s.nodes[i.toNat]? with
    | none => none
    | some n => if 0 ≤ i then some n.at_ else none
def act (s : RS) (a : Int) (next : Tok) : Option RS :=
  if 6000 ≤ a then if a < 10000 then some (s.begin_ { kind := a - 6000, at_ := s.last.at_ } s.wait.length) else none
  else if 5000 ≤ a then s.top fun n => { n with kind := a - 5000 }
  else if a = 4000 then if s.nest = [] then none else some { s with deep := s.deep + 1, nest := PS.maxLast s.nest (s.deep + 1) }
  else if a = 4001 then some { s with deep := s.deep - 1 }
  else if a = 4002 then s.top fun n => { n with name := s.last.name, where_ := s.last.at_ }
  else if a = 4003 then s.top fun n => { n with decl := s.decl }
  else if a = 4004 then if 49 ≤ s.last.kind ∧ s.last.kind ≤ 67 then s.top fun n => { n with op := operator s.last.kind, where_ := s.last.at_ } else none
  else if a = 4005 then s.top fun n => { n with op := own s.last.kind }
  else if a = 4006 then s.top fun n => { n with value := s.last.value }
  else if a = 4007 then s.top fun n => { n with close := s.last.at_ }
  else if a = 4008 then some { s with nest := s.nest ++ [0] }
  else if 3000 ≤ a then if a < 4000 then match s.leftAt with
      | none => none
      | some x => some (s.begin_ { kind := a - 3000, at_ := x } (s.wait.length - 1))
    else none
  else if 2000 ≤ a then some (s.begin_ { kind := a - 2000, at_ := next.at_ } s.wait.length)
  else s.node
def sz (s : RS) : Nat := s.nodes.length + s.funcs.length + s.nest.length + s.want.length + s.marks.length + s.wait.length + s.deep.natAbs
end RS

def next (toks : List Tok) (en : Int) (i : Nat) : Tok := toks.getD i ⟨0, en, 0, ⟨#[]⟩⟩
def kind (toks : List Tok) (i : Nat) : Int := match toks[i]? with
  | none => 0
  | some t => if right t then t.kind else 0
def fault (toks : List Tok) (en : Int) (i : Nat) : Int × Int := match toks[i]? with
  | none => (en, 41)
  | some t => (t.at_, 40)
def declOf (w k : Int) (row : List Int) (d : Int) : Int := if w = 106 then if k = 24 then 2 else if k = 23 then 1 else 3 else if w = 105 ∧ row = [] then 0 else d

inductive Nxt where
  | go (s : RS) (i : Nat)
  | bad
  | stuck

/-- One thing that is wanted. -/
def step (toks : List Tok) (en : Int) (s : RS) (i : Nat) (w : Int) : Nxt :=
  if 1000 ≤ w then match s.act w (next toks en i) with
    | none => .stuck
    | some s' => .go s' i
  else if 100 ≤ w then
    if (rule w (kind toks i) (i == toks.length)).2 = true then
      .go { s with want := (rule w (kind toks i) (i == toks.length)).1 ++ s.want, decl := declOf w (kind toks i) (rule w (kind toks i) (i == toks.length)).1 s.decl } i
    else .bad
  else if kind toks i = w then .go { s with last := next toks en i } (i + 1) else .bad

/-- A run: what it comes to, in so many steps. -/
inductive Runs (toks : List Tok) (en : Int) : Nat → RS → Nat → Except (Int × Int) RS → Prop where
  | done {s i} : s.want = [] → Runs toks en 0 s i (.ok s)
  | bad {s i w r} : s.want = w :: r → step toks en { s with want := r } i w = .bad → Runs toks en 0 s i (.error (fault toks en i))
  | step {n s i w r s' i' x} : s.want = w :: r → step toks en { s with want := r } i w = .go s' i' → s'.sz ≤ 900000000 → i' ≤ toks.length → Runs toks en n s' i' x → Runs toks en (n + 1) s i x
end Rf
end Go.Proofs.Ythodjlhjfaccpaa
