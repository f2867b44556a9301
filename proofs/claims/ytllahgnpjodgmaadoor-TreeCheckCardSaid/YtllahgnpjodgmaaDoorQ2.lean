/- Slices and trees that read so.
What a tree is (chapter 3), on plain data: the fields, the kids, the order; as the program looks at it, and as the document's own answer does. No program here.
tree's small predicates.
tree.isName. -/
import Derived.Test.YtllahgnpjodgmaaDoorQ1
import Derived.Deep.QuietTactic
import Derived.BigQuiet
import Derived.Lib.ConvBytes
import Derived.Deep.DeepCutAuto
set_option linter.unusedVariables false
namespace Go.Proofs.YtllahgnpjodgmaaDoor
open Go Go.RowKit Mem Pm
theorem infoNode : (Tryd.prog.info? 45).map (fun i => (i.zero, i.size, i.bytes)) = some (some (.agg #[.int .i64 0, .int .i64 0, .int .i64 0, .int .i64 0, .int .i64 0, .int .i64 0, .int .i64 0, .int .i64 0, .string ⟨#[]⟩, .slice none 0 0]), 10, 104) := by kernel_rfl
theorem infoInt : (Tryd.prog.info? 3).map (fun i => (i.zero, i.size, i.bytes)) = some (some (.int .i64 0), 1, 8) := by kernel_rfl
def kidRows (l : List (Nd × Value)) : List Res := l.map fun x => .row 3 1 x.2 x.1.kids.length (ints x.1.kids)
/-- A slice that reads as these cells. -/
def RdS (w : World) (v : Value) (n : Nat) (xs : List Value) : Prop := ∃ a cap, v = .slice a n cap ∧ n ≤ cap ∧ (xs ≠ [] → ∃ g off, a = some ⟨g, off, none⟩ ∧ ∀ j u, xs[j]? = some u → w.cell? ⟨g, off + j, none⟩ = some u)
theorem RdS.fr {w w' : World} {v : Value} {n : Nat} {xs : List Value} (h : RdS w v n xs) (hf : Fr w w') : RdS w' v n xs := by
  obtain ⟨a, cap, h1, h2, h3⟩ := h
  refine ⟨a, cap, h1, h2, fun hx => ?_⟩
  obtain ⟨g, off, h4, h5⟩ := h3 hx
  refine ⟨g, off, h4, fun j u hu => ?_⟩
  have h6 := h5 j u hu
  have hlt := block_lt_of_cell h6
  exact (World.cell?_of_block (hf.block g hlt id)).trans h6
theorem rdS_row {A : Nat → Prop} {w0 w : World} {rs : List Res} (h : Hs A w0 w rs) (i : Nat) {e : TypeId} {size n : Nat} {v : Value} {xs : List Value} (hi : rs[i]? = some (.row e size v n xs)) : RdS w v n xs := by
  obtain ⟨a, cap, rfl, hl, hg⟩ := h.form i hi
  refine ⟨a, cap, rfl, hl, fun hx => ?_⟩
  obtain ⟨g, h1, h2⟩ := h.rdRow i hi hx
  exact ⟨g, 0, h1, fun j u hu => by rw [Nat.zero_add]; exact h2 j u hu⟩

/-- A tree that reads so. -/
structure TreeRd (w : World) (nodes : List Nd) (funcs : List Int) (nd fu : Value) : Prop where
  nds : ∃ kvs : List Value, kvs.length = nodes.length ∧ RdS w nd nodes.length (ndsC (nodes.zip kvs)) ∧ ∀ x ∈ nodes.zip kvs, RdS w x.2 x.1.kids.length (ints x.1.kids)
  funcs : RdS w fu funcs.length (ints funcs)
theorem TreeRd.fr {w w' : World} {nodes : List Nd} {funcs : List Int} {nd fu : Value} (h : TreeRd w nodes funcs nd fu) (hf : Fr w w') : TreeRd w' nodes funcs nd fu := by
  obtain ⟨⟨kvs, h1, h2, h3⟩, h4⟩ := h
  exact ⟨⟨kvs, h1, h2.fr hf, fun x hx => (h3 x hx).fr hf⟩, h4.fr hf⟩
theorem rdS_cells {w : World} {v : Value} {n : Nat} {l : List (Nd × Value)} (h : RdS w v n (ndsC l)) (hl : l.length ≤ n) {i : Nat} {x : Nd} {kv : Value} (hx : l[i]? = some (x, kv)) :
    ∃ g off cap, v = .slice (some ⟨g, off, none⟩) n cap ∧ ∀ j u, j < 10 → (ndC x kv)[j]? = some u → w.cell? ⟨g, off + (i * 10 + j), none⟩ = some u := by
  obtain ⟨a, cap, rfl, _, h3⟩ := h
  have h0 := ndsC_get hx 0 (by omega)
  have hne : ndsC l ≠ [] := fun h => by rw [h] at h0; simp [ndC] at h0
  obtain ⟨g, off, rfl, h4⟩ := h3 hne
  exact ⟨g, off, cap, rfl, fun j u hj hu => h4 _ _ (by rw [ndsC_get hx j hj]; exact hu)⟩

theorem kidRows_snoc {l : List Nd} {kvs : List Value} {n : Nd} {kv : Value} (h : kvs.length = l.length) : kidRows ((l ++ [n]).zip (kvs ++ [kv])) = kidRows (l.zip kvs) ++ [.row 3 1 kv n.kids.length (ints n.kids)] := by
  rw [List.zip_append h.symm]
  simp [kidRows]
theorem rd_of_rdS {w : World} {a : Option Addr} {n cap : Nat} {xs : List Value} (h : RdS w (.slice a n cap) n xs) : Rd (fun k => k < w.heap.size) w a xs := by
  obtain ⟨a0, c0, he, _, hr⟩ := h
  injection he with he1 _ he2
  subst he1 he2
  intro hx
  obtain ⟨g, off, h1, h2⟩ := hr hx
  refine ⟨g, off, h1, ?_, h2⟩
  cases xs with
  | nil => exact absurd rfl hx
  | cons u r => exact block_lt_of_cell (h2 0 u rfl)
theorem RdS.pre {w : World} {a : Option Addr} {n m cap : Nat} {xs ys : List Value} (h : RdS w (.slice a n cap) n (xs ++ ys)) (hm : m ≤ n) : RdS w (.slice a m cap) m xs := by
  obtain ⟨a0, c0, he, hc, hr⟩ := h
  injection he with he1 _ he2
  subst he1 he2
  refine ⟨_, _, rfl, by omega, fun hx => ?_⟩
  obtain ⟨g, off, h1, h2⟩ := hr (by simp [hx])
  exact ⟨g, off, h1, fun j u hu => h2 j u (by rw [List.getElem?_append_left (List.getElem?_eq_some_iff.1 hu).1]; exact hu)⟩
theorem row_len {A : Nat → Prop} {w0 w : World} {rs : List Res} (h : Hs A w0 w rs) {r : Res} (hr : r ∈ rs) : match r with | .row _ _ _ n _ => n ≤ 9223372036854775807 | _ => True := by
  have h1 := h.ok r hr
  cases r with
  | blk g t cs => trivial
  | row e size v n xs =>
    rcases h1.1.2 with ⟨_, h2⟩ | ⟨g, cap, cur, _, _, _, h3, h4, _⟩
    · dsimp only; omega
    · unfold maxLen at h4; dsimp only; omega

end Go.Proofs.YtllahgnpjodgmaaDoor

set_option linter.unusedVariables false
namespace Go.Proofs.YtllahgnpjodgmaaDoor
open Pm
namespace Tm

def isE (k : Int) : Bool := decide (20 ≤ k) && decide (k ≤ 31)
def isS (k : Int) : Bool := decide (3 ≤ k) && decide (k ≤ 14)
def named (k : Int) : Bool := k == 1 || k == 2 || k == 4 || k == 5 || k == 6 || k == 24 || k == 25
/-- A node's fields but its kids. -/
def fields (n : Nd) : Bool :=
  (n.where_ == 0 || named n.kind || n.kind == 31) && (if named n.kind then isNm n.name.data.toList else n.name.data.toList.isEmpty) &&
  (if n.kind = 1 then decide (0 ≤ n.decl) && decide (n.decl ≤ 3) else if n.kind = 2 ∨ n.kind = 4 then decide (1 ≤ n.decl) && decide (n.decl ≤ 3) else n.decl == 0) &&
  (if n.kind = 30 then decide (20 ≤ n.op) && decide (n.op ≤ 22) else if n.kind = 31 then decide (1 ≤ n.op) && decide (n.op ≤ 19) else n.op == 0) &&
  (if n.kind = 20 then decide (0 ≤ n.value) else n.value == 0) &&
  (n.type == 0 || (isE n.kind && decide (0 < n.type) && decide (n.type ≤ 3))) && (n.close == 0 || n.kind == 1)
/-- The kinds of a node's kids. -/
def kidsOk (k : Int) (l : List Int) : Bool :=
  if k = 1 then decide (0 < l.length) && l.getLastD 0 == 3 && l.dropLast.all (· == 2)
  else if k = 3 then l.all isS
  else if k = 4 ∨ k = 12 then decide (l.length ≤ 1) && l.all isE
  else if k = 5 ∨ k = 8 ∨ k = 9 ∨ k = 27 ∨ k = 28 ∨ k = 30 then l.length == 1 && l.all isE
  else if k = 6 ∨ k = 29 ∨ k = 31 then l.length == 2 && l.all isE
  else if k = 7 then l.length == 1 && l.headD 0 == 25
  else if k = 10 then (l.length == 2 || l.length == 3) && isE (l.headD 0) && l.getD 1 0 == 3 && (l.drop 2).all (fun x => x == 3 || x == 10)
  else if k = 11 then (l.length == 1 || l.length == 2) && l.getLastD 0 == 3 && l.dropLast.all isE
  else if k = 25 then l.all isE
  else if k = 2 ∨ k = 13 ∨ k = 14 ∨ k = 20 ∨ k = 21 ∨ k = 22 ∨ k = 23 ∨ k = 24 ∨ k = 26 then l.length == 0
  else false
def kindOf (nodes : List Nd) (k : Int) : Int := (nodes.getD k.toNat {}).kind
/-- One node, behind those that wait for their parent. -/
def step (nodes : List Nd) (n : Nd) (i : Nat) (wait : List Int) : Option (List Int) :=
  if fields n = true ∧ n.kids.length ≤ wait.length ∧ wait.drop (wait.length - n.kids.length) = n.kids ∧ kidsOk n.kind (n.kids.map (kindOf nodes)) = true
  then some (wait.take (wait.length - n.kids.length) ++ [(i : Int)]) else none
/-- So many nodes, from the i-th on. -/
def go (nodes : List Nd) : Nat → Nat → List Int → Option (List Int)
  | 0, _, wait => some wait
  | m + 1, i, wait => (step nodes (nodes.getD i {}) i wait).bind (go nodes m (i + 1))
def check (nodes : List Nd) (funcs : List Int) : Bool := match go nodes nodes.length 0 [] with
  | none => false
  | some wait => decide (wait = funcs) && funcs.all (fun f => kindOf nodes f == 1)

/-- Kids stand ahead of their node: the numbers from lo to hi are those of rs and all below them, in the order of a walk. -/
inductive Fo (ks : Nat → List Nat) : Nat → Nat → List Nat → Prop
  | nil (lo : Nat) : Fo ks lo lo []
  | cons {lo r hi : Nat} {rs : List Nat} : Fo ks lo r (ks r) → Fo ks (r + 1) hi rs → Fo ks lo hi (r :: rs)
def kidsOf (nodes : List Nd) (k : Nat) : List Nat := (nodes.getD k {}).kids.map Int.toNat
variable {ks : Nat → List Nat}
theorem Fo.le {lo hi : Nat} {rs : List Nat} (h : Fo ks lo hi rs) : lo ≤ hi := by
  induction h with
  | nil => exact Nat.le_refl _
  | cons _ _ h1 h2 => omega
theorem Fo.append {lo mid hi : Nat} {a b : List Nat} (h : Fo ks lo mid a) (h2 : Fo ks mid hi b) : Fo ks lo hi (a ++ b) := by
  induction h with
  | nil => exact h2
  | cons h3 _ _ ih => exact .cons h3 (ih h2)
theorem Fo.split {lo hi : Nat} : ∀ {a b : List Nat}, Fo ks lo hi (a ++ b) → ∃ mid, Fo ks lo mid a ∧ Fo ks mid hi b
  | [], b, h => ⟨lo, .nil _, h⟩
  | x :: a, b, h => by
    cases h with
    | cons h1 h2 =>
      obtain ⟨mid, h3, h4⟩ := Fo.split h2
      exact ⟨mid, .cons h1 h3, h4⟩
theorem Fo.mem {lo hi : Nat} {rs : List Nat} (h : Fo ks lo hi rs) : ∀ r ∈ rs, lo ≤ r ∧ r < hi := by
  induction h with
  | nil => intro r hr; cases hr
  | @cons lo r hi rs h1 h2 _ ih =>
    intro x hx
    have := h1.le
    have := h2.le
    rcases List.mem_cons.1 hx with rfl | hx
    · omega
    · have := ih x hx; omega
/-- The last one is the last number. -/
theorem Fo.last {lo hi : Nat} {rs : List Nat} (h : Fo ks lo hi rs) : rs ≠ [] → ∃ r, rs.getLast? = some r ∧ r + 1 = hi := by
  induction h with
  | nil => intro h; exact absurd rfl h
  | @cons lo r hi rs h1 h2 _ ih =>
    intro _
    cases rs with
    | nil => cases h2; exact ⟨r, rfl, rfl⟩
    | cons y l =>
      obtain ⟨z, hz, he⟩ := ih (by simp)
      exact ⟨z, by rw [List.getLast?_cons_cons]; exact hz, he⟩

/-- What a tree is: all fields and kids right, the numbers in order, functions alone at the top. -/
structure Ok (nodes : List Nd) (funcs : List Int) : Prop where
  each : ∀ n ∈ nodes, fields n = true ∧ kidsOk n.kind (n.kids.map (kindOf nodes)) = true
  low : ∀ (i : Nat) (n : Nd), nodes[i]? = some n → ∀ k ∈ n.kids, 0 ≤ k ∧ k < (i : Int)
  fo : Fo (kidsOf nodes) 0 nodes.length (funcs.map Int.toNat)
  nn : ∀ f ∈ funcs, 0 ≤ f
  funcs : funcs.all (fun f => kindOf nodes f == 1) = true
end Tm
end Go.Proofs.YtllahgnpjodgmaaDoor

set_option linter.unusedVariables false
namespace Go.Proofs.YtllahgnpjodgmaaDoor
open Go Go.RowKit Mem Pm

set_option maxRecDepth 100000 in
set_option maxHeartbeats 2000000 in
theorem isE_c (k : Int) (w : World) : Calls Tryd.prog 57 #[.int .i64 k] w fun e w' => e = .returned (.bool (Tm.isE k)) ∧ w = w' := by
  by_cases h : 20 ≤ k
  · have h2 : decide ((20 : Int) ≤ k) = true := decide_eq_true h
    go_enter Tryd.func57, Tryd.ntmps57
    go_wp2_with fail
    go_ret
    exact ⟨by simp [Tm.isE, h], rfl⟩
  · have h2 : decide ((20 : Int) ≤ k) = false := decide_eq_false h
    go_enter Tryd.func57, Tryd.ntmps57
    go_wp2_with fail
    go_ret
    exact ⟨by simp [Tm.isE]; omega, rfl⟩
set_option maxRecDepth 100000 in
set_option maxHeartbeats 2000000 in
theorem isS_c (k : Int) (w : World) : Calls Tryd.prog 47 #[.int .i64 k] w fun e w' => e = .returned (.bool (Tm.isS k)) ∧ w = w' := by
  by_cases h : 3 ≤ k
  · have h2 : decide ((3 : Int) ≤ k) = true := decide_eq_true h
    go_enter Tryd.func47, Tryd.ntmps47
    go_wp2_with fail
    go_ret
    exact ⟨by simp [Tm.isS, h], rfl⟩
  · have h2 : decide ((3 : Int) ≤ k) = false := decide_eq_false h
    go_enter Tryd.func47, Tryd.ntmps47
    go_wp2_with fail
    go_ret
    exact ⟨by simp [Tm.isS]; omega, rfl⟩
set_option maxRecDepth 100000 in
set_option maxHeartbeats 2000000 in
theorem named_c (k : Int) (w : World) : Calls Tryd.prog 55 #[.int .i64 k] w fun e w' => e = .returned (.bool (Tm.named k)) ∧ w = w' := by
  go_enter Tryd.func55, Tryd.ntmps55
  go_wp2_with fail
  all_goals (go_ret; refine ⟨?_, rfl⟩; simp_all [Tm.named])
end Go.Proofs.YtllahgnpjodgmaaDoor

set_option linter.unusedVariables false
namespace Go.Proofs.YtllahgnpjodgmaaDoor
open Go Go.RowKit Mem Pm

theorem fr_bytesWorld (w : World) (e : TypeId) (s : ByteArray) : Fr w (Lib.bytesWorld w e s) :=
  ⟨rfl, rfl, rfl, by rw [Lib.bytesWorld_size]; omega, fun k hk _ => Lib.bytesWorld_at_old w e s k hk⟩
set_option maxRecDepth 100000 in
set_option maxHeartbeats 8000000 in
theorem isName_t (s : ByteArray) (hs : s.size ≤ 9223372036854775807) (w : World) : Calls Tryd.prog 56 #[.string s] w fun e w' => e = .returned (.bool (Pm.isNm s.data.toList)) ∧ Fr w w' := by
  by_cases hem : s.data.toList = []
  · have hz : s.size = 0 := by rw [Lib.size_eq, hem]; rfl
    have hb : ((s.size : Int) == 0) = true := beq_iff_eq.2 (by omega)
    have Hem := Lib.hid hem
    clear hem
    go_enter Tryd.func56, Tryd.ntmps56
    go_wp2_with fail
    go_ret
    exact ⟨by rw [Hem.out]; rfl, Ch.refl _ _⟩
  have h0 : 0 < s.size := by
    rw [Lib.size_eq]
    exact List.length_pos_iff.2 hem
  have h0i : (0 : Int) < (s.size : Int) := by omega
  have hb : ((s.size : Int) == 0) = false := beq_eq_false_iff_ne.2 (by omega)
  have Hne := Lib.hid hem
  clear hem
  by_cases hsz : (64 : Int) < (s.size : Int)
  · have h64 : 64 < s.data.toList.length := by rw [← Lib.size_eq]; omega
    have hf : Pm.isNm s.data.toList = false := by
      cases hl : s.data.toList with
      | nil => rfl
      | cons c r => unfold Pm.isNm; rw [hl] at h64; simp only [decide_eq_false (show ¬ (c :: r).length ≤ 64 by omega), Bool.false_and]
    have Hf := Lib.hid hf
    clear hf h64
    go_enter Tryd.func56, Tryd.ntmps56
    go_wp2_with fail
    go_ret
    exact ⟨by rw [Hf.out]; rfl, Ch.refl _ _⟩
  have h64 : s.data.toList.length ≤ 64 := by rw [← Lib.size_eq]; omega
  have H64 := Lib.hid h64
  clear h64
  have hx0 : s.data.toList[0]? = some s[0] := by simp [h0]; rfl
  have hoc := okc_iff 0 s[0]
  have hno : okc 0 s[0] = false → Pm.isNm s.data.toList = false := isNm_false _ 0 _ hx0
  have Hno := Lib.hid hno
  have Hoc := Lib.hid hoc
  clear hno hoc hx0
  by_cases pd : (48 : Int) ≤ (s[0].toNat : Int) ∧ (s[0].toNat : Int) ≤ 57
  · obtain ⟨p1, p2⟩ := pd
    go_enter Tryd.func56, Tryd.ntmps56
    go_wp2_with fail
    go_ret
    exact ⟨by rw [Hno.out (Bool.eq_false_iff.2 fun h => by have := Hoc.out.1 h; omega)]; rfl, Ch.refl _ _⟩
  have hnd : ¬ ((48 : Int) ≤ (s[0].toNat : Int) ∧ (s[0].toNat : Int) ≤ 57) := pd
  have Hnd := Lib.hid hnd
  clear hnd
  have pd2 : ((48 : Int) ≤ (s[0].toNat : Int) ∧ decide ((s[0].toNat : Int) ≤ 57) = false) ∨ decide ((48 : Int) ≤ (s[0].toNat : Int)) = false := by
    by_cases p1 : (48 : Int) ≤ (s[0].toNat : Int)
    · exact .inl ⟨p1, decide_eq_false fun p2 => pd ⟨p1, p2⟩⟩
    · exact .inr (decide_eq_false p1)
  clear pd
  have kc := Lib.run_convert_string_bytes (P := Tryd.prog) w 9 30 5 s Tryd.underlying9 Tryd.underlying30 Tryd.underlying5
  have hfw := fr_bytesWorld w 5 s
  have hcw : ∀ j (hj : j < s.size), (Lib.bytesWorld w 5 s).cell? ⟨w.heap.size, j, none⟩ = some (.int .u8 (s[j].toNat : Int)) := by
    intro j hj
    rw [Lib.bytesWorld_cell w _ s j hj, List.getD_eq_getElem?_getD, List.getElem?_eq_getElem (by rw [← Lib.size_eq]; exact hj)]
    rfl
  generalize Lib.bytesWorld w 5 s = W1 at kc hfw hcw
  have Hcw := Lib.hid hcw
  have Hfw := Lib.hid hfw
  clear hfw hcw
  go_enter Tryd.func56, Tryd.ntmps56
  go_upto_region 1 with fail
  go_cut [22] (fun v22 wx => v22 = .bool false ∧ wx = w)
  case first =>
    rcases pd2 with ⟨p1, p2⟩ | p1
    · go_wp2_with fail
      go_meet
      case rel => exact ⟨rfl, rfl⟩
    · go_wp2_with fail
      go_meet
      case rel => exact ⟨rfl, rfl⟩
  case rest =>
  obtain ⟨rfl, rfl⟩ := hcut
  go_wp2_with fail
  clear kc pd2
  go_loopg [26] s.size (fun m i wr => W1 = wr ∧ ∃ k : Nat, k + m = s.size ∧ i = .int .i64 (k : Int) ∧ ∀ j c, j < k → s.data.toList[j]? = some c → okc j c = true)
  case atStart => exact ⟨rfl, 0, by omega, rfl, fun j c hj => by omega⟩
  case round =>
  obtain ⟨rfl, k, hk, rfl, hall⟩ := hrel
  have Hall := Lib.hid hall
  clear hall
  by_cases hlt : k < s.size
  case pos =>
    have hki : (k : Int) < (s.size : Int) := by omega
    have hk0 : (0 : Int) ≤ (k : Int) := by omega
    have hkx : s.data.toList[k]? = some s[k] := by simp [hlt]; rfl
    have hgo : okc k s[k] = true → ∀ j c, j < k + 1 → s.data.toList[j]? = some c → okc j c = true := by
      intro h j c hj hc
      by_cases hjk : j = k
      · subst hjk
        rw [hkx] at hc; injection hc with hc; subst hc; exact h
      · exact Hall.out j c (by omega) hc
    have hno : okc k s[k] = false → Pm.isNm s.data.toList = false := isNm_false _ k _ hkx
    have hoc := okc_iff k s[k]
    have h0c : k = 0 → ¬ ((48 : Int) ≤ (s[k].toNat : Int) ∧ (s[k].toNat : Int) ≤ 57) := by intro h; subst h; exact Hnd.out
    have c1 := Hcw.out k hlt
    have Hgo := Lib.hid hgo
    have Hno2 := Lib.hid hno
    have Hoc2 := Lib.hid hoc
    have H0c := Lib.hid h0c
    clear hgo hno hoc h0c hkx
    generalize s[k] = c at c1 Hgo Hno2 Hoc2 H0c
    obtain ⟨z, hz⟩ : ∃ z : Int, z = (c.toNat : Int) := ⟨_, rfl⟩
    rw [← hz] at c1
    have HZ := Lib.hid hz
    clear hz
    rcases (show z < 48 ∨ (48 ≤ z ∧ z ≤ 57) ∨ (58 ≤ z ∧ z ≤ 64) ∨ (65 ≤ z ∧ z ≤ 90) ∨ (91 ≤ z ∧ z ≤ 94) ∨ (95 ≤ z ∧ z ≤ 95) ∨ (96 ≤ z ∧ z ≤ 96) ∨ (97 ≤ z ∧ z ≤ 122) ∨ 123 ≤ z by omega) with p | ⟨p, p'⟩ | ⟨p, p'⟩ | ⟨p, p'⟩ | ⟨p, p'⟩ | ⟨p, p'⟩ | ⟨p, p'⟩ | ⟨p, p'⟩ | p
    all_goals
      first | have d48 : decide (z < 48) = true := decide_eq_true (by omega) | have d48 : decide (z < 48) = false := decide_eq_false (by omega)
      first | have d57 : decide (57 < z) = true := decide_eq_true (by omega) | have d57 : decide (57 < z) = false := decide_eq_false (by omega)
      first | have d65 : decide (z < 65) = true := decide_eq_true (by omega) | have d65 : decide (z < 65) = false := decide_eq_false (by omega)
      first | have d90 : decide (90 < z) = true := decide_eq_true (by omega) | have d90 : decide (90 < z) = false := decide_eq_false (by omega)
      first | have d97 : decide (z < 97) = true := decide_eq_true (by omega) | have d97 : decide (z < 97) = false := decide_eq_false (by omega)
      first | have d122 : decide (122 < z) = true := decide_eq_true (by omega) | have d122 : decide (122 < z) = false := decide_eq_false (by omega)
      first | have d95 : (z != 95) = true := bne_iff_ne.2 (by omega) | have d95 : (z != 95) = false := bne_eq_false_iff_eq.2 (by omega)
      go_wp2_with fail
      first
        | (go_ret; exact ⟨by rw [Hno2.out (Bool.eq_false_iff.2 fun h => by have := Hoc2.out.1 h; have := HZ.out; omega)]; rfl, Hfw.out⟩)
        | (go_roundg (gk - 1)
           case measure => omega
           case rel => exact ⟨rfl, k + 1, by omega, by go_num, fun j hj => Hgo.out (Hoc2.out.2 (by have := H0c.out; have := HZ.out; omega)) j hj⟩)
  case neg =>
    have hki : ¬ (k : Int) < (s.size : Int) := by omega
    have hall : ∀ i c, s.data.toList[i]? = some c → okc i c = true := fun i c h => Hall.out i c (by
      have := (List.getElem?_eq_some_iff.1 h).1; simp at this; have : s.size = s.data.size := rfl; omega) h
    have hnm := isNm_of s.data.toList Hne.out H64.out hall
    rw [← ByteArray.toList_eq] at hnm
    have Hnm := Lib.hid hnm
    clear hall Hall hnm Hno Hoc Hcw Hne H64 Hnd
    go_wp2_with fail
    all_goals
      go_ret
      refine ⟨?_, Hfw.out⟩
      rw [← ByteArray.toList_eq, Hnm.out]
      first
        | (rename_i hA hB; rw [hA] at hB; cases hB; done)
        | (have h := beq_iff_eq.1 ‹(s.toList == _) = true›; rw [h]; rfl)
        | (have h : Pm.words.contains s.toList = false := by
             simp only [Pm.words, List.contains_cons, List.contains_nil, Bool.or_false, Bool.or_eq_false_iff]
             exact ⟨by assumption, by assumption, by assumption, by assumption, by assumption, by assumption, by assumption, by assumption, by assumption, by assumption, by assumption, by assumption, by assumption, by assumption, by assumption, by assumption, by assumption, by assumption⟩
           rw [h]; rfl)
end Go.Proofs.YtllahgnpjodgmaaDoor
