/- A region of operations whose order Go leaves open may be walked in the order of its text, where a check over its edges says so. Conditions: the operations that touch memory are in a forced order, but for loads ahead of allocations. -/
import Derived.Test.YtllahgnpjodgmaaDoorProg
import Derived.Orders
import Derived.Tactics
import Derived.Laws.Sem
import Derived.Laws.Rows
namespace Go.Proofs.YtllahgnpjodgmaaDoor
namespace Reg
open Go

/-- Only the normal way out. -/
def NQ (K : Act → World → Prop) : Exit → Act → World → Prop
  | .normal, a, w => K a w
  | _, _, _ => False
theorem NQ.intro {K : Act → World → Prop} {a : Act} {w : World} (h : K a w) : NQ K .normal a w := h
theorem not_letsOut {K : Act → World → Prop} : ¬ LetsOut (NQ K) := by rintro ⟨a, w, h⟩; exact h

section
variable {P : Program} {ops : Array Oper} {F : Act → World → Prop}

/-- What an operation comes to, its guard reckoned in. -/
def eff (P : Program) (ops : Array Oper) (o : Oper) (a : Act) (w : World) : Result Next :=
  if Region.wanted o (yielded ops a.tmps) = true then (execOp a.eval o).run P w else .ok (.value undef) w

theorem wpOp_iff {i : Nat} {o : Oper} (ho : ops[i]? = some o) {K : Act → World → Prop} {a : Act} {w : World} :
    wpOp P ops (NQ F) i K a w ↔ o.upon P a K (NQ F) (eff P ops o a w) := by
  unfold wpOp eff
  simp only [ho]
  split
  · simp only [Oper.wp]
    exact ⟨fun h => h.resolve_right (fun h => not_letsOut h.2), fun h => .inl h⟩
  · simp only [Oper.upon]

theorem eff_put {oi oj : Oper} (hsi : ∀ cs b, oi.op ≠ .select cs b) (a : Act) (w : World) (v : Value)
    (h : ∀ d, oj.dst = some d → d ∉ oi.looksAt ops) : eff P ops oi (a.put oj.dst v) w = eff P ops oi a w := by
  unfold eff
  rw [wanted_put oi a oj.dst v h, execOp_put oi hsi a oj.dst v h]

theorem upon_mono {o : Oper} {a : Act} {K K' : Act → World → Prop} {r : Result Next} (h : ∀ a w, K a w → K' a w)
    (hh : o.upon P a K (NQ F) r) : o.upon P a K' (NQ F) r := by
  cases r with
  | ok n w' =>
    cases n <;> simp only [Oper.upon] at hh ⊢ <;>
      first
        | exact h _ _ hh
        | exact Calls.mono hh (fun e w'' he => by cases e <;> first | exact h _ _ he | exact he)
        | exact Rows.mono hh (fun _ _ he => h _ _ he)
  | halt x w' => cases x <;> simp only [Oper.upon] at hh ⊢ <;> exact hh

/-- What holds of the state, whatever is put and deferred, holds behind the operation. -/
theorem upon_keep {o : Oper} {a : Act} {K : Act → World → Prop} {r : Result Next} {Y : Act → Prop} (hY : Y a) (hput : ∀ a u, Y a → Y (a.put o.dst u))
    (hdef : ∀ (a : Act) d, Y a → Y { a with defers := d :: a.defers }) (hh : o.upon P a K (NQ F) r) : o.upon P a (fun a' w' => Y a' ∧ K a' w') (NQ F) r := by
  cases r with
  | ok n w' =>
    cases n <;> simp only [Oper.upon] at hh ⊢
    case value u => exact ⟨hput _ _ hY, hh⟩
    case skip => exact ⟨hput _ _ hY, hh⟩
    case defer d => exact ⟨hput _ _ (hdef _ _ hY), hh⟩
    case enter f args => exact Calls.mono hh fun e w'' he => by cases e <;> first | exact ⟨hput _ _ hY, he⟩ | exact he
    case row row args => exact Rows.mono hh fun u w'' he => ⟨hput _ _ hY, he⟩
  | halt x w' => cases x <;> simp only [Oper.upon] at hh ⊢ <;> exact hh

/-- Another temporary filled ahead: taken out. -/
theorem upon_unput {o : Oper} {a : Act} {K : Act → World → Prop} {r : Result Next} {d : Option Tmp} {v : Value} (hd : ∀ e, d = some e → o.dst ≠ some e)
    (hh : o.upon P (a.put d v) K (NQ F) r) : o.upon P a (fun a' w' => K (a'.put d v) w') (NQ F) r := by
  cases r with
  | ok n w' =>
    cases n <;> simp only [Oper.upon] at hh ⊢
    case value u => rw [← Act.put_comm a v u hd]; exact hh
    case skip => rw [← Act.put_comm a v undef hd]; exact hh
    case defer dd => rw [← Act.put_comm _ v undef hd, ← Act.put_defers]; exact hh
    case enter f args =>
      refine Calls.mono hh fun e w'' he => ?_
      cases e with
      | returned u => show K _ _; rw [← Act.put_comm a v u hd]; exact he
      | panicked c => exact he
      | outgrown => exact he
    case row row args => exact Rows.mono hh fun u w'' he => (by rw [← Act.put_comm a v u hd]; exact he)
  | halt x w' => cases x <;> simp only [Oper.upon] at hh ⊢ <;> exact hh
/-- And put in. -/
theorem upon_put {o : Oper} {a : Act} {K : Act → World → Prop} {r : Result Next} {d : Option Tmp} {v : Value} (hd : ∀ e, d = some e → o.dst ≠ some e)
    (hh : o.upon P a (fun a' w' => K (a'.put d v) w') (NQ F) r) : o.upon P (a.put d v) K (NQ F) r := by
  cases r with
  | ok n w' =>
    cases n <;> simp only [Oper.upon] at hh ⊢
    case value u => rw [Act.put_comm a v u hd]; exact hh
    case skip => rw [Act.put_comm a v undef hd]; exact hh
    case defer dd => rw [Act.put_defers, Act.put_comm _ v undef hd]; exact hh
    case enter f args =>
      refine Calls.mono hh fun e w'' he => ?_
      cases e with
      | returned u => show K _ _; rw [Act.put_comm a v u hd]; exact he
      | panicked c => exact he
      | outgrown => exact he
    case row row args => exact Rows.mono hh fun u w'' he => (by rw [Act.put_comm a v u hd]; exact he)
  | halt x w' => cases x <;> simp only [Oper.upon] at hh ⊢ <;> exact hh

/-- Some outcome there is, and of the state it has turned one temporary. -/
theorem upon_some {o : Oper} {a : Act} {K : Act → World → Prop} {r : Result Next} (hh : o.upon P a K (NQ F) r) :
    ∃ a' w', K a' w' ∧ ∀ t, o.dst ≠ some t → a'.tmps.getD t undef = a.tmps.getD t undef := by
  have hp : ∀ (b : Act) u t, o.dst ≠ some t → (b.put o.dst u).tmps.getD t undef = b.tmps.getD t undef := by
    intro b u t ht
    cases hdst : o.dst with
    | none => rfl
    | some d =>
      have hne : d ≠ t := fun e => ht (by rw [hdst, e])
      simp [Act.put, Array.getElem?_setIfInBounds_ne hne]
  cases r with
  | ok n w' =>
    cases n <;> simp only [Oper.upon] at hh
    case value u => exact ⟨_, _, hh, hp a u⟩
    case skip => exact ⟨_, _, hh, hp a _⟩
    case defer d => exact ⟨_, _, hh, fun t ht => hp _ _ t ht⟩
    case enter f args =>
      obtain ⟨e, w'', fr, he, _⟩ := hh []
      cases e with
      | returned v => exact ⟨_, _, he, hp a v⟩
      | panicked c => exact he.elim
      | outgrown => exact (not_letsOut he).elim
    case row row args =>
      obtain ⟨v, w'', he, _⟩ := hh default []
      exact ⟨_, _, he, hp a v⟩
  | halt x w' => cases x <;> simp only [Oper.upon] at hh <;> exact hh.elim

theorem fin_of {l : List Nat} : ∀ {a : Act} {w : World}, wpOps P ops (NQ F) l a w →
    ∃ a' w', F a' w' ∧ ∀ t, (∀ k ∈ l, ∀ o, ops[k]? = some o → o.dst ≠ some t) → a'.tmps.getD t undef = a.tmps.getD t undef := by
  induction l with
  | nil => intro a w h; exact ⟨a, w, h, fun _ _ => rfl⟩
  | cons i l ih =>
    intro a w h
    cases ho : ops[i]? with
    | none =>
      simp only [wpOps, ho] at h
      obtain ⟨a', w', h1, h2⟩ := ih h
      exact ⟨a', w', h1, fun t ht => h2 t fun k hk => ht k (List.mem_cons_of_mem _ hk)⟩
    | some o =>
      rw [wpOps_cons, wpOp_iff ho] at h
      obtain ⟨a1, w1, h1, h2⟩ := upon_some h
      obtain ⟨a', w', h3, h4⟩ := ih h1
      exact ⟨a', w', h3, fun t ht => (h4 t fun k hk => ht k (List.mem_cons_of_mem _ hk)).trans (h2 t (ht i (List.mem_cons_self ..) o ho))⟩

/-! ### The kinds of operations -/
/-- The heap has grown alone. -/
def Ext (w w' : World) : Prop := ∀ (k : Nat) (o : Obj), w.heap[k]? = some o → w'.heap[k]? = some o
theorem Ext.refl (w : World) : Ext w w := fun _ _ h => h
theorem Ext.push (w : World) (o : Obj) : Ext w { w with heap := w.heap.push o } := fun k x h => by
  have hlt := (Array.getElem?_eq_some_iff.1 h).1
  show (w.heap.push o)[k]? = _
  rw [Array.getElem?_push, if_neg (by omega)]; exact h

/-- Yields one thing in whatever world, or halts in all. -/
def Uni {α : Type} (P : Program) (e : Sem α) : Prop := (∃ v, ∀ w, e.run P w = .ok v w) ∨ (∀ w, ∃ h w', e.run P w = .halt h w')
theorem Uni.pure {α : Type} (v : α) : Uni P (Pure.pure v : Sem α) := .inl ⟨v, fun _ => rfl⟩
theorem Uni.pure' {α : Type} (v : α) : Uni P (Sem.pure v : Sem α) := .inl ⟨v, fun _ => rfl⟩
theorem Uni.halt {α : Type} (h : Halt) : Uni P (Sem.halt h : Sem α) := .inr fun w => ⟨h, w, rfl⟩
theorem run_bind_ok {α β : Type} {e : Sem α} {f : α → Sem β} {v : α} {w w' : World} (h : e.run P w = .ok v w') : (e >>= f).run P w = (f v).run P w' := by
  rw [Sem.run_bind, h]; rfl
theorem run_bind_halt {α β : Type} {e : Sem α} {f : α → Sem β} {x : Halt} {w w' : World} (h : e.run P w = .halt x w') : (e >>= f).run P w = .halt x w' := by
  rw [Sem.run_bind, h]; rfl
theorem Uni.bind {α β : Type} {e : Sem α} {f : α → Sem β} (h : Uni P e) (hf : ∀ v, Uni P (f v)) : Uni P (e >>= f) := by
  rcases h with ⟨v, hv⟩ | hh
  · rcases hf v with ⟨u, hu⟩ | hu
    · exact .inl ⟨u, fun w => by rw [run_bind_ok (hv w)]; exact hu w⟩
    · exact .inr fun w => by rw [run_bind_ok (hv w)]; exact hu w
  · exact .inr fun w => by obtain ⟨x, w', hx⟩ := hh w; exact ⟨x, w', run_bind_halt hx⟩
theorem Uni.map {α β : Type} {e : Sem α} {f : α → β} (h : Uni P e) : Uni P (f <$> e) := by
  rcases h with ⟨v, hv⟩ | hh
  · exact .inl ⟨f v, fun w => by rw [Sem.run_map, hv w]; rfl⟩
  · exact .inr fun w => by obtain ⟨x, w', hx⟩ := hh w; exact ⟨x, w', by rw [Sem.run_map, hx]; rfl⟩
theorem Uni.program : Uni P Go.program := .inl ⟨P, fun _ => rfl⟩
theorem Uni.stuck {α : Type} (s : String) : Uni P (Go.stuck s : Sem α) := Uni.halt _
theorem Uni.unsupported {α : Type} (u : Unsupported) : Uni P (Go.unsupported u : Sem α) := Uni.halt _
theorem Uni.typeInfo (t : TypeId) : Uni P (Go.typeInfo t) := by
  unfold Go.typeInfo; exact Uni.program.bind fun p => by cases p.info? t <;> first | exact Uni.stuck _ | exact Uni.pure _
theorem Uni.underlying (t : TypeId) : Uni P (Go.underlying t) := by
  unfold Go.underlying; exact Uni.program.bind fun p => by cases p.underlying t <;> first | exact Uni.stuck _ | exact Uni.pure _
theorem Uni.sizeOf (t : TypeId) : Uni P (Go.sizeOf t) := (Uni.typeInfo t).bind fun _ => Uni.pure _
theorem Uni.zeroValue (t : TypeId) : Uni P (Go.zeroValue t) := by
  unfold Go.zeroValue; exact (Uni.typeInfo t).bind fun i => by cases i.zero <;> first | exact Uni.unsupported _ | exact Uni.pure _
theorem Uni.isAgg (t : TypeId) : Uni P (Go.isAgg t) := by
  unfold Go.isAgg; exact (Uni.underlying t).bind fun d => by cases d <;> exact Uni.pure _

theorem Uni.asIntOf (v : Value) : Uni P (Go.asIntOf v) := by
  unfold Go.asIntOf; split <;> first | exact Uni.pure _ | exact Uni.unsupported _ | exact Uni.stuck _
theorem Uni.asAgg (v : Value) : Uni P (Go.asAgg v) := by unfold Go.asAgg; split <;> first | exact Uni.pure _ | exact Uni.stuck _
theorem Uni.sureAddr (v : Value) : Uni P (Instr.sureAddr v) := by unfold Instr.sureAddr; split <;> first | exact Uni.pure _ | exact Uni.stuck _
/-- Halts in whatever world. -/
def Halts {α : Type} (P : Program) (e : Sem α) : Prop := ∀ w, ∃ h w', e.run P w = .halt h w'
theorem Halts.bind {α β : Type} {e : Sem α} {f : α → Sem β} (h : Halts P e) : Halts P (e >>= f) := fun w => by
  obtain ⟨x, w', hx⟩ := h w; exact ⟨x, w', run_bind_halt hx⟩
theorem Halts.bindr {α β : Type} {e : Sem α} {f : α → Sem β} (hf : ∀ v, Halts P (f v)) : Halts P (e >>= f) := fun w => by
  cases he : e.run P w with
  | ok v w' =>
    obtain ⟨x, w'', hx⟩ := hf v w'
    exact ⟨x, w'', by rw [run_bind_ok he]; exact hx⟩
  | halt x w' => exact ⟨x, w', run_bind_halt he⟩
theorem Halts.halt {α : Type} (h : Halt) : Halts P (Sem.halt h : Sem α) := fun w => ⟨h, w, rfl⟩
theorem Halts.runtimePanic {α : Type} (e : RuntimeError) : Halts P (Go.runtimePanic e : Sem α) := by
  unfold Go.runtimePanic
  refine Halts.bindr fun p => ?_
  cases e <;> first
    | exact Halts.halt _
    | exact Halts.bindr fun _ => Halts.halt _
    | exact Halts.bindr fun _ => Halts.bindr fun _ => Halts.halt _
theorem Halts.boundsPanic {α : Type} (k : IntKind) (x y : Int) (c : BoundsCode) : Halts P (Go.boundsPanic k x y c : Sem α) := by
  unfold Go.boundsPanic
  dsimp only
  split <;> exact Halts.bindr fun _ => Halts.runtimePanic _
theorem Uni.boundsPanic {α : Type} (k : IntKind) (x y : Int) (c : BoundsCode) : Uni P (Go.boundsPanic k x y c : Sem α) := .inr (Halts.boundsPanic k x y c)
theorem Uni.runtimePanic {α : Type} (e : RuntimeError) : Uni P (Go.runtimePanic e : Sem α) := .inr (Halts.runtimePanic e)
theorem Uni.part (t : TypeId) (cs : Array Value) (off : Nat) : Uni P (Go.part t cs off) := by
  unfold Go.part
  refine (Uni.isAgg t).bind fun b => ?_
  split
  · exact (Uni.sizeOf t).bind fun _ => Uni.pure _
  · split <;> first | exact Uni.pure _ | exact Uni.stuck _
theorem Uni.field (t : TypeId) (x : Value) (f : Nat) : Uni P (Instr.field t x f) := by
  unfold Instr.field
  refine (Uni.underlying t).bind fun d => ?_
  split
  · split
    · exact (Uni.asAgg x).bind fun _ => Uni.part _ _ _
    · exact Uni.stuck _
  · exact Uni.stuck _
theorem Uni.extract (x : Value) (i : Nat) : Uni P (Instr.extract x i) := by
  unfold Instr.extract; split <;> (try split) <;> first | exact Uni.pure _ | exact Uni.stuck _
theorem Uni.indexAt (t : TypeId) (x i : Value) : Uni P (Instr.indexAt t x i) := by
  unfold Instr.indexAt
  refine (Uni.asIntOf i).bind fun ⟨k, i⟩ => ?_
  refine (Uni.underlying t).bind fun d => ?_
  have tail : ∀ (b : Option Addr) (len : Nat) (elem : TypeId), Uni P (do
      let d ← Go.underlying t
      match b with
      | some a =>
        if 0 ≤ i ∧ i < (len : Int) then do
          let z ← Go.sizeOf elem
          Pure.pure (Value.pointer (some (a.add (i.toNat * z))))
        else
          if (decide (len ≤ 1) && (match d with | TypeDesc.array _ _ => true | _ => false)) = true then
            Go.unsupported (Unsupported.noEntry "op/indexAddr.an index out of range at an array of length 0 or 1 (ledger 616)")
          else Go.boundsPanic k i (len : Int) BoundsCode.index
      | none => Go.boundsPanic k i 0 BoundsCode.index) := by
    intro b len elem
    refine (Uni.underlying t).bind fun d => ?_
    split
    · split
      · exact (Uni.sizeOf _).bind fun _ => Uni.pure _
      · repeat' (first | exact Uni.unsupported _ | exact Uni.boundsPanic _ _ _ _ | split)
    · exact Uni.boundsPanic _ _ _ _
  dsimp only
  split
  · exact (Uni.sureAddr _).bind fun _ => (Uni.pure _).bind fun r => tail r.1 r.2.1 r.2.2
  · exact (Uni.pure _).bind fun r => tail r.1 r.2.1 r.2.2
  · exact (Uni.stuck _).bind fun r => tail r.1 r.2.1 r.2.2
theorem Uni.index (t : TypeId) (x i : Value) : Uni P (Instr.index t x i) := by
  unfold Instr.index
  refine (Uni.asIntOf i).bind fun ⟨k, i⟩ => ?_
  refine (Uni.underlying t).bind fun d => ?_
  split
  · split
    · exact (Uni.sizeOf _).bind fun _ => Uni.part _ _ _
    · exact Uni.boundsPanic _ _ _ _
  · split <;> first | exact Uni.pure _ | exact Uni.boundsPanic _ _ _ _
  · exact Uni.stuck _
theorem Uni.sliceBound (x : Value) (y : Nat) (c : BoundsCode) : Uni P (Instr.sliceBound x y c) := by
  unfold Instr.sliceBound
  refine (Uni.asIntOf x).bind fun ⟨k, i⟩ => ?_
  dsimp only
  split <;> first | exact Uni.pure _ | exact Uni.boundsPanic _ _ _ _
theorem Uni.sliceBounds (b : Bool) (l c : Nat) (x y z : Option Value) : Uni P (Instr.sliceBounds b l c x y z) := by
  unfold Instr.sliceBounds
  cases x <;> cases y <;> cases z <;> dsimp only <;> repeat' (first | exact Uni.pure _ | exact Uni.stuck _ | exact Uni.sliceBound _ _ _ | refine Uni.bind ?_ (fun _ => ?_))
theorem Uni.asAddr (v : Value) : Uni P (Go.asAddr v) := by
  unfold Go.asAddr; split <;> first | exact Uni.pure _ | exact Uni.runtimePanic _ | exact Uni.stuck _
theorem Uni.slice (t : TypeId) (x : Value) (l h m : Option Value) : Uni P (Instr.slice t x l h m) := by
  unfold Instr.slice
  refine (Uni.underlying t).bind fun d => ?_
  split
  · dsimp only
    split
    · exact (Uni.stuck _).bind fun _ => (Uni.sliceBounds _ _ _ _ _ _).bind fun _ => Uni.pure _
    · exact (Uni.sliceBounds _ _ _ _ _ _).bind fun _ => Uni.pure _
  · exact (Uni.sliceBounds _ _ _ _ _ _).bind fun _ => (Uni.sizeOf _).bind fun _ => Uni.pure _
  · refine (Uni.asAddr _).bind fun _ => (Uni.underlying _).bind fun d => ?_
    split
    · exact (Uni.sliceBounds _ _ _ _ _ _).bind fun _ => (Uni.sizeOf _).bind fun _ => Uni.pure _
    · exact Uni.stuck _
  · exact Uni.stuck _
theorem Uni.sliceAt (t : TypeId) (x : Value) (l h m : Option Value) : Uni P (Instr.sliceAt t x l h m) := by
  unfold Instr.sliceAt
  refine (Uni.underlying t).bind fun d => ?_
  split
  · exact (Uni.sureAddr _).bind fun _ => (Uni.sliceBounds _ _ _ _ _ _).bind fun _ => (Uni.sizeOf _).bind fun _ => Uni.pure _
  · exact Uni.slice _ _ _ _ _

theorem Uni.mapM {α β : Type} {f : α → Sem β} (hf : ∀ a, Uni P (f a)) (l : List α) : Uni P (l.mapM f) := by
  induction l with
  | nil => exact Uni.pure _
  | cons a l ih => rw [List.mapM_cons]; exact (hf a).bind fun _ => ih.bind fun _ => Uni.pure _
theorem Uni.amapM {α β : Type} {f : α → Sem β} (hf : ∀ a, Uni P (f a)) (l : Array α) : Uni P (l.mapM f) := by
  rw [Array.mapM_eq_mapM_toList]; exact (Uni.mapM hf _).map
theorem Uni.build (t : TypeId) (ps : Array (Nat × Value)) : Uni P (Instr.build t ps) := by
  unfold Instr.build
  refine (Uni.zeroValue t).bind fun z => (Uni.underlying t).bind fun d => ?_
  split
  · refine (Uni.amapM (fun f => (Uni.sizeOf _).bind fun _ => Uni.pure _) _).bind fun pl => ?_
    split <;> first | exact Uni.stuck _ | exact Uni.pure _
  · refine (Uni.sizeOf _).bind fun z => ?_
    split <;> first | exact Uni.stuck _ | exact Uni.pure _
  · exact Uni.stuck _

/-- A value at which the operators look at no memory. -/
def simple : Value → Bool
  | .int .. | .string _ | .bool _ | .tuple _ => true
  | _ => false
theorem Uni.binOp {op : BinOp} {t : TypeId} {x y : Value} (hx : simple x = true) (hy : simple y = true) : Uni P (Go.binOp op t x y) := by
  have heq : Uni P (Op.equal t x y) := by
    unfold Op.equal Op.maxDepth Op.equalIn
    refine (Uni.underlying t).bind fun d => ?_
    cases x <;> simp only [simple, Bool.false_eq_true] at hx <;> cases y <;> simp only [simple, Bool.false_eq_true] at hy <;>
      repeat' (first | contradiction | exact Uni.pure _ | exact Uni.stuck _ | exact Uni.unsupported _ | split)
  have hdiv : ∀ (op : BinOp) (k : IntKind) (a b : Int), Uni P (Op.intDiv op k a b) := by
    intro op k a b
    unfold Op.intDiv; split
    · exact Uni.runtimePanic _
    · cases op <;> first | exact Uni.pure _ | exact Uni.stuck _
  have hshift : ∀ (op : BinOp) (k : IntKind) (a : Int) (k' : IntKind) (b : Int), Uni P (Op.shift op k a k' b) := by
    intro op k a k' b
    unfold Op.shift; split
    · exact Uni.runtimePanic _
    · cases op <;> first | exact Uni.pure _ | exact Uni.stuck _
  have harith : ∀ (op : BinOp) (k : IntKind) (a b : Int), Uni P (Op.intArith op k a b) := by
    intro op k a b; cases op <;> first | exact Uni.pure _ | exact Uni.stuck _
  have hbits : ∀ (op : BinOp) (k : IntKind) (a b : Int), Uni P (Op.intBits op k a b) := by
    intro op k a b; cases op <;> first | exact Uni.pure _ | exact Uni.stuck _
  have hcmp : ∀ (op : BinOp) (a b : Int), Uni P (Op.intCmp op a b) := by
    intro op a b; cases op <;> first | exact Uni.pure _ | exact Uni.stuck _
  have hstr : ∀ (op : BinOp) (a b : ByteArray), Uni P (Op.stringOp op a b) := by
    intro op a b; unfold Op.stringOp; cases op <;> dsimp only <;> (try split) <;> first | exact Uni.pure _ | exact Uni.stuck _ | exact Uni.unsupported _
  unfold Go.binOp
  cases x <;> simp only [simple, Bool.false_eq_true] at hx <;> cases y <;> simp only [simple, Bool.false_eq_true] at hy <;>
    repeat' (first | contradiction | exact Uni.stuck _ | exact Uni.unsupported _ | exact hdiv _ _ _ _ | exact hshift _ _ _ _ _ | exact harith _ _ _ _ | exact hbits _ _ _ _ | exact hcmp _ _ _ | exact hstr _ _ _ | exact heq.bind fun _ => Uni.pure _ | split)
theorem Uni.unary {op : UnOp} {x : Value} (hx : simple x = true) : Uni P (Op.unary op x) := by
  cases x <;> simp only [simple, Bool.false_eq_true] at hx <;> cases op <;> first | exact Uni.pure _ | exact Uni.stuck _

end
end Reg
end Go.Proofs.YtllahgnpjodgmaaDoor
