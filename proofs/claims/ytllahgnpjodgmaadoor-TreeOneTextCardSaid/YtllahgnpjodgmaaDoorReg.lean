/- A region of operations whose order Go leaves open may be walked in the order of its text, where a check over its edges says so. Conditions: the operations that touch memory are in a forced order, but for loads ahead of allocations.
A region of operations whose order Go leaves open may be walked in the order of its text, where a check over its edges says so. Conditions: the operations that touch memory are in a forced order, but for loads ahead of allocations. -/
import Derived.Test.YtllahgnpjodgmaaDoorProg
import Derived.Orders
import Derived.Tactics
import Derived.Laws.Sem
import Derived.Laws.Rows
namespace Go.Proofs.YtllahgnpjodgmaaDoor
namespace Reg
open Go

/-- Only the normal way out. -/
def NQ (K : Act → World → Prop) : Exit → Act → World → Prop
  | .normal, a, w => K a w
  | _, _, _ => False
theorem NQ.intro {K : Act → World → Prop} {a : Act} {w : World} (h : K a w) : NQ K .normal a w := h
theorem not_letsOut {K : Act → World → Prop} : ¬ LetsOut (NQ K) := by rintro ⟨a, w, h⟩; exact h

section
variable {P : Program} {ops : Array Oper} {F : Act → World → Prop}

/-- What an operation comes to, its guard reckoned in. -/
def eff (P : Program) (ops : Array Oper) (o : Oper) (a : Act) (w : World) : Result Next :=
  if Region.wanted o (yielded ops a.tmps) = true then (execOp a.eval o).run P w else .ok (.value undef) w

theorem wpOp_iff {i : Nat} {o : Oper} (ho : ops[i]? = some o) {K : Act → World → Prop} {a : Act} {w : World} :
    wpOp P ops (NQ F) i K a w ↔ o.upon P a K (NQ F) (eff P ops o a w) := by
  unfold wpOp eff
  simp only [ho]
  split
  · simp only [Oper.wp]
    exact ⟨fun h => h.resolve_right (fun h => not_letsOut h.2), fun h => .inl h⟩
  · simp only [Oper.upon]

theorem eff_put {oi oj : Oper} (hsi : ∀ cs b, oi.op ≠ .select cs b) (a : Act) (w : World) (v : Value)
    (h : ∀ d, oj.dst = some d → d ∉ oi.looksAt ops) : eff P ops oi (a.put oj.dst v) w = eff P ops oi a w := by
  unfold eff
  rw [wanted_put oi a oj.dst v h, execOp_put oi hsi a oj.dst v h]

theorem upon_mono {o : Oper} {a : Act} {K K' : Act → World → Prop} {r : Result Next} (h : ∀ a w, K a w → K' a w)
    (hh : o.upon P a K (NQ F) r) : o.upon P a K' (NQ F) r := by
  cases r with
  | ok n w' =>
    cases n <;> simp only [Oper.upon] at hh ⊢ <;>
      first
        | exact h _ _ hh
        | exact Calls.mono hh (fun e w'' he => by cases e <;> first | exact h _ _ he | exact he)
        | exact Rows.mono hh (fun _ _ he => h _ _ he)
  | halt x w' => cases x <;> simp only [Oper.upon] at hh ⊢ <;> exact hh

/-- What holds of the state, whatever is put and deferred, holds behind the operation. -/
theorem upon_keep {o : Oper} {a : Act} {K : Act → World → Prop} {r : Result Next} {Y : Act → Prop} (hY : Y a) (hput : ∀ a u, Y a → Y (a.put o.dst u))
    (hdef : ∀ (a : Act) d, Y a → Y { a with defers := d :: a.defers }) (hh : o.upon P a K (NQ F) r) : o.upon P a (fun a' w' => Y a' ∧ K a' w') (NQ F) r := by
  cases r with
  | ok n w' =>
    cases n <;> simp only [Oper.upon] at hh ⊢
    case value u => exact ⟨hput _ _ hY, hh⟩
    case skip => exact ⟨hput _ _ hY, hh⟩
    case defer d => exact ⟨hput _ _ (hdef _ _ hY), hh⟩
    case enter f args => exact Calls.mono hh fun e w'' he => by cases e <;> first | exact ⟨hput _ _ hY, he⟩ | exact he
    case row row args => exact Rows.mono hh fun u w'' he => ⟨hput _ _ hY, he⟩
  | halt x w' => cases x <;> simp only [Oper.upon] at hh ⊢ <;> exact hh

/-- Another temporary filled ahead: taken out. -/
theorem upon_unput {o : Oper} {a : Act} {K : Act → World → Prop} {r : Result Next} {d : Option Tmp} {v : Value} (hd : ∀ e, d = some e → o.dst ≠ some e)
    (hh : o.upon P (a.put d v) K (NQ F) r) : o.upon P a (fun a' w' => K (a'.put d v) w') (NQ F) r := by
  cases r with
  | ok n w' =>
    cases n <;> simp only [Oper.upon] at hh ⊢
    case value u => rw [← Act.put_comm a v u hd]; exact hh
    case skip => rw [← Act.put_comm a v undef hd]; exact hh
    case defer dd => rw [← Act.put_comm _ v undef hd, ← Act.put_defers]; exact hh
    case enter f args =>
      refine Calls.mono hh fun e w'' he => ?_
      cases e with
      | returned u => show K _ _; rw [← Act.put_comm a v u hd]; exact he
      | panicked c => exact he
      | outgrown => exact he
    case row row args => exact Rows.mono hh fun u w'' he => (by rw [← Act.put_comm a v u hd]; exact he)
  | halt x w' => cases x <;> simp only [Oper.upon] at hh ⊢ <;> exact hh
/-- And put in. -/
theorem upon_put {o : Oper} {a : Act} {K : Act → World → Prop} {r : Result Next} {d : Option Tmp} {v : Value} (hd : ∀ e, d = some e → o.dst ≠ some e)
    (hh : o.upon P a (fun a' w' => K (a'.put d v) w') (NQ F) r) : o.upon P (a.put d v) K (NQ F) r := by
  cases r with
  | ok n w' =>
    cases n <;> simp only [Oper.upon] at hh ⊢
    case value u => rw [Act.put_comm a v u hd]; exact hh
    case skip => rw [Act.put_comm a v undef hd]; exact hh
    case defer dd => rw [Act.put_defers, Act.put_comm _ v undef hd]; exact hh
    case enter f args =>
      refine Calls.mono hh fun e w'' he => ?_
      cases e with
      | returned u => show K _ _; rw [Act.put_comm a v u hd]; exact he
      | panicked c => exact he
      | outgrown => exact he
    case row row args => exact Rows.mono hh fun u w'' he => (by rw [Act.put_comm a v u hd]; exact he)
  | halt x w' => cases x <;> simp only [Oper.upon] at hh ⊢ <;> exact hh

/-- Some outcome there is, and of the state it has turned one temporary. -/
theorem upon_some {o : Oper} {a : Act} {K : Act → World → Prop} {r : Result Next} (hh : o.upon P a K (NQ F) r) :
    ∃ a' w', K a' w' ∧ ∀ t, o.dst ≠ some t → a'.tmps.getD t undef = a.tmps.getD t undef := by
  have hp : ∀ (b : Act) u t, o.dst ≠ some t → (b.put o.dst u).tmps.getD t undef = b.tmps.getD t undef := by
    intro b u t ht
    cases hdst : o.dst with
    | none => rfl
    | some d =>
      have hne : d ≠ t := fun e => ht (by rw [hdst, e])
      simp [Act.put, Array.getElem?_setIfInBounds_ne hne]
  cases r with
  | ok n w' =>
    cases n <;> simp only [Oper.upon] at hh
    case value u => exact ⟨_, _, hh, hp a u⟩
    case skip => exact ⟨_, _, hh, hp a _⟩
    case defer d => exact ⟨_, _, hh, fun t ht => hp _ _ t ht⟩
    case enter f args =>
      obtain ⟨e, w'', fr, he, _⟩ := hh []
      cases e with
      | returned v => exact ⟨_, _, he, hp a v⟩
      | panicked c => exact he.elim
      | outgrown => exact (not_letsOut he).elim
    case row row args =>
      obtain ⟨v, w'', he, _⟩ := hh default []
      exact ⟨_, _, he, hp a v⟩
  | halt x w' => cases x <;> simp only [Oper.upon] at hh <;> exact hh.elim

theorem fin_of {l : List Nat} : ∀ {a : Act} {w : World}, wpOps P ops (NQ F) l a w →
    ∃ a' w', F a' w' ∧ ∀ t, (∀ k ∈ l, ∀ o, ops[k]? = some o → o.dst ≠ some t) → a'.tmps.getD t undef = a.tmps.getD t undef := by
  induction l with
  | nil => intro a w h; exact ⟨a, w, h, fun _ _ => rfl⟩
  | cons i l ih =>
    intro a w h
    cases ho : ops[i]? with
    | none =>
      simp only [wpOps, ho] at h
      obtain ⟨a', w', h1, h2⟩ := ih h
      exact ⟨a', w', h1, fun t ht => h2 t fun k hk => ht k (List.mem_cons_of_mem _ hk)⟩
    | some o =>
      rw [wpOps_cons, wpOp_iff ho] at h
      obtain ⟨a1, w1, h1, h2⟩ := upon_some h
      obtain ⟨a', w', h3, h4⟩ := ih h1
      exact ⟨a', w', h3, fun t ht => (h4 t fun k hk => ht k (List.mem_cons_of_mem _ hk)).trans (h2 t (ht i (List.mem_cons_self ..) o ho))⟩

/-! ### The kinds of operations -/
/-- The heap has grown alone. -/
def Ext (w w' : World) : Prop := ∀ (k : Nat) (o : Obj), w.heap[k]? = some o → w'.heap[k]? = some o
theorem Ext.refl (w : World) : Ext w w := fun _ _ h => h
theorem Ext.push (w : World) (o : Obj) : Ext w { w with heap := w.heap.push o } := fun k x h => by
  have hlt := (Array.getElem?_eq_some_iff.1 h).1
  show (w.heap.push o)[k]? = _
  rw [Array.getElem?_push, if_neg (by omega)]; exact h

/-- Yields one thing in whatever world, or halts in all. -/
def Uni {α : Type} (P : Program) (e : Sem α) : Prop := (∃ v, ∀ w, e.run P w = .ok v w) ∨ (∀ w, ∃ h w', e.run P w = .halt h w')
theorem Uni.pure {α : Type} (v : α) : Uni P (Pure.pure v : Sem α) := .inl ⟨v, fun _ => rfl⟩
theorem Uni.pure' {α : Type} (v : α) : Uni P (Sem.pure v : Sem α) := .inl ⟨v, fun _ => rfl⟩
theorem Uni.halt {α : Type} (h : Halt) : Uni P (Sem.halt h : Sem α) := .inr fun w => ⟨h, w, rfl⟩
theorem run_bind_ok {α β : Type} {e : Sem α} {f : α → Sem β} {v : α} {w w' : World} (h : e.run P w = .ok v w') : (e >>= f).run P w = (f v).run P w' := by
  rw [Sem.run_bind, h]; rfl
theorem run_bind_halt {α β : Type} {e : Sem α} {f : α → Sem β} {x : Halt} {w w' : World} (h : e.run P w = .halt x w') : (e >>= f).run P w = .halt x w' := by
  rw [Sem.run_bind, h]; rfl
theorem Uni.bind {α β : Type} {e : Sem α} {f : α → Sem β} (h : Uni P e) (hf : ∀ v, Uni P (f v)) : Uni P (e >>= f) := by
  rcases h with ⟨v, hv⟩ | hh
  · rcases hf v with ⟨u, hu⟩ | hu
    · exact .inl ⟨u, fun w => by rw [run_bind_ok (hv w)]; exact hu w⟩
    · exact .inr fun w => by rw [run_bind_ok (hv w)]; exact hu w
  · exact .inr fun w => by obtain ⟨x, w', hx⟩ := hh w; exact ⟨x, w', run_bind_halt hx⟩
theorem Uni.map {α β : Type} {e : Sem α} {f : α → β} (h : Uni P e) : Uni P (f <$> e) := by
  rcases h with ⟨v, hv⟩ | hh
  · exact .inl ⟨f v, fun w => by rw [Sem.run_map, hv w]; rfl⟩
  · exact .inr fun w => by obtain ⟨x, w', hx⟩ := hh w; exact ⟨x, w', by rw [Sem.run_map, hx]; rfl⟩
theorem Uni.program : Uni P Go.program := .inl ⟨P, fun _ => rfl⟩
theorem Uni.stuck {α : Type} (s : String) : Uni P (Go.stuck s : Sem α) := Uni.halt _
theorem Uni.unsupported {α : Type} (u : Unsupported) : Uni P (Go.unsupported u : Sem α) := Uni.halt _
theorem Uni.typeInfo (t : TypeId) : Uni P (Go.typeInfo t) := by
  unfold Go.typeInfo; exact Uni.program.bind fun p => by cases p.info? t <;> first | exact Uni.stuck _ | exact Uni.pure _
theorem Uni.underlying (t : TypeId) : Uni P (Go.underlying t) := by
  unfold Go.underlying; exact Uni.program.bind fun p => by cases p.underlying t <;> first | exact Uni.stuck _ | exact Uni.pure _
theorem Uni.sizeOf (t : TypeId) : Uni P (Go.sizeOf t) := (Uni.typeInfo t).bind fun _ => Uni.pure _
theorem Uni.zeroValue (t : TypeId) : Uni P (Go.zeroValue t) := by
  unfold Go.zeroValue; exact (Uni.typeInfo t).bind fun i => by cases i.zero <;> first | exact Uni.unsupported _ | exact Uni.pure _
theorem Uni.isAgg (t : TypeId) : Uni P (Go.isAgg t) := by
  unfold Go.isAgg; exact (Uni.underlying t).bind fun d => by cases d <;> exact Uni.pure _

theorem Uni.asIntOf (v : Value) : Uni P (Go.asIntOf v) := by
  unfold Go.asIntOf; split <;> first | exact Uni.pure _ | exact Uni.unsupported _ | exact Uni.stuck _
theorem Uni.asAgg (v : Value) : Uni P (Go.asAgg v) := by unfold Go.asAgg; split <;> first | exact Uni.pure _ | exact Uni.stuck _
theorem Uni.sureAddr (v : Value) : Uni P (Instr.sureAddr v) := by unfold Instr.sureAddr; split <;> first | exact Uni.pure _ | exact Uni.stuck _
/-- Halts in whatever world. -/
def Halts {α : Type} (P : Program) (e : Sem α) : Prop := ∀ w, ∃ h w', e.run P w = .halt h w'
theorem Halts.bind {α β : Type} {e : Sem α} {f : α → Sem β} (h : Halts P e) : Halts P (e >>= f) := fun w => by
  obtain ⟨x, w', hx⟩ := h w; exact ⟨x, w', run_bind_halt hx⟩
theorem Halts.bindr {α β : Type} {e : Sem α} {f : α → Sem β} (hf : ∀ v, Halts P (f v)) : Halts P (e >>= f) := fun w => by
  cases he : e.run P w with
  | ok v w' =>
    obtain ⟨x, w'', hx⟩ := hf v w'
    exact ⟨x, w'', by rw [run_bind_ok he]; exact hx⟩
  | halt x w' => exact ⟨x, w', run_bind_halt he⟩
theorem Halts.halt {α : Type} (h : Halt) : Halts P (Sem.halt h : Sem α) := fun w => ⟨h, w, rfl⟩
theorem Halts.runtimePanic {α : Type} (e : RuntimeError) : Halts P (Go.runtimePanic e : Sem α) := by
  unfold Go.runtimePanic
  refine Halts.bindr fun p => ?_
  cases e <;> first
    | exact Halts.halt _
    | exact Halts.bindr fun _ => Halts.halt _
    | exact Halts.bindr fun _ => Halts.bindr fun _ => Halts.halt _
theorem Halts.boundsPanic {α : Type} (k : IntKind) (x y : Int) (c : BoundsCode) : Halts P (Go.boundsPanic k x y c : Sem α) := by
  unfold Go.boundsPanic
  dsimp only
  split <;> exact Halts.bindr fun _ => Halts.runtimePanic _
theorem Uni.boundsPanic {α : Type} (k : IntKind) (x y : Int) (c : BoundsCode) : Uni P (Go.boundsPanic k x y c : Sem α) := .inr (Halts.boundsPanic k x y c)
theorem Uni.runtimePanic {α : Type} (e : RuntimeError) : Uni P (Go.runtimePanic e : Sem α) := .inr (Halts.runtimePanic e)
theorem Uni.part (t : TypeId) (cs : Array Value) (off : Nat) : Uni P (Go.part t cs off) := by
  unfold Go.part
  refine (Uni.isAgg t).bind fun b => ?_
  split
  · exact (Uni.sizeOf t).bind fun _ => Uni.pure _
  · split <;> first | exact Uni.pure _ | exact Uni.stuck _
theorem Uni.field (t : TypeId) (x : Value) (f : Nat) : Uni P (Instr.field t x f) := by
  unfold Instr.field
  refine (Uni.underlying t).bind fun d => ?_
  split
  · split
    · exact (Uni.asAgg x).bind fun _ => Uni.part _ _ _
    · exact Uni.stuck _
  · exact Uni.stuck _
theorem Uni.extract (x : Value) (i : Nat) : Uni P (Instr.extract x i) := by
  unfold Instr.extract; split <;> (try split) <;> first | exact Uni.pure _ | exact Uni.stuck _
theorem Uni.indexAt (t : TypeId) (x i : Value) : Uni P (Instr.indexAt t x i) := by
  unfold Instr.indexAt
  refine (Uni.asIntOf i).bind fun ⟨k, i⟩ => ?_
  refine (Uni.underlying t).bind fun d => ?_
  have tail : ∀ (b : Option Addr) (len : Nat) (elem : TypeId), Uni P (do
      let d ← Go.underlying t
      match b with
      | some a =>
        if 0 ≤ i ∧ i < (len : Int) then do
          let z ← Go.sizeOf elem
          Pure.pure (Value.pointer (some (a.add (i.toNat * z))))
        else
          if (decide (len ≤ 1) && (match d with | TypeDesc.array _ _ => true | _ => false)) = true then
            Go.unsupported (Unsupported.noEntry "op/indexAddr.an index out of range at an array of length 0 or 1 (ledger 616)")
          else Go.boundsPanic k i (len : Int) BoundsCode.index
      | none => Go.boundsPanic k i 0 BoundsCode.index) := by
    intro b len elem
    refine (Uni.underlying t).bind fun d => ?_
    split
    · split
      · exact (Uni.sizeOf _).bind fun _ => Uni.pure _
      · repeat' (first | exact Uni.unsupported _ | exact Uni.boundsPanic _ _ _ _ | split)
    · exact Uni.boundsPanic _ _ _ _
  dsimp only
  split
  · exact (Uni.sureAddr _).bind fun _ => (Uni.pure _).bind fun r => tail r.1 r.2.1 r.2.2
  · exact (Uni.pure _).bind fun r => tail r.1 r.2.1 r.2.2
  · exact (Uni.stuck _).bind fun r => tail r.1 r.2.1 r.2.2
theorem Uni.index (t : TypeId) (x i : Value) : Uni P (Instr.index t x i) := by
  unfold Instr.index
  refine (Uni.asIntOf i).bind fun ⟨k, i⟩ => ?_
  refine (Uni.underlying t).bind fun d => ?_
  split
  · split
    · exact (Uni.sizeOf _).bind fun _ => Uni.part _ _ _
    · exact Uni.boundsPanic _ _ _ _
  · split <;> first | exact Uni.pure _ | exact Uni.boundsPanic _ _ _ _
  · exact Uni.stuck _
theorem Uni.sliceBound (x : Value) (y : Nat) (c : BoundsCode) : Uni P (Instr.sliceBound x y c) := by
  unfold Instr.sliceBound
  refine (Uni.asIntOf x).bind fun ⟨k, i⟩ => ?_
  dsimp only
  split <;> first | exact Uni.pure _ | exact Uni.boundsPanic _ _ _ _
theorem Uni.sliceBounds (b : Bool) (l c : Nat) (x y z : Option Value) : Uni P (Instr.sliceBounds b l c x y z) := by
  unfold Instr.sliceBounds
  cases x <;> cases y <;> cases z <;> dsimp only <;> repeat' (first | exact Uni.pure _ | exact Uni.stuck _ | exact Uni.sliceBound _ _ _ | refine Uni.bind ?_ (fun _ => ?_))
theorem Uni.asAddr (v : Value) : Uni P (Go.asAddr v) := by
  unfold Go.asAddr; split <;> first | exact Uni.pure _ | exact Uni.runtimePanic _ | exact Uni.stuck _
theorem Uni.slice (t : TypeId) (x : Value) (l h m : Option Value) : Uni P (Instr.slice t x l h m) := by
  unfold Instr.slice
  refine (Uni.underlying t).bind fun d => ?_
  split
  · dsimp only
    split
    · exact (Uni.stuck _).bind fun _ => (Uni.sliceBounds _ _ _ _ _ _).bind fun _ => Uni.pure _
    · exact (Uni.sliceBounds _ _ _ _ _ _).bind fun _ => Uni.pure _
  · exact (Uni.sliceBounds _ _ _ _ _ _).bind fun _ => (Uni.sizeOf _).bind fun _ => Uni.pure _
  · refine (Uni.asAddr _).bind fun _ => (Uni.underlying _).bind fun d => ?_
    split
    · exact (Uni.sliceBounds _ _ _ _ _ _).bind fun _ => (Uni.sizeOf _).bind fun _ => Uni.pure _
    · exact Uni.stuck _
  · exact Uni.stuck _
theorem Uni.sliceAt (t : TypeId) (x : Value) (l h m : Option Value) : Uni P (Instr.sliceAt t x l h m) := by
  unfold Instr.sliceAt
  refine (Uni.underlying t).bind fun d => ?_
  split
  · exact (Uni.sureAddr _).bind fun _ => (Uni.sliceBounds _ _ _ _ _ _).bind fun _ => (Uni.sizeOf _).bind fun _ => Uni.pure _
  · exact Uni.slice _ _ _ _ _

theorem Uni.mapM {α β : Type} {f : α → Sem β} (hf : ∀ a, Uni P (f a)) (l : List α) : Uni P (l.mapM f) := by
  induction l with
  | nil => exact Uni.pure _
  | cons a l ih => rw [List.mapM_cons]; exact (hf a).bind fun _ => ih.bind fun _ => Uni.pure _
theorem Uni.amapM {α β : Type} {f : α → Sem β} (hf : ∀ a, Uni P (f a)) (l : Array α) : Uni P (l.mapM f) := by
  rw [Array.mapM_eq_mapM_toList]; exact (Uni.mapM hf _).map
theorem Uni.build (t : TypeId) (ps : Array (Nat × Value)) : Uni P (Instr.build t ps) := by
  unfold Instr.build
  refine (Uni.zeroValue t).bind fun z => (Uni.underlying t).bind fun d => ?_
  split
  · refine (Uni.amapM (fun f => (Uni.sizeOf _).bind fun _ => Uni.pure _) _).bind fun pl => ?_
    split <;> first | exact Uni.stuck _ | exact Uni.pure _
  · refine (Uni.sizeOf _).bind fun z => ?_
    split <;> first | exact Uni.stuck _ | exact Uni.pure _
  · exact Uni.stuck _

/-- A value at which the operators look at no memory. -/
def simple : Value → Bool
  | .int .. | .string _ | .bool _ | .tuple _ => true
  | _ => false
theorem Uni.binOp {op : BinOp} {t : TypeId} {x y : Value} (hx : simple x = true) (hy : simple y = true) : Uni P (Go.binOp op t x y) := by
  have heq : Uni P (Op.equal t x y) := by
    unfold Op.equal Op.maxDepth Op.equalIn
    refine (Uni.underlying t).bind fun d => ?_
    cases x <;> simp only [simple, Bool.false_eq_true] at hx <;> cases y <;> simp only [simple, Bool.false_eq_true] at hy <;>
      repeat' (first | contradiction | exact Uni.pure _ | exact Uni.stuck _ | exact Uni.unsupported _ | split)
  have hdiv : ∀ (op : BinOp) (k : IntKind) (a b : Int), Uni P (Op.intDiv op k a b) := by
    intro op k a b
    unfold Op.intDiv; split
    · exact Uni.runtimePanic _
    · cases op <;> first | exact Uni.pure _ | exact Uni.stuck _
  have hshift : ∀ (op : BinOp) (k : IntKind) (a : Int) (k' : IntKind) (b : Int), Uni P (Op.shift op k a k' b) := by
    intro op k a k' b
    unfold Op.shift; split
    · exact Uni.runtimePanic _
    · cases op <;> first | exact Uni.pure _ | exact Uni.stuck _
  have harith : ∀ (op : BinOp) (k : IntKind) (a b : Int), Uni P (Op.intArith op k a b) := by
    intro op k a b; cases op <;> first | exact Uni.pure _ | exact Uni.stuck _
  have hbits : ∀ (op : BinOp) (k : IntKind) (a b : Int), Uni P (Op.intBits op k a b) := by
    intro op k a b; cases op <;> first | exact Uni.pure _ | exact Uni.stuck _
  have hcmp : ∀ (op : BinOp) (a b : Int), Uni P (Op.intCmp op a b) := by
    intro op a b; cases op <;> first | exact Uni.pure _ | exact Uni.stuck _
  have hstr : ∀ (op : BinOp) (a b : ByteArray), Uni P (Op.stringOp op a b) := by
    intro op a b; unfold Op.stringOp; cases op <;> dsimp only <;> (try split) <;> first | exact Uni.pure _ | exact Uni.stuck _ | exact Uni.unsupported _
  unfold Go.binOp
  cases x <;> simp only [simple, Bool.false_eq_true] at hx <;> cases y <;> simp only [simple, Bool.false_eq_true] at hy <;>
    repeat' (first | contradiction | exact Uni.stuck _ | exact Uni.unsupported _ | exact hdiv _ _ _ _ | exact hshift _ _ _ _ _ | exact harith _ _ _ _ | exact hbits _ _ _ _ | exact hcmp _ _ _ | exact hstr _ _ _ | exact heq.bind fun _ => Uni.pure _ | split)
theorem Uni.unary {op : UnOp} {x : Value} (hx : simple x = true) : Uni P (Op.unary op x) := by
  cases x <;> simp only [simple, Bool.false_eq_true] at hx <;> cases op <;> first | exact Uni.pure _ | exact Uni.stuck _

end
end Reg
end Go.Proofs.YtllahgnpjodgmaaDoor

namespace Go.Proofs.YtllahgnpjodgmaaDoor
namespace Reg
open Go
section
variable {P : Program} {ops : Array Oper} {F : Act → World → Prop}
/-- Yields one value in whatever world, or halts in all. -/
def UniV (P : Program) (e : Sem Next) : Prop := (∃ v, ∀ w, e.run P w = .ok (.value v) w) ∨ Halts P e
theorem UniV.bind {α : Type} {e : Sem α} {f : α → Sem Next} (h : Uni P e) (hf : ∀ v, UniV P (f v)) : UniV P (e >>= f) := by
  rcases h with ⟨v, hv⟩ | hh
  · rcases hf v with ⟨u, hu⟩ | hu
    · exact .inl ⟨u, fun w => by rw [run_bind_ok (hv w)]; exact hu w⟩
    · exact .inr fun w => by rw [run_bind_ok (hv w)]; exact hu w
  · exact .inr fun w => by obtain ⟨x, w', hx⟩ := hh w; exact ⟨x, w', run_bind_halt hx⟩
theorem UniV.pure (v : Value) : UniV P (Pure.pure (Next.value v) : Sem Next) := .inl ⟨v, fun _ => rfl⟩
theorem Uni.val {e : Sem Value} (h : Uni P e) : UniV P (do Pure.pure (Next.value (← e)) : Sem Next) := UniV.bind h fun _ => UniV.pure _

/-- The operations that look at no memory, by their text. -/
def kp (P : Program) : Op → Bool
  | .move _ | .assign _ | .pick .. | .field .. | .extract .. | .indexAddr .. | .index .. | .slice .. | .makeFunc .. | .build .. | .makeInterface .. | .nilCheck _ | .binOp .. | .unOp .. => true
  | .fieldAddr s _ f => match P.underlying s with
    | some (.struct fs) => match fs[f]? with | some fd => P.cellsOf fd.type != 0 | none => true
    | _ => true
  | .call { callee := .builtin .len, .. } => true
  | .call { callee := .builtin .max, .. } => true
  | _ => false
def isInt : Value → Bool | .int .. => true | _ => false
/-- Of some of them it hangs on the operands. -/
def cond : Op → Bool
  | .nilCheck _ | .binOp .. | .unOp .. | .call .. => true
  | _ => false
def tame (ρ : Operand → Value) : Op → Bool
  | .nilCheck x => match ρ x with | .func (.method _) _ _ => false | _ => true
  | .binOp _ _ x y _ => simple (ρ x) && simple (ρ y)
  | .unOp _ _ x => simple (ρ x)
  | .call { callee := .builtin .len, args, .. } => match args[0]? with
    | some x => match ρ x with | .slice .. | .string _ | .tuple _ => true | _ => false
    | none => true
  | .call { callee := .builtin .max, args, .. } => args.toList.all fun x => isInt (ρ x)
  | _ => true

theorem max_uni (l : List Value) : ∀ x, isInt x = true → l.all isInt = true → Uni P (l.foldlM Builtin.max2 x) := by
  induction l with
  | nil => exact fun x _ _ => Uni.pure _
  | cons y l ih =>
    intro x hx hl
    rw [List.all_cons, Bool.and_eq_true] at hl
    rw [List.foldlM_cons]
    cases x <;> simp only [isInt, Bool.false_eq_true] at hx
    cases y <;> simp only [isInt, Bool.false_eq_true, false_and] at hl
    rename_i k x k' y
    have h1 : ∀ w, (Builtin.max2 (.int k x) (.int k' y)).run P w = .ok (.int k (if y > x then y else x)) w := fun w => rfl
    rcases ih (.int k (if y > x then y else x)) rfl hl.2 with ⟨v, hv⟩ | hh
    · exact .inl ⟨v, fun w => by rw [run_bind_ok (h1 w)]; exact hv w⟩
    · exact .inr fun w => by rw [run_bind_ok (h1 w)]; exact hh w

theorem uni_of {ρ : Operand → Value} {o : Oper} (hk : kp P o.op = true) (ht : tame ρ o.op = true) : UniV P (execOp ρ o) := by
  obtain ⟨dst, op, type, pos, after, guard⟩ := o
  cases op <;> simp only [kp, Bool.false_eq_true] at hk <;> simp only [execOp]
  case move => exact UniV.pure _
  case assign => exact UniV.pure _
  case pick c a b => exact UniV.bind (by unfold asBool; split <;> first | exact Uni.pure _ | exact Uni.stuck _) fun _ => UniV.pure _
  case field => exact (Uni.field _ _ _).val
  case extract => exact (Uni.extract _ _).val
  case indexAddr => exact (Uni.indexAt _ _ _).val
  case index => exact (Uni.index _ _ _).val
  case slice => exact (Uni.sliceAt _ _ _ _ _).val
  case makeFunc => exact (Uni.pure _ : Uni P (Instr.makeFunc _ _ _)).val
  case build => exact (Uni.build _ _).val
  case makeInterface =>
    refine Uni.val ?_
    unfold Instr.makeInterface
    refine (Uni.underlying _).bind fun d => ?_
    split <;> first | exact Uni.pure _ | exact Uni.stuck _
  case nilCheck x =>
    simp only [tame] at ht
    split <;> first
      | exact .inr (Halts.runtimePanic _)
      | exact UniV.pure _
      | (rename_i h; rw [h] at ht; exact absurd ht (by simp))
  case binOp op t x y yt =>
    simp only [tame, Bool.and_eq_true] at ht
    refine Uni.val (Uni.bind ?_ fun _ => Uni.binOp ht.1 ht.2)
    unfold eqGuard
    obtain ⟨h1, h2⟩ := ht
    generalize ρ x = vx at h1 h2 ⊢
    generalize ρ y = vy at h1 h2 ⊢
    cases vx <;> simp only [simple, Bool.false_eq_true] at h1 <;> cases vy <;> simp only [simple, Bool.false_eq_true] at h2 <;> split <;> exact Uni.pure _
  case unOp op t x => exact (Uni.unary ht).val
  case fieldAddr s x f =>
    refine Uni.val ?_
    have hs := hk
    unfold Instr.fieldAt
    cases hu : P.underlying s with
    | none => exact .inr fun w => ⟨_, w, by rw [Sem.run_bind]; simp [Go.underlying, hu]; rfl⟩
    | some d =>
      have hru : ∀ w, (Go.underlying s).run P w = .ok d w := fun w => by simp [Go.underlying, hu]
      have hh : Uni P (match d with
        | .struct fields => (match fields[f]? with
          | some fd => (do let a ← Instr.sureAddr (ρ x); Pure.pure (Value.pointer (some (← fieldPlace a fd))) : Sem Value)
          | _ => Go.stuck "fieldAddr: no such field")
        | _ => Go.stuck "fieldAddr: struct type expected") := by
        cases d <;> try exact Uni.stuck _
        rename_i fs
        simp only [hu] at hs
        dsimp only
        cases hf : fs[f]? with
        | none => exact Uni.stuck _
        | some fd =>
          simp only [hf] at hs
          refine (Uni.sureAddr _).bind fun a => Uni.bind ?_ fun _ => Uni.pure _
          unfold fieldPlace
          cases hi : P.info? fd.type with
          | none => exact .inr fun w => ⟨_, w, by rw [Sem.run_bind]; simp [Go.sizeOf, Go.typeInfo, hi]; rfl⟩
          | some ti =>
            have hz : ti.size ≠ 0 := by simpa [Program.cellsOf, hi] using hs
            exact .inl ⟨a.add fd.offset, fun w => by simp [Go.sizeOf, Go.typeInfo, hi, hz]⟩
      rcases hh with ⟨v, hv⟩ | hv
      · exact .inl ⟨v, fun w => by rw [run_bind_ok (hru w)]; exact hv w⟩
      · exact .inr fun w => by rw [run_bind_ok (hru w)]; exact hv w
  case call c =>
    obtain ⟨callee, args, ats⟩ := c
    cases callee with
    | value _ => exact absurd hk (by simp)
    | invoke _ _ => exact absurd hk (by simp)
    | builtin b =>
      have hb : b = .len ∨ b = .max := by cases b <;> first | exact .inl rfl | exact .inr rfl | exact absurd hk (by simp)
      rcases hb with hb | hb
      case inr =>
        subst hb
        simp only [tame] at ht
        change UniV P (builtin .max ats type (args.map fun | .const _ => true | _ => false) (args.map ρ))
        refine Uni.val ?_
        unfold Builtin.max_
        have h0 : (args.map ρ).toList = args.toList.map ρ := by simp
        rw [h0]
        generalize args.toList = l at ht
        cases l with
        | nil => exact Uni.stuck _
        | cons x l =>
          rw [List.all_cons, Bool.and_eq_true] at ht
          exact max_uni _ _ ht.1 (by rw [List.all_map]; exact ht.2)
      subst hb
      simp only [tame] at ht
      change UniV P (builtin .len ats type (args.map fun | .const _ => true | _ => false) (args.map ρ))
      refine Uni.val ?_
      unfold Builtin.len_
      have h0 : (args.map ρ)[0]? = (args[0]?).map ρ := by simp
      rw [h0]
      cases ha : args[0]? with
      | none => cases ats[0]? <;> exact Uni.stuck _
      | some x =>
        simp only [ha] at ht
        cases ht0 : ats[0]? with
        | none => exact Uni.stuck _
        | some t =>
          dsimp only [Option.map_some]
          refine (Uni.underlying t).bind fun d => ?_
          generalize ρ x = vx at ht ⊢
          cases vx <;> simp only [Bool.false_eq_true] at ht <;>
            repeat' (first | contradiction | exact Uni.pure _ | exact Uni.stuck _ | exact (Uni.underlying _).bind (fun _ => (by split <;> first | exact Uni.pure _ | exact Uni.stuck _)) | split)

theorem tame_of_not_cond {ρ : Operand → Value} {op : Op} (h : cond op = false) : tame ρ op = true := by
  cases op <;> first | rfl | exact absurd h (by simp [cond])
theorem tame_congr {ρ ρ' : Operand → Value} {op : Op} (h : ∀ x ∈ op.operands, ρ x = ρ' x) : tame ρ op = tame ρ' op := by
  cases op <;> try rfl
  case nilCheck x => simp only [tame, h x (by simp [Op.operands])]
  case binOp o t x y yt => simp only [tame, h x (by simp [Op.operands]), h y (by simp [Op.operands])]
  case unOp o t x => simp only [tame, h x (by simp [Op.operands])]
  case call c =>
    obtain ⟨callee, args, ats⟩ := c
    cases callee <;> try rfl
    rename_i b
    cases b <;> try rfl
    case max =>
      simp only [tame]
      have h0 : ∀ x ∈ args.toList, ρ x = ρ' x := fun x hx => h x (by
        simp only [Op.operands, Call.operands, Array.empty_append]
        exact Array.mem_def.2 hx)
      rw [Bool.eq_iff_iff, List.all_eq_true, List.all_eq_true]
      exact ⟨fun hh x hx => by rw [← h0 x hx]; exact hh x hx, fun hh x hx => by rw [h0 x hx]; exact hh x hx⟩
    simp only [tame]
    cases ha : args[0]? with
    | none => rfl
    | some x => simp only [h x (by
        simp only [Op.operands, Call.operands, Array.empty_append]
        exact Array.mem_of_getElem? ha)]

/-! ### Loads, and what makes memory -/
def LoadSt {α : Type} (P : Program) (e : Sem α) : Prop := ∀ w v w1, e.run P w = .ok v w1 → w1 = w ∧ ∀ w', Ext w w' → e.run P w' = .ok v w'
theorem LoadSt.of_uni {α : Type} {e : Sem α} (h : Uni P e) (hw : ∀ w v w1, e.run P w = .ok v w1 → w1 = w) : LoadSt P e := fun w v w1 hr => by
  refine ⟨hw w v w1 hr, fun w' _ => ?_⟩
  rcases h with ⟨u, hu⟩ | hh
  · rw [hu w] at hr; injection hr with h1 _; subst h1; exact hu w'
  · obtain ⟨x, w2, hx⟩ := hh w; rw [hx] at hr; cases hr
theorem LoadSt.bind {α β : Type} {e : Sem α} {f : α → Sem β} (h : LoadSt P e) (hf : ∀ v, LoadSt P (f v)) : LoadSt P (e >>= f) := fun w v w1 hr => by
  cases he : e.run P w with
  | ok u w2 =>
    rw [run_bind_ok he] at hr
    obtain ⟨rfl, h1⟩ := h w u w2 he
    obtain ⟨rfl, h2⟩ := hf u _ v w1 hr
    exact ⟨rfl, fun w' hx => by rw [run_bind_ok (h1 w' hx)]; exact h2 w' hx⟩
  | halt x w2 => rw [run_bind_halt he] at hr; cases hr
theorem LoadSt.pure {α : Type} (v : α) : LoadSt P (Pure.pure v : Sem α) := fun w u w1 h => by
  simp only [Sem.run_pure, Result.ok.injEq] at h
  obtain ⟨rfl, rfl⟩ := h
  exact ⟨rfl, fun _ _ => rfl⟩
theorem LoadSt.halt {α : Type} (h : Halt) : LoadSt P (Sem.halt h : Sem α) := fun w u w1 hr => by cases hr
theorem LoadSt.typeInfo (t : TypeId) : LoadSt P (Go.typeInfo t) := .of_uni (Uni.typeInfo t) fun w v w1 h => by
  unfold Go.typeInfo at h; simp only [Sem.run_bind, run_program, Result.andThen_ok] at h; split at h <;> simp at h; exact h.2.symm
theorem LoadSt.underlying (t : TypeId) : LoadSt P (Go.underlying t) := .of_uni (Uni.underlying t) fun w v w1 h => by
  unfold Go.underlying at h; simp only [Sem.run_bind, run_program, Result.andThen_ok] at h; split at h <;> simp at h; exact h.2.symm
theorem LoadSt.load (a : Addr) : LoadSt P (Go.load a) := fun w v w1 hr => by
  have key : ∀ w', Ext w w' → ∀ u, w.cell? a = some u → w'.cell? a = some u := by
    intro w' hx u hu
    unfold World.cell? at hu ⊢
    cases hb : w.heap[a.block]? with
    | none => rw [hb] at hu; cases hu
    | some o => rw [hb] at hu; rw [hx _ _ hb]; exact hu
  simp only [Go.load, Sem.run] at hr ⊢
  cases hc : w.cell? a with
  | some u =>
    simp only [hc, Result.ok.injEq] at hr
    obtain ⟨rfl, rfl⟩ := hr
    exact ⟨rfl, fun w' hx => by simp only [key w' hx _ hc]⟩
  | none =>
    simp only [hc] at hr
    cases hb : w.heap[a.block]? with
    | none => simp only [World.farLoad, hb] at hr; cases hr
    | some o =>
      cases o with
      | view at_ u =>
        cases hs : w.heap[at_.block]? with
        | none =>
          have hbad : ∃ s, w.viewLoad P at_ u a (Mode.plain == Mode.atomic) = .error s := by
            cases hv : w.viewLoad P at_ u a (Mode.plain == Mode.atomic) with
            | error s => exact ⟨s, rfl⟩
            | ok r =>
              exfalso
              cases hse : w.seen P at_ u a (Mode.plain == Mode.atomic) with
              | error s => simp [World.viewLoad, hse, Bind.bind, Except.bind] at hv
              | ok r =>
                unfold World.seen at hse
                simp only [hs] at hse
                simp only [Bind.bind, Except.bind, MonadExcept.throw, throwThe, MonadExceptOf.throw] at hse
                repeat' (first | contradiction | (split at hse))
          obtain ⟨s, hbad⟩ := hbad
          simp only [World.farLoad, hb, hbad] at hr
          cases hr
        | some o2 =>
          have hfar : ∀ w', Ext w w' → w'.farLoad P a (Mode.plain == Mode.atomic) = w.farLoad P a (Mode.plain == Mode.atomic) := by
            intro w' hx
            have hseen : w'.seen P at_ u a (Mode.plain == Mode.atomic) = w.seen P at_ u a (Mode.plain == Mode.atomic) := by
              unfold World.seen; rw [hs, hx _ _ hs]
            simp only [World.farLoad, hb, hx _ _ hb, World.viewLoad, hseen]
          have hnone : ∀ w', Ext w w' → w'.cell? a = none := fun w' hx => by simp only [World.cell?, hx _ _ hb]
          cases hf : w.farLoad P a (Mode.plain == Mode.atomic) with
          | error x => rw [hf] at hr; cases hr
          | ok r =>
            rw [hf] at hr
            obtain ⟨v', l⟩ := r
            simp only [Result.ok.injEq] at hr
            obtain ⟨rfl, rfl⟩ := hr
            exact ⟨rfl, fun w' hx => by simp only [hnone w' hx, hfar w' hx, hf]⟩
      | _ => simp only [World.farLoad, hb] at hr; cases hr
theorem LoadSt.loadCellsFrom (a : Addr) : ∀ (n i : Nat) (acc : Array Value), LoadSt P (Go.loadCellsFrom a i n acc)
  | 0, _, _ => LoadSt.pure _
  | n + 1, i, _ => (LoadSt.load _).bind fun _ => LoadSt.loadCellsFrom a n (i + 1) _
theorem LoadSt.loadVar (t : TypeId) (a : Addr) : LoadSt P (Go.loadVar t a) := by
  unfold Go.loadVar Go.isAgg
  refine LoadSt.bind ((LoadSt.underlying t).bind fun d => by cases d <;> exact LoadSt.pure _) fun b => ?_
  split
  · exact ((LoadSt.typeInfo t).bind fun _ => LoadSt.pure _).bind fun _ => (LoadSt.loadCellsFrom _ _ _ _).bind fun _ => LoadSt.pure _
  · exact LoadSt.load _
theorem LoadSt.loadAt (t : TypeId) (v : Value) : LoadSt P (Instr.loadAt t v) := by
  unfold Instr.loadAt Instr.sureAddr
  refine LoadSt.bind ?_ fun _ => LoadSt.loadVar _ _
  split
  · exact LoadSt.pure _
  · exact LoadSt.halt _

def isLoad : Op → Bool | .load .. => true | _ => false
def isAlloc : Op → Bool | .alloc _ | .box .. | .buildSlice .. => true | _ => false

theorem load_eff {o : Oper} (h : isLoad o.op = true) {a : Act} {w w1 : World} {n : Next} (he : eff P ops o a w = .ok n w1) :
    w1 = w ∧ (∃ v, n = .value v) ∧ ∀ w', Ext w w' → eff P ops o a w' = .ok n w' := by
  unfold eff at he ⊢
  split at he
  · rename_i hw
    obtain ⟨dst, op, type, pos, after, guard⟩ := o
    cases op <;> simp only [isLoad, Bool.false_eq_true] at h
    rename_i t x
    simp only [if_pos hw]
    have hst : LoadSt P (do Pure.pure (Next.value (← Instr.loadAt t (a.eval x))) : Sem Next) := (LoadSt.loadAt t _).bind fun _ => LoadSt.pure _
    obtain ⟨h1, h2⟩ := hst w n w1 he
    refine ⟨h1, ?_, h2⟩
    simp only [execOp, Sem.run_bind] at he
    cases hr : (Instr.loadAt t (a.eval x)).run P w with
    | ok v w2 => rw [hr] at he; simp at he; exact ⟨v, he.1.symm⟩
    | halt x w2 => rw [hr] at he; cases he
  · rename_i hw
    simp only [Result.ok.injEq] at he
    obtain ⟨rfl, rfl⟩ := he
    exact ⟨rfl, ⟨_, rfl⟩, fun w' _ => by rw [if_neg hw]⟩

/-- Makes memory, and does nothing else. -/
def AllocSt {α : Type} (P : Program) (e : Sem α) : Prop := ∀ w v w1, e.run P w = .ok v w1 → Ext w w1
theorem AllocSt.bind {α β : Type} {e : Sem α} {f : α → Sem β} (h : AllocSt P e) (hf : ∀ v, AllocSt P (f v)) : AllocSt P (e >>= f) := fun w v w1 hr => by
  cases he : e.run P w with
  | ok u w2 => rw [run_bind_ok he] at hr; exact fun k o hk => hf u w2 v w1 hr k o (h w u w2 he k o hk)
  | halt x w2 => rw [run_bind_halt he] at hr; cases hr
theorem AllocSt.of_load {α : Type} {e : Sem α} (h : LoadSt P e) : AllocSt P e := fun w v w1 hr => by rw [(h w v w1 hr).1]; exact Ext.refl w
theorem AllocSt.pure {α : Type} (v : α) : AllocSt P (Pure.pure v : Sem α) := .of_load (LoadSt.pure v)
theorem AllocSt.halt {α : Type} (h : Halt) : AllocSt P (Sem.halt h : Sem α) := .of_load (LoadSt.halt h)
theorem AllocSt.newVar (t : TypeId) (v : Value) : AllocSt P (Go.newVar t v) := fun w u w1 hr => by
  simp only [Go.newVar, Go.newRow, Sem.run_bind, run_newObj, Result.andThen_ok, Sem.run_pure, Result.ok.injEq] at hr
  rw [← hr.2]; exact Ext.push w _
theorem AllocSt.newRow (t : TypeId) (v : Array Value) : AllocSt P (Go.newRow t v) := fun w u w1 hr => by
  simp only [Go.newRow, Sem.run_bind, run_newObj, Result.andThen_ok, Sem.run_pure, Result.ok.injEq] at hr
  rw [← hr.2]; exact Ext.push w _
theorem AllocSt.zeroValue (t : TypeId) : AllocSt P (Go.zeroValue t) := by
  unfold Go.zeroValue
  refine (AllocSt.of_load (LoadSt.typeInfo t)).bind fun i => ?_
  split <;> first | exact AllocSt.pure _ | exact AllocSt.halt _
theorem AllocSt.sizeOf (t : TypeId) : AllocSt P (Go.sizeOf t) := (AllocSt.of_load (LoadSt.typeInfo t)).bind fun _ => AllocSt.pure _
theorem AllocSt.alloc (t : TypeId) : AllocSt P (Instr.alloc t true (.tuple #[])) := by
  unfold Instr.alloc
  exact (AllocSt.zeroValue t).bind fun z => (AllocSt.newVar t z).bind fun _ => AllocSt.pure _
theorem AllocSt.box (t : TypeId) (v : Value) : AllocSt P (Instr.box t v) := (AllocSt.newVar t v).bind fun _ => AllocSt.pure _
theorem AllocSt.buildSlice (t : TypeId) (n : Nat) (ps : Array (Nat × Value)) : AllocSt P (Instr.buildSlice t n ps) := by
  unfold Instr.buildSlice
  refine (AllocSt.of_load (LoadSt.underlying t)).bind fun d => ?_
  split
  · refine (AllocSt.sizeOf _).bind fun z => ?_
    have tail : ∀ (zero : Array Value) (elem : TypeId), AllocSt P (match
            Instr.fill (fun i => some (i * z, z)) (Array.map (fun x => zero[x % zero.size]!) (Array.range (n * z))) ps.toList with
          | some cells => do
            let l ← Go.newRow elem cells
            Pure.pure (Value.slice (some l) n n)
          | _ => stuck "buildSlice: a part of the wrong size") := by
      intro zero elem
      split
      · exact (AllocSt.newRow _ _).bind fun _ => AllocSt.pure _
      · exact AllocSt.halt _
    have rest : ∀ (elem : TypeId), AllocSt P (if n * z = 0 then do
          let zero ← Pure.pure #[]
          match Instr.fill (fun i => some (i * z, z)) (Array.map (fun x => zero[x % zero.size]!) (Array.range (n * z))) ps.toList with
            | some cells => do
              let l ← Go.newRow elem cells
              Pure.pure (Value.slice (some l) n n)
            | _ => stuck "buildSlice: a part of the wrong size"
        else do
          let u ← Go.zeroValue elem
          let zero ← Pure.pure u.cells
          match Instr.fill (fun i => some (i * z, z)) (Array.map (fun x => zero[x % zero.size]!) (Array.range (n * z))) ps.toList with
            | some cells => do
              let l ← Go.newRow elem cells
              Pure.pure (Value.slice (some l) n n)
            | _ => stuck "buildSlice: a part of the wrong size") := by
      intro elem
      split
      · exact (AllocSt.pure _).bind fun u => tail u _
      · exact (AllocSt.zeroValue _).bind fun u => (AllocSt.pure _).bind fun u => tail u _
    dsimp only
    split
    · exact (AllocSt.halt _).bind fun _ => rest _
    · exact rest _
  · exact AllocSt.halt _
theorem alloc_eff {o : Oper} (h : isAlloc o.op = true) {a : Act} {w w1 : World} {n : Next} (he : eff P ops o a w = .ok n w1) :
    (∃ v, n = .value v) ∧ Ext w w1 := by
  unfold eff at he
  split at he
  · have key : ∀ (e : Sem Value), AllocSt P e → (do Pure.pure (Next.value (← e)) : Sem Next).run P w = .ok n w1 → (∃ v, n = .value v) ∧ Ext w w1 := by
      intro e hst he
      refine ⟨?_, (hst.bind fun _ => AllocSt.pure _) w n w1 he⟩
      simp only [Sem.run_bind] at he
      cases hr : e.run P w with
      | ok v w2 => rw [hr] at he; simp at he; exact ⟨v, he.1.symm⟩
      | halt x w2 => rw [hr] at he; cases he
    obtain ⟨dst, op, type, pos, after, guard⟩ := o
    cases op <;> simp only [isAlloc, Bool.false_eq_true] at h
    case alloc => exact key _ (AllocSt.alloc _) he
    case box => exact key _ (AllocSt.box _ _) he
    case buildSlice => exact key _ (AllocSt.buildSlice _ _ _) he
  · simp only [Result.ok.injEq] at he
    obtain ⟨rfl, rfl⟩ := he
    exact ⟨⟨_, rfl⟩, Ext.refl _⟩

/-! ### Two operations that no edge holds may be exchanged -/
def notSelect : Op → Bool | .select .. => false | _ => true
theorem notSelect_spec {op : Op} (h : notSelect op = true) (cs : Array SelectCase) (b : Bool) : op ≠ .select cs b := by rintro rfl; exact absurd h (by simp [notSelect])
def okPair (P : Program) (ops : Array Oper) (oj oi : Oper) : Bool :=
  oj.apart ops oi && notSelect oj.op && notSelect oi.op && (kp P oj.op || kp P oi.op || (isLoad oj.op && (isLoad oi.op || isAlloc oi.op)))

theorem eff_uni {o : Oper} {a : Act} (hk : kp P o.op = true) (ht : tame a.eval o.op = true) :
    (∃ v, ∀ w, eff P ops o a w = .ok (.value v) w) ∨ (∀ w, ∃ x w', eff P ops o a w = .halt x w') := by
  by_cases hw : Region.wanted o (yielded ops a.tmps) = true
  · rcases uni_of hk ht with ⟨v, hv⟩ | hh
    · exact .inl ⟨v, fun w => by unfold eff; rw [if_pos hw]; exact hv w⟩
    · exact .inr fun w => by unfold eff; rw [if_pos hw]; exact hh w
  · exact .inl ⟨undef, fun w => by unfold eff; rw [if_neg hw]⟩
theorem not_upon_halt {o : Oper} {a : Act} {K : Act → World → Prop} {x : Halt} {w : World} (h : o.upon P a K (NQ F) (.halt x w)) : False := by
  cases x <;> simp only [Oper.upon] at h <;> exact h

theorem comm {i j : Nat} {oi oj : Oper} (hi : ops[i]? = some oi) (hj : ops[j]? = some oj) (hp : okPair P ops oj oi = true) {a : Act} {w : World} {K : Act → World → Prop}
    (tj : tame a.eval oj.op = true) (ti : tame a.eval oi.op = true)
    (h : wpOp P ops (NQ F) j (wpOp P ops (NQ F) i K) a w) : wpOp P ops (NQ F) i (wpOp P ops (NQ F) j K) a w := by
  simp only [okPair, Bool.and_eq_true, Bool.or_eq_true] at hp
  obtain ⟨⟨⟨hap, hsj⟩, hsi⟩, hkind⟩ := hp
  obtain ⟨A1, A2, A3⟩ := Oper.apart_spec hap
  have sj := notSelect_spec hsj
  have si := notSelect_spec hsi
  rw [wpOp_iff hj] at h
  rw [wpOp_iff hi]
  rcases hkind with (hk | hk) | ⟨hl, hal⟩
  · rcases eff_uni (ops := ops) hk tj with ⟨vj, hv⟩ | hh
    · rw [hv w] at h
      have h' : wpOp P ops (NQ F) i K (a.put oj.dst vj) w := h
      rw [wpOp_iff hi, eff_put si a w vj A1] at h'
      refine upon_mono ?_ (upon_keep (Y := fun b => ∀ w, eff P ops oj b w = .ok (.value vj) w) hv (fun b u hb w => (eff_put sj b w u A3).trans (hb w)) (fun b d hb w => hb w) (upon_unput A2 h'))
      rintro a' w' ⟨hy, hK⟩
      rw [wpOp_iff hj, hy w']
      exact hK
    · obtain ⟨x, w', hx⟩ := hh w
      rw [hx] at h
      exact (not_upon_halt h).elim
  · rcases eff_uni (ops := ops) hk ti with ⟨vi, hv⟩ | hh
    · rw [hv w]
      show wpOp P ops (NQ F) j K (a.put oi.dst vi) w
      rw [wpOp_iff hj, eff_put sj a w vi A3]
      refine upon_put (fun e he hne => A2 e hne he) ?_
      refine upon_mono ?_ (upon_keep (Y := fun b => ∀ w, eff P ops oi b w = .ok (.value vi) w) hv (fun b u hb w => (eff_put si b w u A1).trans (hb w)) (fun b d hb w => hb w) h)
      rintro a' w' ⟨hy, hK⟩
      rw [wpOp_iff hi, hy w'] at hK
      exact hK
    · obtain ⟨a', w', ⟨hy, hK⟩, _⟩ := upon_some (upon_keep (Y := fun b => ∀ w, ∃ x w', eff P ops oi b w = .halt x w') hh (fun b u hb w => by rw [eff_put si b w u A1]; exact hb w) (fun b d hb w => hb w) h)
      rw [wpOp_iff hi] at hK
      obtain ⟨x, w2, hx⟩ := hy w'
      rw [hx] at hK
      exact (not_upon_halt hK).elim
  · cases hej : eff P ops oj a w with
    | halt x w' => rw [hej] at h; exact (not_upon_halt h).elim
    | ok n w1 =>
      obtain ⟨rfl, ⟨vj, rfl⟩, hst⟩ := load_eff hl hej
      rw [hej] at h
      have h' : wpOp P ops (NQ F) i K (a.put oj.dst vj) w1 := h
      rw [wpOp_iff hi, eff_put si a w1 vj A1] at h'
      cases hei : eff P ops oi a w1 with
      | halt x w' => rw [hei] at h'; exact (not_upon_halt h').elim
      | ok n2 w2 =>
        have hn : (∃ v, n2 = .value v) ∧ Ext w1 w2 := by
          rcases hal with hl2 | ha2
          · obtain ⟨rfl, hv, _⟩ := load_eff hl2 hei; exact ⟨hv, Ext.refl _⟩
          · exact alloc_eff ha2 hei
        obtain ⟨⟨vi, rfl⟩, hx⟩ := hn
        rw [hei] at h'
        have h2 : K ((a.put oj.dst vj).put oi.dst vi) w2 := h'
        show wpOp P ops (NQ F) j K (a.put oi.dst vi) w2
        rw [wpOp_iff hj, eff_put sj a w2 vi A3, hst w2 hx]
        show K ((a.put oi.dst vi).put oj.dst vj) w2
        rw [← Act.put_comm a vj vi A2]
        exact h2

/-! ### The check, and the theorem -/
def pre (ops : Array Oper) (x k : Nat) : Bool := ((Region.before ops).getD x 0).testBit k
def tames (ops : Array Oper) (a : Act) : Bool := ops.all fun o => tame a.eval o.op
def okB (m : Nat) (P : Program) (ops : Array Oper) : Bool :=
  (List.range ops.size).all fun i => match ops[i]? with
    | none => true
    | some oi =>
      (oi.after.all fun e => !Region.binds .any e || decide (e.on < i)) &&
      ((List.range ops.size).all fun k => !pre ops i k || (decide (k < i) && oi.after.any fun e => Region.binds .any e && (e.on == k || pre ops e.on k))) &&
      ((List.range ops.size).all fun j => decide (m ≤ i) || !decide (j < i) || pre ops i j || match ops[j]? with | some oj => okPair P ops oj oi | none => true) &&
      (!cond oi.op || (List.range ops.size).all fun k => match ops[k]? with
        | some ok => (match ok.dst with | some d => !(oi.looksAt ops).contains d || pre ops i k | none => true)
        | none => true)

structure Ok (m : Nat) (P : Program) (ops : Array Oper) : Prop where
  edges : ∀ i oi, ops[i]? = some oi → ∀ e ∈ oi.after, Region.binds .any e = true → e.on < i
  clos : ∀ i oi, ops[i]? = some oi → ∀ k, k < ops.size → pre ops i k = true → k < i ∧ ∃ e ∈ oi.after, Region.binds .any e = true ∧ (e.on = k ∨ pre ops e.on k = true)
  pairs : ∀ i oi, ops[i]? = some oi → i < m → ∀ j oj, ops[j]? = some oj → j < i → pre ops i j = false → okPair P ops oj oi = true
  writes : ∀ i oi, ops[i]? = some oi → cond oi.op = true → ∀ k ok d, ops[k]? = some ok → ok.dst = some d → d ∈ oi.looksAt ops → pre ops i k = true
theorem lt_of_get {i : Nat} {o : Oper} (h : ops[i]? = some o) : i < ops.size := (Array.getElem?_eq_some_iff.1 h).1
theorem ok_of {m : Nat} (h : okB m P ops = true) : Ok m P ops := by
  unfold okB at h
  simp only [List.all_eq_true, List.mem_range] at h
  refine ⟨?_, ?_, ?_, ?_⟩
  · intro i oi hi e he hb
    have := h i (lt_of_get hi)
    simp only [hi, Bool.and_eq_true, Array.all_eq_true_iff_forall_mem, Bool.or_eq_true, Bool.not_eq_true', decide_eq_true_eq] at this
    exact (this.1.1.1 e he).resolve_left (by simp [hb])
  · intro i oi hi k hk hp
    have := h i (lt_of_get hi)
    simp only [hi, Bool.and_eq_true] at this
    have h2 := List.all_eq_true.1 this.1.1.2 k (List.mem_range.2 hk)
    simp only [hp, Bool.not_true, Bool.false_or, Bool.and_eq_true, decide_eq_true_eq, Array.any_eq_true', Bool.or_eq_true, beq_iff_eq] at h2
    obtain ⟨h3, e, he, h4, h5⟩ := h2
    exact ⟨h3, e, he, h4, h5⟩
  · intro i oi hi him j oj hj hlt hp
    have hnm : ¬ m ≤ i := Nat.not_le.2 him
    have := h i (lt_of_get hi)
    simp only [hi, Bool.and_eq_true] at this
    have h2 := List.all_eq_true.1 this.1.2 j (List.mem_range.2 (lt_of_get hj))
    simpa [hj, hlt, hp, hnm] using h2
  · intro i oi hi hc k ok d hk hd hm
    have := h i (lt_of_get hi)
    simp only [hi, Bool.and_eq_true] at this
    have h2 := this.2
    simp only [hc, Bool.not_true, Bool.false_or] at h2
    have h3 := List.all_eq_true.1 h2 k (List.mem_range.2 (lt_of_get hk))
    simpa [hk, hd, hm] using h3

theorem tame_now {m : Nat} (hok : Ok m P ops) {x : Nat} {ox : Oper} (hx : ops[x]? = some ox) {R : List Nat} {a : Act} {w : World} {Q : Act → World → Prop}
    (hR : ∀ k ∈ R, k < ops.size → pre ops x k = false) (h : wpOps P ops (NQ fun a' w' => tames ops a' = true ∧ Q a' w') R a w) : tame a.eval ox.op = true := by
  cases hc : cond ox.op with
  | false => exact tame_of_not_cond hc
  | true =>
    obtain ⟨a', w', ⟨ht, _⟩, hkeep⟩ := fin_of h
    have h1 : tame a'.eval ox.op = true := by
      unfold tames at ht
      rw [Array.all_eq_true_iff_forall_mem] at ht
      exact ht ox (Array.mem_of_getElem? hx)
    rw [← h1]
    refine tame_congr fun o ho => ?_
    cases o with
    | tmp t =>
      have hl : t ∈ ox.looksAt ops := List.mem_append_left _ (List.mem_filterMap.2 ⟨.tmp t, by simpa using ho, rfl⟩)
      exact (hkeep t fun k hk ok hok' hd => by
        have h2 := hok.writes x ox hx hc k ok t hok' hd hl
        rw [hR k hk (lt_of_get hok')] at h2
        cases h2).symm
    | _ => rfl

theorem front {m : Nat} (hok : Ok m P ops) {i : Nat} {oi : Oper} (him : i < m) (hi : ops[i]? = some oi) {Q : Act → World → Prop} {l2 : List Nat} : ∀ (l1 : List Nat) (D : Nat → Prop) (a : Act) (w : World),
    (∀ x ∈ l1 ++ i :: l2, x < ops.size ∧ ¬ D x) → (l1 ++ i :: l2).Nodup → (∀ j ∈ l1, j < i) →
    (∀ p j q, l1 = p ++ j :: q → ∀ k, k < ops.size → pre ops j k = true → D k ∨ k ∈ p) → (∀ k, k < ops.size → pre ops i k = true → D k) →
    wpOps P ops (NQ fun a' w' => tames ops a' = true ∧ Q a' w') (l1 ++ i :: l2) a w →
    wpOp P ops (NQ fun a' w' => tames ops a' = true ∧ Q a' w') i (wpOps P ops (NQ fun a' w' => tames ops a' = true ∧ Q a' w') (l1 ++ l2)) a w := by
  intro l1
  induction l1 with
  | nil => intro D a w _ _ _ _ _ h; rw [List.nil_append, wpOps_cons] at h; exact h
  | cons j l1 ih =>
    intro D a w hD hnd hlt hcl hpi h
    have hjD := hD j (by simp)
    obtain ⟨oj, hj⟩ : ∃ oj, ops[j]? = some oj := ⟨_, Array.getElem?_eq_getElem hjD.1⟩
    have hji : j < i := hlt j (by simp)
    have hprej : pre ops i j = false := by
      cases hp : pre ops i j with
      | false => rfl
      | true => exact absurd (hpi j hjD.1 hp) hjD.2
    have tj : tame a.eval oj.op = true := tame_now hok hj (R := j :: l1 ++ i :: l2) (fun k hk hks => by
      cases hp : pre ops j k with
      | false => rfl
      | true =>
        rcases hcl [] j l1 rfl k hks hp with h1 | h1
        · exact absurd h1 (hD k hk).2
        · cases h1) h
    have ti : tame a.eval oi.op = true := tame_now hok hi (R := j :: l1 ++ i :: l2) (fun k hk hks => by
      cases hp : pre ops i k with
      | false => rfl
      | true => exact absurd (hpi k hks hp) (hD k hk).2) h
    have hnd' : j ∉ l1 ++ i :: l2 ∧ (l1 ++ i :: l2).Nodup := by simpa using hnd
    rw [List.cons_append, wpOps_cons] at h
    rw [List.cons_append]
    refine wpOp_mono (fun a' w' h' => (by rw [wpOps_cons]; exact h')) (comm hi hj (hok.pairs i oi hi him j oj hj hji hprej) tj ti (wpOp_mono (fun a' w' h' => ?_) h))
    refine ih (fun k => D k ∨ k = j) a' w' (fun x hx => ⟨(hD x (List.mem_cons_of_mem _ hx)).1, ?_⟩) hnd'.2 (fun k hk => hlt k (List.mem_cons_of_mem _ hk)) ?_ (fun k hk hp => .inl (hpi k hk hp)) h'
    · rintro (h1 | h1)
      · exact (hD x (List.mem_cons_of_mem _ hx)).2 h1
      · exact hnd'.1 (h1 ▸ hx)
    · intro p y q he k hk hp
      rcases hcl (j :: p) y q (by rw [he]; rfl) k hk hp with h1 | h1
      · exact .inl (.inl h1)
      · rcases List.mem_cons.1 h1 with h2 | h2
        · exact .inl (.inr h2)
        · exact .inr h2

/-- What has not come up yet, in the order of the text. -/
def rem (n : Nat) (listed : Array Bool) : List Nat := (List.range n).filter fun i => !listed.getD i true
theorem mem_rem {n : Nat} {listed : Array Bool} {i : Nat} : i ∈ rem n listed ↔ i < n ∧ listed.getD i true = false := by simp [rem]
theorem rem_sorted (n : Nat) (listed : Array Bool) : (rem n listed).Pairwise (· < ·) := List.Pairwise.filter _ List.pairwise_lt_range
theorem rem_set {n : Nat} {listed : Array Bool} {i : Nat} {l1 l2 : List Nat} (hsz : n ≤ listed.size) (h : rem n listed = l1 ++ i :: l2) : rem n (listed.setIfInBounds i true) = l1 ++ l2 := by
  have hs := rem_sorted n listed
  have hi : i < n ∧ listed.getD i true = false := mem_rem.1 (by rw [h]; simp)
  have h1 : rem n (listed.setIfInBounds i true) = (rem n listed).filter (fun k => k != i) := by
    unfold rem
    rw [List.filter_filter]
    refine List.filter_congr fun k hk => ?_
    by_cases hki : i = k
    · subst hki; have : i < listed.size := by omega
      simp [this]
    · rw [getD_set_ne true hki]; simp [Ne.symm hki]
  rw [h1, h, List.filter_append, List.filter_cons]
  rw [h, List.pairwise_append] at hs
  obtain ⟨hs1, hs2, hs3⟩ := hs
  rw [List.pairwise_cons] at hs2
  rw [List.filter_eq_self.2 (fun k hk => by have := hs3 k hk i (by simp); simp; omega), List.filter_eq_self.2 (fun k hk => by have := hs2.1 k hk; simp; omega)]
  simp

theorem wpOp_toQ {i : Nat} {Q : Exit → Act → World → Prop} {K K' : Act → World → Prop} {a : Act} {w : World} (hK : ∀ a w, K a w → K' a w)
    (h : wpOp P ops (NQ F) i K a w) : wpOp P ops Q i K' a w := by
  unfold wpOp at *
  split
  · exact hK _ _ (by simpa [*] using h)
  · rename_i o ho
    simp only [ho] at h
    split
    · rename_i hw
      simp only [hw, if_true] at h
      refine .inl ?_
      have h := h.resolve_right (fun h => not_letsOut h.2)
      unfold Oper.wp at *
      generalize (execOp a.eval o).run P w = r at *
      cases r with
      | ok n w' =>
        cases n <;> simp only [Oper.upon] at h ⊢ <;>
          first
            | exact hK _ _ h
            | exact Calls.mono h (fun e w'' he => by cases e <;> first | exact hK _ _ he | exact he.elim | exact (not_letsOut he).elim)
            | exact Rows.mono h (fun _ _ he => hK _ _ he)
      | halt x w' => cases x <;> simp only [Oper.upon] at h ⊢ <;> exact h.elim
    · rename_i hw; simp only [hw] at h; exact hK _ _ h

theorem core (hok : Ok ops.size P ops) {Q : Exit → Act → World → Prop} : ∀ (fuel : Nat) (listed : Array Bool) (a : Act) (w : World), listed.size = ops.size →
    (∀ x, x < ops.size → listed.getD x true = true → ∀ k, k < ops.size → pre ops x k = true → listed.getD k true = true) → (rem ops.size listed).length = fuel →
    wpOps P ops (NQ fun a' w' => tames ops a' = true ∧ Q .normal a' w') (rem ops.size listed) a w → wpAny P .any ops Q fuel listed a w := by
  intro fuel
  induction fuel with
  | zero =>
    intro listed a w hsz hcl hf h
    have hnil : rem ops.size listed = [] := List.eq_nil_of_length_eq_zero hf
    rw [hnil] at h
    refine ⟨?_, h.2⟩
    cases hr : Region.ready .any ops listed with
    | nil => rfl
    | cons x xs =>
      have hx : x ∈ Region.ready .any ops listed := by rw [hr]; simp
      obtain ⟨h0, o, ho, _⟩ := mem_ready.1 hx
      have : x ∈ rem ops.size listed := mem_rem.2 ⟨lt_of_get ho, h0⟩
      rw [hnil] at this
      cases this
  | succ fuel ih =>
    intro listed a w hsz hcl hf h
    refine ⟨fun hr => ?_, fun i hi => ?_⟩
    · exfalso
      cases hrem : rem ops.size listed with
      | nil => rw [hrem] at hf; cases hf
      | cons x xs =>
        have hx := mem_rem.1 (show x ∈ rem ops.size listed by rw [hrem]; simp)
        obtain ⟨ox, hox⟩ : ∃ ox, ops[x]? = some ox := ⟨_, Array.getElem?_eq_getElem hx.1⟩
        have hs := rem_sorted ops.size listed
        rw [hrem, List.pairwise_cons] at hs
        have : x ∈ Region.ready .any ops listed := mem_ready.2 ⟨hx.2, ox, hox, fun e he hb => by
          have hlt := hok.edges x ox hox e he hb
          cases hl : listed.getD e.on true with
          | true =>
            have hin : e.on < listed.size := by rw [hsz]; omega
            simpa [hin] using hl
          | false =>
            have hm : e.on ∈ rem ops.size listed := mem_rem.2 ⟨by omega, hl⟩
            rw [hrem] at hm
            rcases List.mem_cons.1 hm with h1 | h1
            · omega
            · have := hs.1 _ h1; omega⟩
        rw [hr] at this
        cases this
    · obtain ⟨h0, oi, hoi, hall⟩ := mem_ready.1 hi
      have him : i ∈ rem ops.size listed := mem_rem.2 ⟨lt_of_get hoi, h0⟩
      obtain ⟨l1, l2, hl⟩ := List.append_of_mem him
      have hs := rem_sorted ops.size listed
      have hgd : ∀ k, listed.getD k false = true → listed.getD k true = true := by
        intro k hk
        rcases Nat.lt_or_ge k listed.size with h' | h'
        · simp [h'] at hk ⊢; exact hk
        · simp [Array.getElem?_eq_none h'] at hk
      have hprei : ∀ k, k < ops.size → pre ops i k = true → listed.getD k true = true := by
        intro k hk hp
        obtain ⟨_, e, he, hb, h2⟩ := hok.clos i oi hoi k hk hp
        have h3 := hall e he hb
        rcases h2 with rfl | h2
        · exact hgd _ h3
        · exact hcl e.on (by have := hok.edges i oi hoi e he hb; have := lt_of_get hoi; omega) (hgd _ h3) k hk h2
      have hfr := front hok (lt_of_get hoi) hoi (Q := Q .normal) (l2 := l2) l1 (fun k => listed.getD k true = true) a w
        (fun x hx => by rw [← hl] at hx; have := mem_rem.1 hx; exact ⟨this.1, by rw [this.2]; simp⟩)
        (by rw [← hl]; exact hs.imp (fun h => Nat.ne_of_lt h))
        (fun j hj => by rw [hl, List.pairwise_append] at hs; exact hs.2.2 j hj i (by simp))
        (fun p j q he k hk hp => by
          have hj : j ∈ rem ops.size listed := by rw [hl, he]; simp
          obtain ⟨oj, hoj⟩ : ∃ oj, ops[j]? = some oj := ⟨_, Array.getElem?_eq_getElem (mem_rem.1 hj).1⟩
          have hkj := (hok.clos j oj hoj k hk hp).1
          cases hlk : listed.getD k true with
          | true => exact .inl rfl
          | false =>
            right
            have hm : k ∈ rem ops.size listed := mem_rem.2 ⟨hk, hlk⟩
            rw [hl, he] at hm hs
            simp only [List.append_assoc, List.cons_append, List.mem_append, List.mem_cons] at hm
            rw [List.append_assoc, List.pairwise_append] at hs
            have hs2 := hs.2.1
            rw [List.cons_append, List.pairwise_cons] at hs2
            rcases hm with h1 | h1
            · exact h1
            · rcases h1 with h1 | h1
              · omega
              · have := hs2.1 k (by simp only [List.mem_append, List.mem_cons]; exact h1); omega)
        hprei (by rw [← hl]; exact h)
      refine wpOp_toQ (fun a' w' h' => ih (listed.setIfInBounds i true) a' w' (by simp [hsz]) ?_ ?_ ?_) hfr
      · intro x hx hxl k hk hp
        by_cases hik : i = k
        · subst hik; have := lt_of_get hoi; simp [hsz, this]
        · rw [getD_set_ne true hik]
          by_cases hix : i = x
          · subst hix; exact hprei k hk hp
          · rw [getD_set_ne true hix] at hxl; exact hcl x hx hxl k hk hp
      · rw [rem_set (Nat.le_of_eq hsz.symm) hl]; rw [hl] at hf; simp at hf ⊢; omega
      · rw [rem_set (Nat.le_of_eq hsz.symm) hl]; exact h'

/-- The last operation waits for all the others. -/
theorem core_last (hok : Ok ops.size P ops) {m : Nat} (hm : m + 1 = ops.size) (hlast : ∀ k, k < m → pre ops m k = true) {Q : Exit → Act → World → Prop} : ∀ (fuel : Nat) (listed : Array Bool) (a : Act) (w : World),
    listed.size = ops.size → listed.getD m true = false →
    (∀ x, x < ops.size → listed.getD x true = true → ∀ k, k < ops.size → pre ops x k = true → listed.getD k true = true) → (rem m listed).length = fuel →
    wpOps P ops (NQ fun a' w' => tames ops a' = true ∧ wpOp P ops Q m (Q .normal) a' w') (rem m listed) a w → wpAny P .any ops Q (fuel + 1) listed a w := by
  have hgd : ∀ (listed : Array Bool) k, listed.getD k false = true → listed.getD k true = true := by
    intro listed k hk
    rcases Nat.lt_or_ge k listed.size with h' | h'
    · simp [h'] at hk ⊢; exact hk
    · simp [Array.getElem?_eq_none h'] at hk
  have hgi : ∀ (listed : Array Bool) k, k < listed.size → listed.getD k true = true → listed.getD k false = true := by
    intro listed k h' hk
    simp [h'] at hk ⊢; exact hk
  obtain ⟨om, hom⟩ : ∃ om, ops[m]? = some om := ⟨_, Array.getElem?_eq_getElem (by omega)⟩
  intro fuel
  induction fuel with
  | zero =>
    intro listed a w hsz hml hcl hf h
    have hnil : rem m listed = [] := List.eq_nil_of_length_eq_zero hf
    have hall : ∀ k, k < m → listed.getD k true = true := by
      intro k hk
      cases hl : listed.getD k true with
      | true => rfl
      | false =>
        have : k ∈ rem m listed := mem_rem.2 ⟨hk, hl⟩
        rw [hnil] at this; cases this
    rw [hnil] at h
    refine ⟨fun hr => ?_, fun i hi => ?_⟩
    · have : m ∈ Region.ready .any ops listed := mem_ready.2 ⟨hml, om, hom, fun e he hb => hgi _ _ (by have := hok.edges m om hom e he hb; omega) (hall _ (hok.edges m om hom e he hb))⟩
      rw [hr] at this; cases this
    · obtain ⟨h0, oi, hoi, _⟩ := mem_ready.1 hi
      have him : i = m := by
        have := lt_of_get hoi
        rcases Nat.lt_or_ge i m with h1 | h1
        · rw [hall i h1] at h0; cases h0
        · omega
      subst him
      refine wpOp_mono (fun a' w' h' => ⟨?_, h'⟩) h.2
      cases hr : Region.ready .any ops (listed.setIfInBounds i true) with
      | nil => rfl
      | cons x xs =>
        exfalso
        have hx : x ∈ Region.ready .any ops (listed.setIfInBounds i true) := by rw [hr]; simp
        obtain ⟨h1, o, ho, _⟩ := mem_ready.1 hx
        have := lt_of_get ho
        by_cases hxi : i = x
        · subst hxi; simp [hsz, this] at h1
        · rw [getD_set_ne true hxi, hall x (by omega)] at h1; cases h1
  | succ fuel ih =>
    intro listed a w hsz hml hcl hf h
    refine ⟨fun hr => ?_, fun i hi => ?_⟩
    · exfalso
      cases hrem : rem m listed with
      | nil => rw [hrem] at hf; cases hf
      | cons x xs =>
        have hx := mem_rem.1 (show x ∈ rem m listed by rw [hrem]; simp)
        obtain ⟨ox, hox⟩ : ∃ ox, ops[x]? = some ox := ⟨_, Array.getElem?_eq_getElem (by omega)⟩
        have hs := rem_sorted m listed
        rw [hrem, List.pairwise_cons] at hs
        have : x ∈ Region.ready .any ops listed := mem_ready.2 ⟨hx.2, ox, hox, fun e he hb => by
          have hlt := hok.edges x ox hox e he hb
          cases hl : listed.getD e.on true with
          | true => exact hgi _ _ (by omega) hl
          | false =>
            have hmm : e.on ∈ rem m listed := mem_rem.2 ⟨by omega, hl⟩
            rw [hrem] at hmm
            rcases List.mem_cons.1 hmm with h1 | h1
            · omega
            · have := hs.1 _ h1; omega⟩
        rw [hr] at this
        cases this
    · obtain ⟨h0, oi, hoi, hall⟩ := mem_ready.1 hi
      have hprei : ∀ k, k < ops.size → pre ops i k = true → listed.getD k true = true := by
        intro k hk hp
        obtain ⟨_, e, he, hb, h2⟩ := hok.clos i oi hoi k hk hp
        have h3 := hall e he hb
        rcases h2 with rfl | h2
        · exact hgd _ _ h3
        · exact hcl e.on (by have := hok.edges i oi hoi e he hb; have := lt_of_get hoi; omega) (hgd _ _ h3) k hk h2
      have him : i < m := by
        have := lt_of_get hoi
        rcases Nat.lt_or_ge i m with h1 | h1
        · exact h1
        · have : i = m := by omega
          subst this
          cases hrem : rem i listed with
          | nil => rw [hrem] at hf; cases hf
          | cons x xs =>
            have hx := mem_rem.1 (show x ∈ rem i listed by rw [hrem]; simp)
            rw [hprei x (by omega) (hlast x hx.1)] at hx
            cases hx.2
      have him' : i ∈ rem m listed := mem_rem.2 ⟨him, h0⟩
      obtain ⟨l1, l2, hl⟩ := List.append_of_mem him'
      have hs := rem_sorted m listed
      have hfr := front hok (lt_of_get hoi) hoi (Q := fun a' w' => wpOp P ops Q m (Q .normal) a' w') (l2 := l2) l1 (fun k => listed.getD k true = true) a w
        (fun x hx => by rw [← hl] at hx; have := mem_rem.1 hx; exact ⟨by omega, by rw [this.2]; simp⟩)
        (by rw [← hl]; exact hs.imp (fun h => Nat.ne_of_lt h))
        (fun j hj => by rw [hl, List.pairwise_append] at hs; exact hs.2.2 j hj i (by simp))
        (fun p j q he k hk hp => by
          have hj : j ∈ rem m listed := by rw [hl, he]; simp
          have hjm := (mem_rem.1 hj).1
          obtain ⟨oj, hoj⟩ : ∃ oj, ops[j]? = some oj := ⟨_, Array.getElem?_eq_getElem (by omega)⟩
          have hkj := (hok.clos j oj hoj k hk hp).1
          cases hlk : listed.getD k true with
          | true => exact .inl rfl
          | false =>
            right
            have hm : k ∈ rem m listed := mem_rem.2 ⟨by omega, hlk⟩
            rw [hl, he] at hm hs
            simp only [List.append_assoc, List.cons_append, List.mem_append, List.mem_cons] at hm
            rw [List.append_assoc, List.pairwise_append] at hs
            have hs2 := hs.2.1
            rw [List.cons_append, List.pairwise_cons] at hs2
            rcases hm with h1 | h1
            · exact h1
            · rcases h1 with h1 | h1
              · omega
              · have := hs2.1 k (by simp only [List.mem_append, List.mem_cons]; exact h1); omega)
        hprei (by rw [← hl]; exact h)
      refine wpOp_toQ (fun a' w' h' => ih (listed.setIfInBounds i true) a' w' (by simp [hsz]) ?_ ?_ ?_ ?_) hfr
      · rw [getD_set_ne true (by omega)]; exact hml
      · intro x hx hxl k hk hp
        by_cases hik : i = k
        · subst hik; simp [hsz, hk]
        · rw [getD_set_ne true hik]
          by_cases hix : i = x
          · subst hix; exact hprei k hk hp
          · rw [getD_set_ne true hix] at hxl; exact hcl x hx hxl k hk hp
      · rw [rem_set (by omega) hl]; rw [hl] at hf; simp at hf ⊢; omega
      · rw [rem_set (by omega) hl]; exact h'
end

/-- A region whose order is open, in the order of its text. -/
theorem wp_region_text {P : Program} {id : Nat} {l : List Oper} {Q : Exit → Act → World → Prop} {a : Act} {w : World} (hm : P.follows .mixedOrders = true) (hs : okB l.toArray.size P l.toArray = true)
    (h : wpList P l.toArray (NQ fun a' w' => tames l.toArray a' = true ∧ Q .normal a' w') l a w.drew) : (Code.region id l.toArray true).wp P Q a w := by
  refine wp_region_any hm (core (ok_of hs) _ _ _ _ (by simp) ?_ ?_ ?_)
  · intro x hx h1
    have hx' : x < l.length := by simpa using hx
    simp [hx'] at h1
  · unfold rem
    rw [List.filter_eq_self.2 (fun k hk => by simp at hk; simp [hk])]
    simp
  · have hr : rem l.toArray.size (Array.replicate l.toArray.size false) = List.range' 0 l.length := by
      unfold rem
      rw [List.filter_eq_self.2 (fun k hk => by simp at hk; simp [hk])]
      simp [List.range_eq_range']
    rw [hr, wpOps_eq_wpList l 0 (by simp)]
    exact h

theorem wpOps_prefix {P : Program} {ops : Array Oper} {Q : Exit → Act → World → Prop} (l : List Oper) : ∀ k, (∀ j, j < l.length → l[j]? = ops[k + j]?) → wpOps P ops Q (List.range' k l.length) = wpList P ops Q l := by
  induction l with
  | nil => intro k _; funext a w; simp [wpOps, wpList]
  | cons o l ih =>
    intro k h
    have h0 : ops[k]? = some o := by simpa using (h 0 (by simp)).symm
    have ih' := ih (k + 1) (fun j hj => by have := h (j + 1) (by simpa using hj); simpa [Nat.add_assoc, Nat.add_comm 1 j] using this)
    funext a w
    simp only [List.length_cons, List.range'_succ, wpOps, h0, wpList, ih']
theorem wpList_F {P : Program} {ops : Array Oper} {F F' : Act → World → Prop} (hF : ∀ a w, F a w → F' a w) : ∀ (l : List Oper) (a : Act) (w : World), wpList P ops (NQ F) l a w → wpList P ops (NQ F') l a w
  | [], a, w, h => hF a w h
  | o :: l, a, w, h => by
    unfold wpList at h ⊢
    split
    · rename_i hw
      rw [if_pos hw] at h
      refine .inl ?_
      have h := h.resolve_right (fun h => not_letsOut h.2)
      unfold Oper.wp at *
      generalize (execOp a.eval o).run P w = r at *
      cases r with
      | ok n w' =>
        cases n <;> simp only [Oper.upon] at h ⊢ <;>
          first
            | exact wpList_F hF l _ _ h
            | exact Calls.mono h (fun e w'' he => by cases e <;> first | exact wpList_F hF l _ _ he | exact he.elim | exact (not_letsOut he).elim)
            | exact Rows.mono h (fun _ _ he => wpList_F hF l _ _ he)
      | halt x w' => cases x <;> simp only [Oper.upon] at h ⊢ <;> exact h.elim
    · rename_i hw; rw [if_neg hw] at h; exact wpList_F hF l _ _ h
def lastB (ops : Array Oper) : Bool := (List.range (ops.size - 1)).all fun k => pre ops (ops.size - 1) k
/-- A region whose last operation (a panic, a call that may panic) waits for all the others. -/
theorem wp_region_last {P : Program} {id : Nat} {l : List Oper} {o : Oper} {Q : Exit → Act → World → Prop} {a : Act} {w : World} (hm : P.follows .mixedOrders = true) (hs : okB (l ++ [o]).toArray.size P (l ++ [o]).toArray = true)
    (hl : lastB (l ++ [o]).toArray = true)
    (h : wpList P (l ++ [o]).toArray (NQ fun a' w' => tames (l ++ [o]).toArray a' = true ∧ wpList P (l ++ [o]).toArray Q [o] a' w') l a w.drew) : (Code.region id (l ++ [o]).toArray true).wp P Q a w := by
  have hsz : (l ++ [o]).toArray.size = l.length + 1 := by simp
  refine wp_region_any hm ?_
  rw [hsz]
  refine core_last (ok_of hs) (m := l.length) (by simp) (fun k hk => ?_) l.length _ _ _ (by simp) (by simp) ?_ ?_ ?_
  · unfold lastB at hl
    rw [hsz, List.all_eq_true] at hl
    exact hl k (List.mem_range.2 (by omega))
  · intro x hx h1
    have hx' : x < l.length + 1 := by simpa using hx
    simp [hx'] at h1
  · unfold rem
    rw [List.filter_eq_self.2 (fun k hk => by have : k < l.length := by simpa using hk
                                              have : k < l.length + 1 := by omega
                                              simp [this])]
    simp
  · have hr : rem l.length (Array.replicate (l.length + 1) false) = List.range' 0 l.length := by
      unfold rem
      rw [List.filter_eq_self.2 (fun k hk => by have : k < l.length := by simpa using hk
                                                have : k < l.length + 1 := by omega
                                                simp [this])]
      simp [List.range_eq_range']
    rw [hr, wpOps_prefix l 0 (by intro j hj; rw [Nat.zero_add, List.getElem?_toArray, List.getElem?_append_left hj])]
    refine wpList_F (fun a' w' h' => ⟨h'.1, ?_⟩) l _ _ h
    have h2 := h'.2
    unfold wpOp
    simp only [List.getElem?_toArray, List.getElem?_concat_length]
    exact h2
end Reg
end Go.Proofs.YtllahgnpjodgmaaDoor
