/- A region of operations whose order Go leaves open may be walked in the order of its text, where a check over its edges says so. Conditions: the operations that touch memory are in a forced order, but for loads ahead of allocations.
Words for memory: what has changed, what is kept, what a call owns; blocks that are known whole; slices that read as lists.
The parser of package parse as a machine on plain data: what is still to be read is a list of rules; each rule takes a state to a state, or to a fault. No program here.
Names of MiniGo: what their bytes are.
Trees and slices as they lie in memory.
What a call holds: blocks known whole and rows of its own, all apart from one another and from what was there; each step of a walk takes one such list to the next.
More steps of what a call holds: a slice that can be read is appended to a row of the call's own. -/
import Derived.Test.YtllahgnpjodgmaaDoorQ0
import Derived.Below
import Derived.Deep.AppendLies
import Derived.OneCell
import Derived.Deep.Draws
import Derived.Tactics2
import Derived.WalkKit
import Derived.WalkSpells
import Derived.WalkLawsBesides
import Derived.OwnWalk
import Derived.Laws.Pointers
import Derived.KernelRfl
import Derived.Outline
import Derived.Lib.Hide
import Derived.LoopTactic
import Derived.Deep.LoopGhost
import Derived.Lib.Strings
import Derived.Laws.AppendOwnNone
namespace Go.Proofs.YtllahgnpjodgmaaDoor
namespace Reg
open Go
section
variable {P : Program} {ops : Array Oper} {F : Act → World → Prop}
/-- Yields one value in whatever world, or halts in all. -/
def UniV (P : Program) (e : Sem Next) : Prop := (∃ v, ∀ w, e.run P w = .ok (.value v) w) ∨ Halts P e
theorem UniV.bind {α : Type} {e : Sem α} {f : α → Sem Next} (h : Uni P e) (hf : ∀ v, UniV P (f v)) : UniV P (e >>= f) := by
  rcases h with ⟨v, hv⟩ | hh
  · rcases hf v with ⟨u, hu⟩ | hu
    · exact .inl ⟨u, fun w => by rw [run_bind_ok (hv w)]; exact hu w⟩
    · exact .inr fun w => by rw [run_bind_ok (hv w)]; exact hu w
  · exact .inr fun w => by obtain ⟨x, w', hx⟩ := hh w; exact ⟨x, w', run_bind_halt hx⟩
theorem UniV.pure (v : Value) : UniV P (Pure.pure (Next.value v) : Sem Next) := .inl ⟨v, fun _ => rfl⟩
theorem Uni.val {e : Sem Value} (h : Uni P e) : UniV P (do Pure.pure (Next.value (← e)) : Sem Next) := UniV.bind h fun _ => UniV.pure _

/-- The operations that look at no memory, by their text. -/
def kp (P : Program) : Op → Bool
  | .move _ | .assign _ | .pick .. | .field .. | .extract .. | .indexAddr .. | .index .. | .slice .. | .makeFunc .. | .build .. | .makeInterface .. | .nilCheck _ | .binOp .. | .unOp .. => true
  | .fieldAddr s _ f => match P.underlying s with
    | some (.struct fs) => match fs[f]? with | some fd => P.cellsOf fd.type != 0 | none => true
    | _ => true
  | .call { callee := .builtin .len, .. } => true
  | .call { callee := .builtin .max, .. } => true
  | _ => false
def isInt : Value → Bool | .int .. => true | _ => false
/-- Of some of them it hangs on the operands. -/
def cond : Op → Bool
  | .nilCheck _ | .binOp .. | .unOp .. | .call .. => true
  | _ => false
def tame (ρ : Operand → Value) : Op → Bool
  | .nilCheck x => match ρ x with | .func (.method _) _ _ => false | _ => true
  | .binOp _ _ x y _ => simple (ρ x) && simple (ρ y)
  | .unOp _ _ x => simple (ρ x)
  | .call { callee := .builtin .len, args, .. } => match args[0]? with
    | some x => match ρ x with | .slice .. | .string _ | .tuple _ => true | _ => false
    | none => true
  | .call { callee := .builtin .max, args, .. } => args.toList.all fun x => isInt (ρ x)
  | _ => true

theorem max_uni (l : List Value) : ∀ x, isInt x = true → l.all isInt = true → Uni P (l.foldlM Builtin.max2 x) := by
  induction l with
  | nil => exact fun x _ _ => Uni.pure _
  | cons y l ih =>
    intro x hx hl
    rw [List.all_cons, Bool.and_eq_true] at hl
    rw [List.foldlM_cons]
    cases x <;> simp only [isInt, Bool.false_eq_true] at hx
    cases y <;> simp only [isInt, Bool.false_eq_true, false_and] at hl
    rename_i k x k' y
    have h1 : ∀ w, (Builtin.max2 (.int k x) (.int k' y)).run P w = .ok (.int k (if y > x then y else x)) w := fun w => rfl
    rcases ih (.int k (if y > x then y else x)) rfl hl.2 with ⟨v, hv⟩ | hh
    · exact .inl ⟨v, fun w => by rw [run_bind_ok (h1 w)]; exact hv w⟩
    · exact .inr fun w => by rw [run_bind_ok (h1 w)]; exact hh w

theorem uni_of {ρ : Operand → Value} {o : Oper} (hk : kp P o.op = true) (ht : tame ρ o.op = true) : UniV P (execOp ρ o) := by
  obtain ⟨dst, op, type, pos, after, guard⟩ := o
  cases op <;> simp only [kp, Bool.false_eq_true] at hk <;> simp only [execOp]
  case move => exact UniV.pure _
  case assign => exact UniV.pure _
  case pick c a b => exact UniV.bind (by unfold asBool; split <;> first | exact Uni.pure _ | exact Uni.stuck _) fun _ => UniV.pure _
  case field => exact (Uni.field _ _ _).val
  case extract => exact (Uni.extract _ _).val
  case indexAddr => exact (Uni.indexAt _ _ _).val
  case index => exact (Uni.index _ _ _).val
  case slice => exact (Uni.sliceAt _ _ _ _ _).val
  case makeFunc => exact (Uni.pure _ : Uni P (Instr.makeFunc _ _ _)).val
  case build => exact (Uni.build _ _).val
  case makeInterface =>
    refine Uni.val ?_
    unfold Instr.makeInterface
    refine (Uni.underlying _).bind fun d => ?_
    split <;> first | exact Uni.pure _ | exact Uni.stuck _
  case nilCheck x =>
    simp only [tame] at ht
    split <;> first
      | exact .inr (Halts.runtimePanic _)
      | exact UniV.pure _
      | (rename_i h; rw [h] at ht; exact absurd ht (by simp))
  case binOp op t x y yt =>
    simp only [tame, Bool.and_eq_true] at ht
    refine Uni.val (Uni.bind ?_ fun _ => Uni.binOp ht.1 ht.2)
    unfold eqGuard
    obtain ⟨h1, h2⟩ := ht
    generalize ρ x = vx at h1 h2 ⊢
    generalize ρ y = vy at h1 h2 ⊢
    cases vx <;> simp only [simple, Bool.false_eq_true] at h1 <;> cases vy <;> simp only [simple, Bool.false_eq_true] at h2 <;> split <;> exact Uni.pure _
  case unOp op t x => exact (Uni.unary ht).val
  case fieldAddr s x f =>
    refine Uni.val ?_
    have hs := hk
    unfold Instr.fieldAt
    cases hu : P.underlying s with
    | none => exact .inr fun w => ⟨_, w, by rw [Sem.run_bind]; simp [Go.underlying, hu]; rfl⟩
    | some d =>
      have hru : ∀ w, (Go.underlying s).run P w = .ok d w := fun w => by simp [Go.underlying, hu]
      have hh : Uni P (match d with
        | .struct fields => (match fields[f]? with
          | some fd => (do let a ← Instr.sureAddr (ρ x); Pure.pure (Value.pointer (some (← fieldPlace a fd))) : Sem Value)
          | _ => Go.stuck "fieldAddr: no such field")
        | _ => Go.stuck "fieldAddr: struct type expected") := by
        cases d <;> try exact Uni.stuck _
        rename_i fs
        simp only [hu] at hs
        dsimp only
        cases hf : fs[f]? with
        | none => exact Uni.stuck _
        | some fd =>
          simp only [hf] at hs
          refine (Uni.sureAddr _).bind fun a => Uni.bind ?_ fun _ => Uni.pure _
          unfold fieldPlace
          cases hi : P.info? fd.type with
          | none => exact .inr fun w => ⟨_, w, by rw [Sem.run_bind]; simp [Go.sizeOf, Go.typeInfo, hi]; rfl⟩
          | some ti =>
            have hz : ti.size ≠ 0 := by simpa [Program.cellsOf, hi] using hs
            exact .inl ⟨a.add fd.offset, fun w => by simp [Go.sizeOf, Go.typeInfo, hi, hz]⟩
      rcases hh with ⟨v, hv⟩ | hv
      · exact .inl ⟨v, fun w => by rw [run_bind_ok (hru w)]; exact hv w⟩
      · exact .inr fun w => by rw [run_bind_ok (hru w)]; exact hv w
  case call c =>
    obtain ⟨callee, args, ats⟩ := c
    cases callee with
    | value _ => exact absurd hk (by simp)
    | invoke _ _ => exact absurd hk (by simp)
    | builtin b =>
      have hb : b = .len ∨ b = .max := by cases b <;> first | exact .inl rfl | exact .inr rfl | exact absurd hk (by simp)
      rcases hb with hb | hb
      case inr =>
        subst hb
        simp only [tame] at ht
        change UniV P (builtin .max ats type (args.map fun | .const _ => true | _ => false) (args.map ρ))
        refine Uni.val ?_
        unfold Builtin.max_
        have h0 : (args.map ρ).toList = args.toList.map ρ := by simp
        rw [h0]
        generalize args.toList = l at ht
        cases l with
        | nil => exact Uni.stuck _
        | cons x l =>
          rw [List.all_cons, Bool.and_eq_true] at ht
          exact max_uni _ _ ht.1 (by rw [List.all_map]; exact ht.2)
      subst hb
      simp only [tame] at ht
      change UniV P (builtin .len ats type (args.map fun | .const _ => true | _ => false) (args.map ρ))
      refine Uni.val ?_
      unfold Builtin.len_
      have h0 : (args.map ρ)[0]? = (args[0]?).map ρ := by simp
      rw [h0]
      cases ha : args[0]? with
      | none => cases ats[0]? <;> exact Uni.stuck _
      | some x =>
        simp only [ha] at ht
        cases ht0 : ats[0]? with
        | none => exact Uni.stuck _
        | some t =>
          dsimp only [Option.map_some]
          refine (Uni.underlying t).bind fun d => ?_
          generalize ρ x = vx at ht ⊢
          cases vx <;> simp only [Bool.false_eq_true] at ht <;>
            repeat' (first | contradiction | exact Uni.pure _ | exact Uni.stuck _ | exact (Uni.underlying _).bind (fun _ => (by split <;> first | exact Uni.pure _ | exact Uni.stuck _)) | split)

theorem tame_of_not_cond {ρ : Operand → Value} {op : Op} (h : cond op = false) : tame ρ op = true := by
  cases op <;> first | rfl | exact absurd h (by simp [cond])
theorem tame_congr {ρ ρ' : Operand → Value} {op : Op} (h : ∀ x ∈ op.operands, ρ x = ρ' x) : tame ρ op = tame ρ' op := by
  cases op <;> try rfl
  case nilCheck x => simp only [tame, h x (by simp [Op.operands])]
  case binOp o t x y yt => simp only [tame, h x (by simp [Op.operands]), h y (by simp [Op.operands])]
  case unOp o t x => simp only [tame, h x (by simp [Op.operands])]
  case call c =>
    obtain ⟨callee, args, ats⟩ := c
    cases callee <;> try rfl
    rename_i b
    cases b <;> try rfl
    case max =>
      simp only [tame]
      have h0 : ∀ x ∈ args.toList, ρ x = ρ' x := fun x hx => h x (by
        simp only [Op.operands, Call.operands, Array.empty_append]
        exact Array.mem_def.2 hx)
      rw [Bool.eq_iff_iff, List.all_eq_true, List.all_eq_true]
      exact ⟨fun hh x hx => by rw [← h0 x hx]; exact hh x hx, fun hh x hx => by rw [h0 x hx]; exact hh x hx⟩
    simp only [tame]
    cases ha : args[0]? with
    | none => rfl
    | some x => simp only [h x (by
        simp only [Op.operands, Call.operands, Array.empty_append]
        exact Array.mem_of_getElem? ha)]

/-! ### Loads, and what makes memory -/
def LoadSt {α : Type} (P : Program) (e : Sem α) : Prop := ∀ w v w1, e.run P w = .ok v w1 → w1 = w ∧ ∀ w', Ext w w' → e.run P w' = .ok v w'
theorem LoadSt.of_uni {α : Type} {e : Sem α} (h : Uni P e) (hw : ∀ w v w1, e.run P w = .ok v w1 → w1 = w) : LoadSt P e := fun w v w1 hr => by
  refine ⟨hw w v w1 hr, fun w' _ => ?_⟩
  rcases h with ⟨u, hu⟩ | hh
  · rw [hu w] at hr; injection hr with h1 _; subst h1; exact hu w'
  · obtain ⟨x, w2, hx⟩ := hh w; rw [hx] at hr; cases hr
theorem LoadSt.bind {α β : Type} {e : Sem α} {f : α → Sem β} (h : LoadSt P e) (hf : ∀ v, LoadSt P (f v)) : LoadSt P (e >>= f) := fun w v w1 hr => by
  cases he : e.run P w with
  | ok u w2 =>
    rw [run_bind_ok he] at hr
    obtain ⟨rfl, h1⟩ := h w u w2 he
    obtain ⟨rfl, h2⟩ := hf u _ v w1 hr
    exact ⟨rfl, fun w' hx => by rw [run_bind_ok (h1 w' hx)]; exact h2 w' hx⟩
  | halt x w2 => rw [run_bind_halt he] at hr; cases hr
theorem LoadSt.pure {α : Type} (v : α) : LoadSt P (Pure.pure v : Sem α) := fun w u w1 h => by
  simp only [Sem.run_pure, Result.ok.injEq] at h
  obtain ⟨rfl, rfl⟩ := h
  exact ⟨rfl, fun _ _ => rfl⟩
theorem LoadSt.halt {α : Type} (h : Halt) : LoadSt P (Sem.halt h : Sem α) := fun w u w1 hr => by cases hr
theorem LoadSt.typeInfo (t : TypeId) : LoadSt P (Go.typeInfo t) := .of_uni (Uni.typeInfo t) fun w v w1 h => by
  unfold Go.typeInfo at h; simp only [Sem.run_bind, run_program, Result.andThen_ok] at h; split at h <;> simp at h; exact h.2.symm
theorem LoadSt.underlying (t : TypeId) : LoadSt P (Go.underlying t) := .of_uni (Uni.underlying t) fun w v w1 h => by
  unfold Go.underlying at h; simp only [Sem.run_bind, run_program, Result.andThen_ok] at h; split at h <;> simp at h; exact h.2.symm
theorem LoadSt.load (a : Addr) : LoadSt P (Go.load a) := fun w v w1 hr => by
  have key : ∀ w', Ext w w' → ∀ u, w.cell? a = some u → w'.cell? a = some u := by
    intro w' hx u hu
    unfold World.cell? at hu ⊢
    cases hb : w.heap[a.block]? with
    | none => rw [hb] at hu; cases hu
    | some o => rw [hb] at hu; rw [hx _ _ hb]; exact hu
  simp only [Go.load, Sem.run] at hr ⊢
  cases hc : w.cell? a with
  | some u =>
    simp only [hc, Result.ok.injEq] at hr
    obtain ⟨rfl, rfl⟩ := hr
    exact ⟨rfl, fun w' hx => by simp only [key w' hx _ hc]⟩
  | none =>
    simp only [hc] at hr
    cases hb : w.heap[a.block]? with
    | none => simp only [World.farLoad, hb] at hr; cases hr
    | some o =>
      cases o with
      | view at_ u =>
        cases hs : w.heap[at_.block]? with
        | none =>
          have hbad : ∃ s, w.viewLoad P at_ u a (Mode.plain == Mode.atomic) = .error s := by
            cases hv : w.viewLoad P at_ u a (Mode.plain == Mode.atomic) with
            | error s => exact ⟨s, rfl⟩
            | ok r =>
              exfalso
              cases hse : w.seen P at_ u a (Mode.plain == Mode.atomic) with
              | error s => simp [World.viewLoad, hse, Bind.bind, Except.bind] at hv
              | ok r =>
                unfold World.seen at hse
                simp only [hs] at hse
                simp only [Bind.bind, Except.bind, MonadExcept.throw, throwThe, MonadExceptOf.throw] at hse
                repeat' (first | contradiction | (split at hse))
          obtain ⟨s, hbad⟩ := hbad
          simp only [World.farLoad, hb, hbad] at hr
          cases hr
        | some o2 =>
          have hfar : ∀ w', Ext w w' → w'.farLoad P a (Mode.plain == Mode.atomic) = w.farLoad P a (Mode.plain == Mode.atomic) := by
            intro w' hx
            have hseen : w'.seen P at_ u a (Mode.plain == Mode.atomic) = w.seen P at_ u a (Mode.plain == Mode.atomic) := by
              unfold World.seen; rw [hs, hx _ _ hs]
            simp only [World.farLoad, hb, hx _ _ hb, World.viewLoad, hseen]
          have hnone : ∀ w', Ext w w' → w'.cell? a = none := fun w' hx => by simp only [World.cell?, hx _ _ hb]
          cases hf : w.farLoad P a (Mode.plain == Mode.atomic) with
          | error x => rw [hf] at hr; cases hr
          | ok r =>
            rw [hf] at hr
            obtain ⟨v', l⟩ := r
            simp only [Result.ok.injEq] at hr
            obtain ⟨rfl, rfl⟩ := hr
            exact ⟨rfl, fun w' hx => by simp only [hnone w' hx, hfar w' hx, hf]⟩
      | _ => simp only [World.farLoad, hb] at hr; cases hr
theorem LoadSt.loadCellsFrom (a : Addr) : ∀ (n i : Nat) (acc : Array Value), LoadSt P (Go.loadCellsFrom a i n acc)
  | 0, _, _ => LoadSt.pure _
  | n + 1, i, _ => (LoadSt.load _).bind fun _ => LoadSt.loadCellsFrom a n (i + 1) _
theorem LoadSt.loadVar (t : TypeId) (a : Addr) : LoadSt P (Go.loadVar t a) := by
  unfold Go.loadVar Go.isAgg
  refine LoadSt.bind ((LoadSt.underlying t).bind fun d => by cases d <;> exact LoadSt.pure _) fun b => ?_
  split
  · exact ((LoadSt.typeInfo t).bind fun _ => LoadSt.pure _).bind fun _ => (LoadSt.loadCellsFrom _ _ _ _).bind fun _ => LoadSt.pure _
  · exact LoadSt.load _
theorem LoadSt.loadAt (t : TypeId) (v : Value) : LoadSt P (Instr.loadAt t v) := by
  unfold Instr.loadAt Instr.sureAddr
  refine LoadSt.bind ?_ fun _ => LoadSt.loadVar _ _
  split
  · exact LoadSt.pure _
  · exact LoadSt.halt _

def isLoad : Op → Bool | .load .. => true | _ => false
def isAlloc : Op → Bool | .alloc _ | .box .. | .buildSlice .. => true | _ => false

theorem load_eff {o : Oper} (h : isLoad o.op = true) {a : Act} {w w1 : World} {n : Next} (he : eff P ops o a w = .ok n w1) :
    w1 = w ∧ (∃ v, n = .value v) ∧ ∀ w', Ext w w' → eff P ops o a w' = .ok n w' := by
  unfold eff at he ⊢
  split at he
  · rename_i hw
    obtain ⟨dst, op, type, pos, after, guard⟩ := o
    cases op <;> simp only [isLoad, Bool.false_eq_true] at h
    rename_i t x
    simp only [if_pos hw]
    have hst : LoadSt P (do Pure.pure (Next.value (← Instr.loadAt t (a.eval x))) : Sem Next) := (LoadSt.loadAt t _).bind fun _ => LoadSt.pure _
    obtain ⟨h1, h2⟩ := hst w n w1 he
    refine ⟨h1, ?_, h2⟩
    simp only [execOp, Sem.run_bind] at he
    cases hr : (Instr.loadAt t (a.eval x)).run P w with
    | ok v w2 => rw [hr] at he; simp at he; exact ⟨v, he.1.symm⟩
    | halt x w2 => rw [hr] at he; cases he
  · rename_i hw
    simp only [Result.ok.injEq] at he
    obtain ⟨rfl, rfl⟩ := he
    exact ⟨rfl, ⟨_, rfl⟩, fun w' _ => by rw [if_neg hw]⟩

/-- Makes memory, and does nothing else. -/
def AllocSt {α : Type} (P : Program) (e : Sem α) : Prop := ∀ w v w1, e.run P w = .ok v w1 → Ext w w1
theorem AllocSt.bind {α β : Type} {e : Sem α} {f : α → Sem β} (h : AllocSt P e) (hf : ∀ v, AllocSt P (f v)) : AllocSt P (e >>= f) := fun w v w1 hr => by
  cases he : e.run P w with
  | ok u w2 => rw [run_bind_ok he] at hr; exact fun k o hk => hf u w2 v w1 hr k o (h w u w2 he k o hk)
  | halt x w2 => rw [run_bind_halt he] at hr; cases hr
theorem AllocSt.of_load {α : Type} {e : Sem α} (h : LoadSt P e) : AllocSt P e := fun w v w1 hr => by rw [(h w v w1 hr).1]; exact Ext.refl w
theorem AllocSt.pure {α : Type} (v : α) : AllocSt P (Pure.pure v : Sem α) := .of_load (LoadSt.pure v)
theorem AllocSt.halt {α : Type} (h : Halt) : AllocSt P (Sem.halt h : Sem α) := .of_load (LoadSt.halt h)
theorem AllocSt.newVar (t : TypeId) (v : Value) : AllocSt P (Go.newVar t v) := fun w u w1 hr => by
  simp only [Go.newVar, Go.newRow, Sem.run_bind, run_newObj, Result.andThen_ok, Sem.run_pure, Result.ok.injEq] at hr
  rw [← hr.2]; exact Ext.push w _
theorem AllocSt.newRow (t : TypeId) (v : Array Value) : AllocSt P (Go.newRow t v) := fun w u w1 hr => by
  simp only [Go.newRow, Sem.run_bind, run_newObj, Result.andThen_ok, Sem.run_pure, Result.ok.injEq] at hr
  rw [← hr.2]; exact Ext.push w _
theorem AllocSt.zeroValue (t : TypeId) : AllocSt P (Go.zeroValue t) := by
  unfold Go.zeroValue
  refine (AllocSt.of_load (LoadSt.typeInfo t)).bind fun i => ?_
  split <;> first | exact AllocSt.pure _ | exact AllocSt.halt _
theorem AllocSt.sizeOf (t : TypeId) : AllocSt P (Go.sizeOf t) := (AllocSt.of_load (LoadSt.typeInfo t)).bind fun _ => AllocSt.pure _
theorem AllocSt.alloc (t : TypeId) : AllocSt P (Instr.alloc t true (.tuple #[])) := by
  unfold Instr.alloc
  exact (AllocSt.zeroValue t).bind fun z => (AllocSt.newVar t z).bind fun _ => AllocSt.pure _
theorem AllocSt.box (t : TypeId) (v : Value) : AllocSt P (Instr.box t v) := (AllocSt.newVar t v).bind fun _ => AllocSt.pure _
theorem AllocSt.buildSlice (t : TypeId) (n : Nat) (ps : Array (Nat × Value)) : AllocSt P (Instr.buildSlice t n ps) := by
  unfold Instr.buildSlice
  refine (AllocSt.of_load (LoadSt.underlying t)).bind fun d => ?_
  split
  · refine (AllocSt.sizeOf _).bind fun z => ?_
    have tail : ∀ (zero : Array Value) (elem : TypeId), AllocSt P (match
            Instr.fill (fun i => some (i * z, z)) (Array.map (fun x => zero[x % zero.size]!) (Array.range (n * z))) ps.toList with
          | some cells => do
            let l ← Go.newRow elem cells
            Pure.pure (Value.slice (some l) n n)
          | _ => stuck "buildSlice: a part of the wrong size") := by
      intro zero elem
      split
      · exact (AllocSt.newRow _ _).bind fun _ => AllocSt.pure _
      · exact AllocSt.halt _
    have rest : ∀ (elem : TypeId), AllocSt P (if n * z = 0 then do
          let zero ← Pure.pure #[]
          match Instr.fill (fun i => some (i * z, z)) (Array.map (fun x => zero[x % zero.size]!) (Array.range (n * z))) ps.toList with
            | some cells => do
              let l ← Go.newRow elem cells
              Pure.pure (Value.slice (some l) n n)
            | _ => stuck "buildSlice: a part of the wrong size"
        else do
          let u ← Go.zeroValue elem
          let zero ← Pure.pure u.cells
          match Instr.fill (fun i => some (i * z, z)) (Array.map (fun x => zero[x % zero.size]!) (Array.range (n * z))) ps.toList with
            | some cells => do
              let l ← Go.newRow elem cells
              Pure.pure (Value.slice (some l) n n)
            | _ => stuck "buildSlice: a part of the wrong size") := by
      intro elem
      split
      · exact (AllocSt.pure _).bind fun u => tail u _
      · exact (AllocSt.zeroValue _).bind fun u => (AllocSt.pure _).bind fun u => tail u _
    dsimp only
    split
    · exact (AllocSt.halt _).bind fun _ => rest _
    · exact rest _
  · exact AllocSt.halt _
theorem alloc_eff {o : Oper} (h : isAlloc o.op = true) {a : Act} {w w1 : World} {n : Next} (he : eff P ops o a w = .ok n w1) :
    (∃ v, n = .value v) ∧ Ext w w1 := by
  unfold eff at he
  split at he
  · have key : ∀ (e : Sem Value), AllocSt P e → (do Pure.pure (Next.value (← e)) : Sem Next).run P w = .ok n w1 → (∃ v, n = .value v) ∧ Ext w w1 := by
      intro e hst he
      refine ⟨?_, (hst.bind fun _ => AllocSt.pure _) w n w1 he⟩
      simp only [Sem.run_bind] at he
      cases hr : e.run P w with
      | ok v w2 => rw [hr] at he; simp at he; exact ⟨v, he.1.symm⟩
      | halt x w2 => rw [hr] at he; cases he
    obtain ⟨dst, op, type, pos, after, guard⟩ := o
    cases op <;> simp only [isAlloc, Bool.false_eq_true] at h
    case alloc => exact key _ (AllocSt.alloc _) he
    case box => exact key _ (AllocSt.box _ _) he
    case buildSlice => exact key _ (AllocSt.buildSlice _ _ _) he
  · simp only [Result.ok.injEq] at he
    obtain ⟨rfl, rfl⟩ := he
    exact ⟨⟨_, rfl⟩, Ext.refl _⟩

/-! ### Two operations that no edge holds may be exchanged -/
def notSelect : Op → Bool | .select .. => false | _ => true
theorem notSelect_spec {op : Op} (h : notSelect op = true) (cs : Array SelectCase) (b : Bool) : op ≠ .select cs b := by rintro rfl; exact absurd h (by simp [notSelect])
def okPair (P : Program) (ops : Array Oper) (oj oi : Oper) : Bool :=
  oj.apart ops oi && notSelect oj.op && notSelect oi.op && (kp P oj.op || kp P oi.op || (isLoad oj.op && (isLoad oi.op || isAlloc oi.op)))

theorem eff_uni {o : Oper} {a : Act} (hk : kp P o.op = true) (ht : tame a.eval o.op = true) :
    (∃ v, ∀ w, eff P ops o a w = .ok (.value v) w) ∨ (∀ w, ∃ x w', eff P ops o a w = .halt x w') := by
  by_cases hw : Region.wanted o (yielded ops a.tmps) = true
  · rcases uni_of hk ht with ⟨v, hv⟩ | hh
    · exact .inl ⟨v, fun w => by unfold eff; rw [if_pos hw]; exact hv w⟩
    · exact .inr fun w => by unfold eff; rw [if_pos hw]; exact hh w
  · exact .inl ⟨undef, fun w => by unfold eff; rw [if_neg hw]⟩
theorem not_upon_halt {o : Oper} {a : Act} {K : Act → World → Prop} {x : Halt} {w : World} (h : o.upon P a K (NQ F) (.halt x w)) : False := by
  cases x <;> simp only [Oper.upon] at h <;> exact h

theorem comm {i j : Nat} {oi oj : Oper} (hi : ops[i]? = some oi) (hj : ops[j]? = some oj) (hp : okPair P ops oj oi = true) {a : Act} {w : World} {K : Act → World → Prop}
    (tj : tame a.eval oj.op = true) (ti : tame a.eval oi.op = true)
    (h : wpOp P ops (NQ F) j (wpOp P ops (NQ F) i K) a w) : wpOp P ops (NQ F) i (wpOp P ops (NQ F) j K) a w := by
  simp only [okPair, Bool.and_eq_true, Bool.or_eq_true] at hp
  obtain ⟨⟨⟨hap, hsj⟩, hsi⟩, hkind⟩ := hp
  obtain ⟨A1, A2, A3⟩ := Oper.apart_spec hap
  have sj := notSelect_spec hsj
  have si := notSelect_spec hsi
  rw [wpOp_iff hj] at h
  rw [wpOp_iff hi]
  rcases hkind with (hk | hk) | ⟨hl, hal⟩
  · rcases eff_uni (ops := ops) hk tj with ⟨vj, hv⟩ | hh
    · rw [hv w] at h
      have h' : wpOp P ops (NQ F) i K (a.put oj.dst vj) w := h
      rw [wpOp_iff hi, eff_put si a w vj A1] at h'
      refine upon_mono ?_ (upon_keep (Y := fun b => ∀ w, eff P ops oj b w = .ok (.value vj) w) hv (fun b u hb w => (eff_put sj b w u A3).trans (hb w)) (fun b d hb w => hb w) (upon_unput A2 h'))
      rintro a' w' ⟨hy, hK⟩
      rw [wpOp_iff hj, hy w']
      exact hK
    · obtain ⟨x, w', hx⟩ := hh w
      rw [hx] at h
      exact (not_upon_halt h).elim
  · rcases eff_uni (ops := ops) hk ti with ⟨vi, hv⟩ | hh
    · rw [hv w]
      show wpOp P ops (NQ F) j K (a.put oi.dst vi) w
      rw [wpOp_iff hj, eff_put sj a w vi A3]
      refine upon_put (fun e he hne => A2 e hne he) ?_
      refine upon_mono ?_ (upon_keep (Y := fun b => ∀ w, eff P ops oi b w = .ok (.value vi) w) hv (fun b u hb w => (eff_put si b w u A1).trans (hb w)) (fun b d hb w => hb w) h)
      rintro a' w' ⟨hy, hK⟩
      rw [wpOp_iff hi, hy w'] at hK
      exact hK
    · obtain ⟨a', w', ⟨hy, hK⟩, _⟩ := upon_some (upon_keep (Y := fun b => ∀ w, ∃ x w', eff P ops oi b w = .halt x w') hh (fun b u hb w => by rw [eff_put si b w u A1]; exact hb w) (fun b d hb w => hb w) h)
      rw [wpOp_iff hi] at hK
      obtain ⟨x, w2, hx⟩ := hy w'
      rw [hx] at hK
      exact (not_upon_halt hK).elim
  · cases hej : eff P ops oj a w with
    | halt x w' => rw [hej] at h; exact (not_upon_halt h).elim
    | ok n w1 =>
      obtain ⟨rfl, ⟨vj, rfl⟩, hst⟩ := load_eff hl hej
      rw [hej] at h
      have h' : wpOp P ops (NQ F) i K (a.put oj.dst vj) w1 := h
      rw [wpOp_iff hi, eff_put si a w1 vj A1] at h'
      cases hei : eff P ops oi a w1 with
      | halt x w' => rw [hei] at h'; exact (not_upon_halt h').elim
      | ok n2 w2 =>
        have hn : (∃ v, n2 = .value v) ∧ Ext w1 w2 := by
          rcases hal with hl2 | ha2
          · obtain ⟨rfl, hv, _⟩ := load_eff hl2 hei; exact ⟨hv, Ext.refl _⟩
          · exact alloc_eff ha2 hei
        obtain ⟨⟨vi, rfl⟩, hx⟩ := hn
        rw [hei] at h'
        have h2 : K ((a.put oj.dst vj).put oi.dst vi) w2 := h'
        show wpOp P ops (NQ F) j K (a.put oi.dst vi) w2
        rw [wpOp_iff hj, eff_put sj a w2 vi A3, hst w2 hx]
        show K ((a.put oi.dst vi).put oj.dst vj) w2
        rw [← Act.put_comm a vj vi A2]
        exact h2

/-! ### The check, and the theorem -/
def pre (ops : Array Oper) (x k : Nat) : Bool := ((Region.before ops).getD x 0).testBit k
def tames (ops : Array Oper) (a : Act) : Bool := ops.all fun o => tame a.eval o.op
def okB (m : Nat) (P : Program) (ops : Array Oper) : Bool :=
  (List.range ops.size).all fun i => match ops[i]? with
    | none => true
    | some oi =>
      (oi.after.all fun e => !Region.binds .any e || decide (e.on < i)) &&
      ((List.range ops.size).all fun k => !pre ops i k || (decide (k < i) && oi.after.any fun e => Region.binds .any e && (e.on == k || pre ops e.on k))) &&
      ((List.range ops.size).all fun j => decide (m ≤ i) || !decide (j < i) || pre ops i j || match ops[j]? with | some oj => okPair P ops oj oi | none => true) &&
      (!cond oi.op || (List.range ops.size).all fun k => match ops[k]? with
        | some ok => (match ok.dst with | some d => !(oi.looksAt ops).contains d || pre ops i k | none => true)
        | none => true)

structure Ok (m : Nat) (P : Program) (ops : Array Oper) : Prop where
  edges : ∀ i oi, ops[i]? = some oi → ∀ e ∈ oi.after, Region.binds .any e = true → e.on < i
  clos : ∀ i oi, ops[i]? = some oi → ∀ k, k < ops.size → pre ops i k = true → k < i ∧ ∃ e ∈ oi.after, Region.binds .any e = true ∧ (e.on = k ∨ pre ops e.on k = true)
  pairs : ∀ i oi, ops[i]? = some oi → i < m → ∀ j oj, ops[j]? = some oj → j < i → pre ops i j = false → okPair P ops oj oi = true
  writes : ∀ i oi, ops[i]? = some oi → cond oi.op = true → ∀ k ok d, ops[k]? = some ok → ok.dst = some d → d ∈ oi.looksAt ops → pre ops i k = true
theorem lt_of_get {i : Nat} {o : Oper} (h : ops[i]? = some o) : i < ops.size := (Array.getElem?_eq_some_iff.1 h).1
theorem ok_of {m : Nat} (h : okB m P ops = true) : Ok m P ops := by
  unfold okB at h
  simp only [List.all_eq_true, List.mem_range] at h
  refine ⟨?_, ?_, ?_, ?_⟩
  · intro i oi hi e he hb
    have := h i (lt_of_get hi)
    simp only [hi, Bool.and_eq_true, Array.all_eq_true_iff_forall_mem, Bool.or_eq_true, Bool.not_eq_true', decide_eq_true_eq] at this
    exact (this.1.1.1 e he).resolve_left (by simp [hb])
  · intro i oi hi k hk hp
    have := h i (lt_of_get hi)
    simp only [hi, Bool.and_eq_true] at this
    have h2 := List.all_eq_true.1 this.1.1.2 k (List.mem_range.2 hk)
    simp only [hp, Bool.not_true, Bool.false_or, Bool.and_eq_true, decide_eq_true_eq, Array.any_eq_true', Bool.or_eq_true, beq_iff_eq] at h2
    obtain ⟨h3, e, he, h4, h5⟩ := h2
    exact ⟨h3, e, he, h4, h5⟩
  · intro i oi hi him j oj hj hlt hp
    have hnm : ¬ m ≤ i := Nat.not_le.2 him
    have := h i (lt_of_get hi)
    simp only [hi, Bool.and_eq_true] at this
    have h2 := List.all_eq_true.1 this.1.2 j (List.mem_range.2 (lt_of_get hj))
    simpa [hj, hlt, hp, hnm] using h2
  · intro i oi hi hc k ok d hk hd hm
    have := h i (lt_of_get hi)
    simp only [hi, Bool.and_eq_true] at this
    have h2 := this.2
    simp only [hc, Bool.not_true, Bool.false_or] at h2
    have h3 := List.all_eq_true.1 h2 k (List.mem_range.2 (lt_of_get hk))
    simpa [hk, hd, hm] using h3

theorem tame_now {m : Nat} (hok : Ok m P ops) {x : Nat} {ox : Oper} (hx : ops[x]? = some ox) {R : List Nat} {a : Act} {w : World} {Q : Act → World → Prop}
    (hR : ∀ k ∈ R, k < ops.size → pre ops x k = false) (h : wpOps P ops (NQ fun a' w' => tames ops a' = true ∧ Q a' w') R a w) : tame a.eval ox.op = true := by
  cases hc : cond ox.op with
  | false => exact tame_of_not_cond hc
  | true =>
    obtain ⟨a', w', ⟨ht, _⟩, hkeep⟩ := fin_of h
    have h1 : tame a'.eval ox.op = true := by
      unfold tames at ht
      rw [Array.all_eq_true_iff_forall_mem] at ht
      exact ht ox (Array.mem_of_getElem? hx)
    rw [← h1]
    refine tame_congr fun o ho => ?_
    cases o with
    | tmp t =>
      have hl : t ∈ ox.looksAt ops := List.mem_append_left _ (List.mem_filterMap.2 ⟨.tmp t, by simpa using ho, rfl⟩)
      exact (hkeep t fun k hk ok hok' hd => by
        have h2 := hok.writes x ox hx hc k ok t hok' hd hl
        rw [hR k hk (lt_of_get hok')] at h2
        cases h2).symm
    | _ => rfl

theorem front {m : Nat} (hok : Ok m P ops) {i : Nat} {oi : Oper} (him : i < m) (hi : ops[i]? = some oi) {Q : Act → World → Prop} {l2 : List Nat} : ∀ (l1 : List Nat) (D : Nat → Prop) (a : Act) (w : World),
    (∀ x ∈ l1 ++ i :: l2, x < ops.size ∧ ¬ D x) → (l1 ++ i :: l2).Nodup → (∀ j ∈ l1, j < i) →
    (∀ p j q, l1 = p ++ j :: q → ∀ k, k < ops.size → pre ops j k = true → D k ∨ k ∈ p) → (∀ k, k < ops.size → pre ops i k = true → D k) →
    wpOps P ops (NQ fun a' w' => tames ops a' = true ∧ Q a' w') (l1 ++ i :: l2) a w →
    wpOp P ops (NQ fun a' w' => tames ops a' = true ∧ Q a' w') i (wpOps P ops (NQ fun a' w' => tames ops a' = true ∧ Q a' w') (l1 ++ l2)) a w := by
  intro l1
  induction l1 with
  | nil => intro D a w _ _ _ _ _ h; rw [List.nil_append, wpOps_cons] at h; exact h
  | cons j l1 ih =>
    intro D a w hD hnd hlt hcl hpi h
    have hjD := hD j (by simp)
    obtain ⟨oj, hj⟩ : ∃ oj, ops[j]? = some oj := ⟨_, Array.getElem?_eq_getElem hjD.1⟩
    have hji : j < i := hlt j (by simp)
    have hprej : pre ops i j = false := by
      cases hp : pre ops i j with
      | false => rfl
      | true => exact absurd (hpi j hjD.1 hp) hjD.2
    have tj : tame a.eval oj.op = true := tame_now hok hj (R := j :: l1 ++ i :: l2) (fun k hk hks => by
      cases hp : pre ops j k with
      | false => rfl
      | true =>
        rcases hcl [] j l1 rfl k hks hp with h1 | h1
        · exact absurd h1 (hD k hk).2
        · cases h1) h
    have ti : tame a.eval oi.op = true := tame_now hok hi (R := j :: l1 ++ i :: l2) (fun k hk hks => by
      cases hp : pre ops i k with
      | false => rfl
      | true => exact absurd (hpi k hks hp) (hD k hk).2) h
    have hnd' : j ∉ l1 ++ i :: l2 ∧ (l1 ++ i :: l2).Nodup := by simpa using hnd
    rw [List.cons_append, wpOps_cons] at h
    rw [List.cons_append]
    refine wpOp_mono (fun a' w' h' => (by rw [wpOps_cons]; exact h')) (comm hi hj (hok.pairs i oi hi him j oj hj hji hprej) tj ti (wpOp_mono (fun a' w' h' => ?_) h))
    refine ih (fun k => D k ∨ k = j) a' w' (fun x hx => ⟨(hD x (List.mem_cons_of_mem _ hx)).1, ?_⟩) hnd'.2 (fun k hk => hlt k (List.mem_cons_of_mem _ hk)) ?_ (fun k hk hp => .inl (hpi k hk hp)) h'
    · rintro (h1 | h1)
      · exact (hD x (List.mem_cons_of_mem _ hx)).2 h1
      · exact hnd'.1 (h1 ▸ hx)
    · intro p y q he k hk hp
      rcases hcl (j :: p) y q (by rw [he]; rfl) k hk hp with h1 | h1
      · exact .inl (.inl h1)
      · rcases List.mem_cons.1 h1 with h2 | h2
        · exact .inl (.inr h2)
        · exact .inr h2

/-- What has not come up yet, in the order of the text. -/
def rem (n : Nat) (listed : Array Bool) : List Nat := (List.range n).filter fun i => !listed.getD i true
theorem mem_rem {n : Nat} {listed : Array Bool} {i : Nat} : i ∈ rem n listed ↔ i < n ∧ listed.getD i true = false := by simp [rem]
theorem rem_sorted (n : Nat) (listed : Array Bool) : (rem n listed).Pairwise (· < ·) := List.Pairwise.filter _ List.pairwise_lt_range
theorem rem_set {n : Nat} {listed : Array Bool} {i : Nat} {l1 l2 : List Nat} (hsz : n ≤ listed.size) (h : rem n listed = l1 ++ i :: l2) : rem n (listed.setIfInBounds i true) = l1 ++ l2 := by
  have hs := rem_sorted n listed
  have hi : i < n ∧ listed.getD i true = false := mem_rem.1 (by rw [h]; simp)
  have h1 : rem n (listed.setIfInBounds i true) = (rem n listed).filter (fun k => k != i) := by
    unfold rem
    rw [List.filter_filter]
    refine List.filter_congr fun k hk => ?_
    by_cases hki : i = k
    · subst hki; have : i < listed.size := by omega
      simp [this]
    · rw [getD_set_ne true hki]; simp [Ne.symm hki]
  rw [h1, h, List.filter_append, List.filter_cons]
  rw [h, List.pairwise_append] at hs
  obtain ⟨hs1, hs2, hs3⟩ := hs
  rw [List.pairwise_cons] at hs2
  rw [List.filter_eq_self.2 (fun k hk => by have := hs3 k hk i (by simp); simp; omega), List.filter_eq_self.2 (fun k hk => by have := hs2.1 k hk; simp; omega)]
  simp

theorem wpOp_toQ {i : Nat} {Q : Exit → Act → World → Prop} {K K' : Act → World → Prop} {a : Act} {w : World} (hK : ∀ a w, K a w → K' a w)
    (h : wpOp P ops (NQ F) i K a w) : wpOp P ops Q i K' a w := by
  unfold wpOp at *
  split
  · exact hK _ _ (by simpa [*] using h)
  · rename_i o ho
    simp only [ho] at h
    split
    · rename_i hw
      simp only [hw, if_true] at h
      refine .inl ?_
      have h := h.resolve_right (fun h => not_letsOut h.2)
      unfold Oper.wp at *
      generalize (execOp a.eval o).run P w = r at *
      cases r with
      | ok n w' =>
        cases n <;> simp only [Oper.upon] at h ⊢ <;>
          first
            | exact hK _ _ h
            | exact Calls.mono h (fun e w'' he => by cases e <;> first | exact hK _ _ he | exact he.elim | exact (not_letsOut he).elim)
            | exact Rows.mono h (fun _ _ he => hK _ _ he)
      | halt x w' => cases x <;> simp only [Oper.upon] at h ⊢ <;> exact h.elim
    · rename_i hw; simp only [hw] at h; exact hK _ _ h

theorem core (hok : Ok ops.size P ops) {Q : Exit → Act → World → Prop} : ∀ (fuel : Nat) (listed : Array Bool) (a : Act) (w : World), listed.size = ops.size →
    (∀ x, x < ops.size → listed.getD x true = true → ∀ k, k < ops.size → pre ops x k = true → listed.getD k true = true) → (rem ops.size listed).length = fuel →
    wpOps P ops (NQ fun a' w' => tames ops a' = true ∧ Q .normal a' w') (rem ops.size listed) a w → wpAny P .any ops Q fuel listed a w := by
  intro fuel
  induction fuel with
  | zero =>
    intro listed a w hsz hcl hf h
    have hnil : rem ops.size listed = [] := List.eq_nil_of_length_eq_zero hf
    rw [hnil] at h
    refine ⟨?_, h.2⟩
    cases hr : Region.ready .any ops listed with
    | nil => rfl
    | cons x xs =>
      have hx : x ∈ Region.ready .any ops listed := by rw [hr]; simp
      obtain ⟨h0, o, ho, _⟩ := mem_ready.1 hx
      have : x ∈ rem ops.size listed := mem_rem.2 ⟨lt_of_get ho, h0⟩
      rw [hnil] at this
      cases this
  | succ fuel ih =>
    intro listed a w hsz hcl hf h
    refine ⟨fun hr => ?_, fun i hi => ?_⟩
    · exfalso
      cases hrem : rem ops.size listed with
      | nil => rw [hrem] at hf; cases hf
      | cons x xs =>
        have hx := mem_rem.1 (show x ∈ rem ops.size listed by rw [hrem]; simp)
        obtain ⟨ox, hox⟩ : ∃ ox, ops[x]? = some ox := ⟨_, Array.getElem?_eq_getElem hx.1⟩
        have hs := rem_sorted ops.size listed
        rw [hrem, List.pairwise_cons] at hs
        have : x ∈ Region.ready .any ops listed := mem_ready.2 ⟨hx.2, ox, hox, fun e he hb => by
          have hlt := hok.edges x ox hox e he hb
          cases hl : listed.getD e.on true with
          | true =>
            have hin : e.on < listed.size := by rw [hsz]; omega
            simpa [hin] using hl
          | false =>
            have hm : e.on ∈ rem ops.size listed := mem_rem.2 ⟨by omega, hl⟩
            rw [hrem] at hm
            rcases List.mem_cons.1 hm with h1 | h1
            · omega
            · have := hs.1 _ h1; omega⟩
        rw [hr] at this
        cases this
    · obtain ⟨h0, oi, hoi, hall⟩ := mem_ready.1 hi
      have him : i ∈ rem ops.size listed := mem_rem.2 ⟨lt_of_get hoi, h0⟩
      obtain ⟨l1, l2, hl⟩ := List.append_of_mem him
      have hs := rem_sorted ops.size listed
      have hgd : ∀ k, listed.getD k false = true → listed.getD k true = true := by
        intro k hk
        rcases Nat.lt_or_ge k listed.size with h' | h'
        · simp [h'] at hk ⊢; exact hk
        · simp [Array.getElem?_eq_none h'] at hk
      have hprei : ∀ k, k < ops.size → pre ops i k = true → listed.getD k true = true := by
        intro k hk hp
        obtain ⟨_, e, he, hb, h2⟩ := hok.clos i oi hoi k hk hp
        have h3 := hall e he hb
        rcases h2 with rfl | h2
        · exact hgd _ h3
        · exact hcl e.on (by have := hok.edges i oi hoi e he hb; have := lt_of_get hoi; omega) (hgd _ h3) k hk h2
      have hfr := front hok (lt_of_get hoi) hoi (Q := Q .normal) (l2 := l2) l1 (fun k => listed.getD k true = true) a w
        (fun x hx => by rw [← hl] at hx; have := mem_rem.1 hx; exact ⟨this.1, by rw [this.2]; simp⟩)
        (by rw [← hl]; exact hs.imp (fun h => Nat.ne_of_lt h))
        (fun j hj => by rw [hl, List.pairwise_append] at hs; exact hs.2.2 j hj i (by simp))
        (fun p j q he k hk hp => by
          have hj : j ∈ rem ops.size listed := by rw [hl, he]; simp
          obtain ⟨oj, hoj⟩ : ∃ oj, ops[j]? = some oj := ⟨_, Array.getElem?_eq_getElem (mem_rem.1 hj).1⟩
          have hkj := (hok.clos j oj hoj k hk hp).1
          cases hlk : listed.getD k true with
          | true => exact .inl rfl
          | false =>
            right
            have hm : k ∈ rem ops.size listed := mem_rem.2 ⟨hk, hlk⟩
            rw [hl, he] at hm hs
            simp only [List.append_assoc, List.cons_append, List.mem_append, List.mem_cons] at hm
            rw [List.append_assoc, List.pairwise_append] at hs
            have hs2 := hs.2.1
            rw [List.cons_append, List.pairwise_cons] at hs2
            rcases hm with h1 | h1
            · exact h1
            · rcases h1 with h1 | h1
              · omega
              · have := hs2.1 k (by simp only [List.mem_append, List.mem_cons]; exact h1); omega)
        hprei (by rw [← hl]; exact h)
      refine wpOp_toQ (fun a' w' h' => ih (listed.setIfInBounds i true) a' w' (by simp [hsz]) ?_ ?_ ?_) hfr
      · intro x hx hxl k hk hp
        by_cases hik : i = k
        · subst hik; have := lt_of_get hoi; simp [hsz, this]
        · rw [getD_set_ne true hik]
          by_cases hix : i = x
          · subst hix; exact hprei k hk hp
          · rw [getD_set_ne true hix] at hxl; exact hcl x hx hxl k hk hp
      · rw [rem_set (Nat.le_of_eq hsz.symm) hl]; rw [hl] at hf; simp at hf ⊢; omega
      · rw [rem_set (Nat.le_of_eq hsz.symm) hl]; exact h'

/-- The last operation waits for all the others. -/
theorem core_last (hok : Ok ops.size P ops) {m : Nat} (hm : m + 1 = ops.size) (hlast : ∀ k, k < m → pre ops m k = true) {Q : Exit → Act → World → Prop} : ∀ (fuel : Nat) (listed : Array Bool) (a : Act) (w : World),
    listed.size = ops.size → listed.getD m true = false →
    (∀ x, x < ops.size → listed.getD x true = true → ∀ k, k < ops.size → pre ops x k = true → listed.getD k true = true) → (rem m listed).length = fuel →
    wpOps P ops (NQ fun a' w' => tames ops a' = true ∧ wpOp P ops Q m (Q .normal) a' w') (rem m listed) a w → wpAny P .any ops Q (fuel + 1) listed a w := by
  have hgd : ∀ (listed : Array Bool) k, listed.getD k false = true → listed.getD k true = true := by
    intro listed k hk
    rcases Nat.lt_or_ge k listed.size with h' | h'
    · simp [h'] at hk ⊢; exact hk
    · simp [Array.getElem?_eq_none h'] at hk
  have hgi : ∀ (listed : Array Bool) k, k < listed.size → listed.getD k true = true → listed.getD k false = true := by
    intro listed k h' hk
    simp [h'] at hk ⊢; exact hk
  obtain ⟨om, hom⟩ : ∃ om, ops[m]? = some om := ⟨_, Array.getElem?_eq_getElem (by omega)⟩
  intro fuel
  induction fuel with
  | zero =>
    intro listed a w hsz hml hcl hf h
    have hnil : rem m listed = [] := List.eq_nil_of_length_eq_zero hf
    have hall : ∀ k, k < m → listed.getD k true = true := by
      intro k hk
      cases hl : listed.getD k true with
      | true => rfl
      | false =>
        have : k ∈ rem m listed := mem_rem.2 ⟨hk, hl⟩
        rw [hnil] at this; cases this
    rw [hnil] at h
    refine ⟨fun hr => ?_, fun i hi => ?_⟩
    · have : m ∈ Region.ready .any ops listed := mem_ready.2 ⟨hml, om, hom, fun e he hb => hgi _ _ (by have := hok.edges m om hom e he hb; omega) (hall _ (hok.edges m om hom e he hb))⟩
      rw [hr] at this; cases this
    · obtain ⟨h0, oi, hoi, _⟩ := mem_ready.1 hi
      have him : i = m := by
        have := lt_of_get hoi
        rcases Nat.lt_or_ge i m with h1 | h1
        · rw [hall i h1] at h0; cases h0
        · omega
      subst him
      refine wpOp_mono (fun a' w' h' => ⟨?_, h'⟩) h.2
      cases hr : Region.ready .any ops (listed.setIfInBounds i true) with
      | nil => rfl
      | cons x xs =>
        exfalso
        have hx : x ∈ Region.ready .any ops (listed.setIfInBounds i true) := by rw [hr]; simp
        obtain ⟨h1, o, ho, _⟩ := mem_ready.1 hx
        have := lt_of_get ho
        by_cases hxi : i = x
        · subst hxi; simp [hsz, this] at h1
        · rw [getD_set_ne true hxi, hall x (by omega)] at h1; cases h1
  | succ fuel ih =>
    intro listed a w hsz hml hcl hf h
    refine ⟨fun hr => ?_, fun i hi => ?_⟩
    · exfalso
      cases hrem : rem m listed with
      | nil => rw [hrem] at hf; cases hf
      | cons x xs =>
        have hx := mem_rem.1 (show x ∈ rem m listed by rw [hrem]; simp)
        obtain ⟨ox, hox⟩ : ∃ ox, ops[x]? = some ox := ⟨_, Array.getElem?_eq_getElem (by omega)⟩
        have hs := rem_sorted m listed
        rw [hrem, List.pairwise_cons] at hs
        have : x ∈ Region.ready .any ops listed := mem_ready.2 ⟨hx.2, ox, hox, fun e he hb => by
          have hlt := hok.edges x ox hox e he hb
          cases hl : listed.getD e.on true with
          | true => exact hgi _ _ (by omega) hl
          | false =>
            have hmm : e.on ∈ rem m listed := mem_rem.2 ⟨by omega, hl⟩
            rw [hrem] at hmm
            rcases List.mem_cons.1 hmm with h1 | h1
            · omega
            · have := hs.1 _ h1; omega⟩
        rw [hr] at this
        cases this
    · obtain ⟨h0, oi, hoi, hall⟩ := mem_ready.1 hi
      have hprei : ∀ k, k < ops.size → pre ops i k = true → listed.getD k true = true := by
        intro k hk hp
        obtain ⟨_, e, he, hb, h2⟩ := hok.clos i oi hoi k hk hp
        have h3 := hall e he hb
        rcases h2 with rfl | h2
        · exact hgd _ _ h3
        · exact hcl e.on (by have := hok.edges i oi hoi e he hb; have := lt_of_get hoi; omega) (hgd _ _ h3) k hk h2
      have him : i < m := by
        have := lt_of_get hoi
        rcases Nat.lt_or_ge i m with h1 | h1
        · exact h1
        · have : i = m := by omega
          subst this
          cases hrem : rem i listed with
          | nil => rw [hrem] at hf; cases hf
          | cons x xs =>
            have hx := mem_rem.1 (show x ∈ rem i listed by rw [hrem]; simp)
            rw [hprei x (by omega) (hlast x hx.1)] at hx
            cases hx.2
      have him' : i ∈ rem m listed := mem_rem.2 ⟨him, h0⟩
      obtain ⟨l1, l2, hl⟩ := List.append_of_mem him'
      have hs := rem_sorted m listed
      have hfr := front hok (lt_of_get hoi) hoi (Q := fun a' w' => wpOp P ops Q m (Q .normal) a' w') (l2 := l2) l1 (fun k => listed.getD k true = true) a w
        (fun x hx => by rw [← hl] at hx; have := mem_rem.1 hx; exact ⟨by omega, by rw [this.2]; simp⟩)
        (by rw [← hl]; exact hs.imp (fun h => Nat.ne_of_lt h))
        (fun j hj => by rw [hl, List.pairwise_append] at hs; exact hs.2.2 j hj i (by simp))
        (fun p j q he k hk hp => by
          have hj : j ∈ rem m listed := by rw [hl, he]; simp
          have hjm := (mem_rem.1 hj).1
          obtain ⟨oj, hoj⟩ : ∃ oj, ops[j]? = some oj := ⟨_, Array.getElem?_eq_getElem (by omega)⟩
          have hkj := (hok.clos j oj hoj k hk hp).1
          cases hlk : listed.getD k true with
          | true => exact .inl rfl
          | false =>
            right
            have hm : k ∈ rem m listed := mem_rem.2 ⟨by omega, hlk⟩
            rw [hl, he] at hm hs
            simp only [List.append_assoc, List.cons_append, List.mem_append, List.mem_cons] at hm
            rw [List.append_assoc, List.pairwise_append] at hs
            have hs2 := hs.2.1
            rw [List.cons_append, List.pairwise_cons] at hs2
            rcases hm with h1 | h1
            · exact h1
            · rcases h1 with h1 | h1
              · omega
              · have := hs2.1 k (by simp only [List.mem_append, List.mem_cons]; exact h1); omega)
        hprei (by rw [← hl]; exact h)
      refine wpOp_toQ (fun a' w' h' => ih (listed.setIfInBounds i true) a' w' (by simp [hsz]) ?_ ?_ ?_ ?_) hfr
      · rw [getD_set_ne true (by omega)]; exact hml
      · intro x hx hxl k hk hp
        by_cases hik : i = k
        · subst hik; simp [hsz, hk]
        · rw [getD_set_ne true hik]
          by_cases hix : i = x
          · subst hix; exact hprei k hk hp
          · rw [getD_set_ne true hix] at hxl; exact hcl x hx hxl k hk hp
      · rw [rem_set (by omega) hl]; rw [hl] at hf; simp at hf ⊢; omega
      · rw [rem_set (by omega) hl]; exact h'
end

/-- A region whose order is open, in the order of its text. -/
theorem wp_region_text {P : Program} {id : Nat} {l : List Oper} {Q : Exit → Act → World → Prop} {a : Act} {w : World} (hm : P.follows .mixedOrders = true) (hs : okB l.toArray.size P l.toArray = true)
    (h : wpList P l.toArray (NQ fun a' w' => tames l.toArray a' = true ∧ Q .normal a' w') l a w.drew) : (Code.region id l.toArray true).wp P Q a w := by
  refine wp_region_any hm (core (ok_of hs) _ _ _ _ (by simp) ?_ ?_ ?_)
  · intro x hx h1
    have hx' : x < l.length := by simpa using hx
    simp [hx'] at h1
  · unfold rem
    rw [List.filter_eq_self.2 (fun k hk => by simp at hk; simp [hk])]
    simp
  · have hr : rem l.toArray.size (Array.replicate l.toArray.size false) = List.range' 0 l.length := by
      unfold rem
      rw [List.filter_eq_self.2 (fun k hk => by simp at hk; simp [hk])]
      simp [List.range_eq_range']
    rw [hr, wpOps_eq_wpList l 0 (by simp)]
    exact h

theorem wpOps_prefix {P : Program} {ops : Array Oper} {Q : Exit → Act → World → Prop} (l : List Oper) : ∀ k, (∀ j, j < l.length → l[j]? = ops[k + j]?) → wpOps P ops Q (List.range' k l.length) = wpList P ops Q l := by
  induction l with
  | nil => intro k _; funext a w; simp [wpOps, wpList]
  | cons o l ih =>
    intro k h
    have h0 : ops[k]? = some o := by simpa using (h 0 (by simp)).symm
    have ih' := ih (k + 1) (fun j hj => by have := h (j + 1) (by simpa using hj); simpa [Nat.add_assoc, Nat.add_comm 1 j] using this)
    funext a w
    simp only [List.length_cons, List.range'_succ, wpOps, h0, wpList, ih']
theorem wpList_F {P : Program} {ops : Array Oper} {F F' : Act → World → Prop} (hF : ∀ a w, F a w → F' a w) : ∀ (l : List Oper) (a : Act) (w : World), wpList P ops (NQ F) l a w → wpList P ops (NQ F') l a w
  | [], a, w, h => hF a w h
  | o :: l, a, w, h => by
    unfold wpList at h ⊢
    split
    · rename_i hw
      rw [if_pos hw] at h
      refine .inl ?_
      have h := h.resolve_right (fun h => not_letsOut h.2)
      unfold Oper.wp at *
      generalize (execOp a.eval o).run P w = r at *
      cases r with
      | ok n w' =>
        cases n <;> simp only [Oper.upon] at h ⊢ <;>
          first
            | exact wpList_F hF l _ _ h
            | exact Calls.mono h (fun e w'' he => by cases e <;> first | exact wpList_F hF l _ _ he | exact he.elim | exact (not_letsOut he).elim)
            | exact Rows.mono h (fun _ _ he => wpList_F hF l _ _ he)
      | halt x w' => cases x <;> simp only [Oper.upon] at h ⊢ <;> exact h.elim
    · rename_i hw; rw [if_neg hw] at h; exact wpList_F hF l _ _ h
def lastB (ops : Array Oper) : Bool := (List.range (ops.size - 1)).all fun k => pre ops (ops.size - 1) k
/-- A region whose last operation (a panic, a call that may panic) waits for all the others. -/
theorem wp_region_last {P : Program} {id : Nat} {l : List Oper} {o : Oper} {Q : Exit → Act → World → Prop} {a : Act} {w : World} (hm : P.follows .mixedOrders = true) (hs : okB (l ++ [o]).toArray.size P (l ++ [o]).toArray = true)
    (hl : lastB (l ++ [o]).toArray = true)
    (h : wpList P (l ++ [o]).toArray (NQ fun a' w' => tames (l ++ [o]).toArray a' = true ∧ wpList P (l ++ [o]).toArray Q [o] a' w') l a w.drew) : (Code.region id (l ++ [o]).toArray true).wp P Q a w := by
  have hsz : (l ++ [o]).toArray.size = l.length + 1 := by simp
  refine wp_region_any hm ?_
  rw [hsz]
  refine core_last (ok_of hs) (m := l.length) (by simp) (fun k hk => ?_) l.length _ _ _ (by simp) (by simp) ?_ ?_ ?_
  · unfold lastB at hl
    rw [hsz, List.all_eq_true] at hl
    exact hl k (List.mem_range.2 (by omega))
  · intro x hx h1
    have hx' : x < l.length + 1 := by simpa using hx
    simp [hx'] at h1
  · unfold rem
    rw [List.filter_eq_self.2 (fun k hk => by have : k < l.length := by simpa using hk
                                              have : k < l.length + 1 := by omega
                                              simp [this])]
    simp
  · have hr : rem l.length (Array.replicate (l.length + 1) false) = List.range' 0 l.length := by
      unfold rem
      rw [List.filter_eq_self.2 (fun k hk => by have : k < l.length := by simpa using hk
                                                have : k < l.length + 1 := by omega
                                                simp [this])]
      simp [List.range_eq_range']
    rw [hr, wpOps_prefix l 0 (by intro j hj; rw [Nat.zero_add, List.getElem?_toArray, List.getElem?_append_left hj])]
    refine wpList_F (fun a' w' h' => ⟨h'.1, ?_⟩) l _ _ h
    have h2 := h'.2
    unfold wpOp
    simp only [List.getElem?_toArray, List.getElem?_concat_length]
    exact h2
end Reg
end Go.Proofs.YtllahgnpjodgmaaDoor

namespace Go.Proofs.YtllahgnpjodgmaaDoor
namespace Mem
open Go Go.RowKit

/-- Nothing has changed but the blocks of S and what is new. -/
structure Ch (S : Nat → Prop) (w w' : World) : Prop where
  os : w'.os = w.os
  tape : w'.tape = w.tape
  output : w'.output = w.output
  size : w.heap.size ≤ w'.heap.size
  block : ∀ k, k < w.heap.size → ¬ S k → w'.heap[k]? = w.heap[k]?
namespace Ch
variable {S T : Nat → Prop} {w w1 w2 : World}
theorem refl (S : Nat → Prop) (w : World) : Ch S w w := ⟨rfl, rfl, rfl, Nat.le_refl _, fun _ _ _ => rfl⟩
theorem trans (h : Ch S w w1) (k : Ch S w1 w2) : Ch S w w2 :=
  ⟨k.os.trans h.os, k.tape.trans h.tape, k.output.trans h.output, Nat.le_trans h.size k.size, fun i hi hs => (k.block i (Nat.lt_of_lt_of_le hi h.size) hs).trans (h.block i hi hs)⟩
theorem mono (h : Ch S w w1) (hS : ∀ k, S k → T k) : Ch T w w1 := ⟨h.os, h.tape, h.output, h.size, fun k hk hs => h.block k hk fun h' => hs (hS k h')⟩
theorem alloc (h : Ch S w w1) (o : Obj) : Ch S w (w1.alloc o) :=
  h.trans ⟨rfl, rfl, rfl, by simp, fun k hk _ => Below.heap_alloc _ _ _ hk⟩
theorem drew (h : Ch S w w1) : Ch S w w1.drew := ⟨h.os, h.tape, h.output, h.size, h.block⟩
theorem drewN (h : Ch S w w1) (n : Nat) : Ch S w (w1.drewN n) := ⟨h.os, h.tape, h.output, h.size, h.block⟩
theorem setCell (h : Ch S w w1) {p : Addr} (hp : S p.block) (u : Value) : Ch S w (w1.setCell p u) :=
  h.trans ⟨rfl, rfl, rfl, by simp, fun k _ hs => Below.heap_setCell _ _ _ _ fun e => hs (e ▸ hp)⟩
/-- A store into what is new. -/
theorem setNew (h : Ch S w w1) {p : Addr} (hp : w.heap.size ≤ p.block) (u : Value) : Ch S w (w1.setCell p u) :=
  ⟨h.os, h.tape, h.output, by simpa using h.size, fun k hk hs => (Below.heap_setCell _ _ _ _ (by omega)).trans (h.block k hk hs)⟩
theorem grown {row : Option Nat} (h : Ch S w w1) (hg : w1.grownBy w2 row) (hr : ∀ g, row = some g → S g ∨ w.heap.size ≤ g) : Ch S w w2 :=
  ⟨hg.os.trans h.os, hg.tape.trans h.tape, hg.output.trans h.output, Nat.le_trans h.size hg.size, fun k hk hs =>
    (hg.block k (Nat.lt_of_lt_of_le hk h.size) (fun e => by rcases hr k e.symm with h1 | h1 <;> first | exact hs h1 | omega)).trans (h.block k hk hs)⟩
end Ch

/-- The blocks of A are as they were. -/
structure Kp (A : Nat → Prop) (w w' : World) : Prop where
  os : w'.os = w.os
  tape : w'.tape = w.tape
  output : w'.output = w.output
  size : w.heap.size ≤ w'.heap.size
  block : ∀ k, A k → w'.heap[k]? = w.heap[k]?
namespace Kp
variable {A B : Nat → Prop} {w w1 w2 : World}
theorem refl (A : Nat → Prop) (w : World) : Kp A w w := ⟨rfl, rfl, rfl, Nat.le_refl _, fun _ _ => rfl⟩
theorem trans (h : Kp A w w1) (k : Kp A w1 w2) : Kp A w w2 :=
  ⟨k.os.trans h.os, k.tape.trans h.tape, k.output.trans h.output, Nat.le_trans h.size k.size, fun i hi => (k.block i hi).trans (h.block i hi)⟩
theorem mono (h : Kp A w w1) (hB : ∀ k, B k → A k) : Kp B w w1 := ⟨h.os, h.tape, h.output, h.size, fun k hk => h.block k (hB k hk)⟩
theorem of_ch {S : Nat → Prop} (h : Ch S w w1) (hA : ∀ k, A k → k < w.heap.size) (hS : ∀ k, A k → ¬ S k) : Kp A w w1 :=
  ⟨h.os, h.tape, h.output, h.size, fun k hk => h.block k (hA k hk) (hS k hk)⟩
theorem cell (h : Kp A w w1) {p : Addr} (hp : A p.block) : w1.cell? p = w.cell? p := World.cell?_of_block (h.block _ hp)
theorem frozen (h : Kp A w w1) {p : Addr} (hp : A p.block) : w1.frozen? p = w.frozen? p := World.frozen?_of_block (h.block _ hp)
theorem below {B : Nat} (h : Kp (fun k => k < B) w w1) : Below B w w1 := ⟨h.os, h.tape, h.output, h.size, h.block⟩
theorem drew (h : Kp A w w1) : Kp A w w1.drew := ⟨h.os, h.tape, h.output, h.size, h.block⟩
theorem drewN (h : Kp A w w1) (n : Nat) : Kp A w (w1.drewN n) := ⟨h.os, h.tape, h.output, h.size, h.block⟩
theorem alloc (h : Kp A w w1) (hA : ∀ k, A k → k < w.heap.size) (o : Obj) : Kp A w (w1.alloc o) :=
  ⟨h.os, h.tape, h.output, Nat.le_trans h.size (by simp), fun k hk => (Below.heap_alloc _ _ _ (Nat.lt_of_lt_of_le (hA k hk) h.size)).trans (h.block k hk)⟩
theorem setCell (h : Kp A w w1) {p : Addr} (hp : ¬ A p.block) (u : Value) : Kp A w (w1.setCell p u) :=
  ⟨h.os, h.tape, h.output, by simpa using h.size, fun k hk => (Below.heap_setCell _ _ _ _ fun e => hp (e ▸ hk)).trans (h.block k hk)⟩
end Kp

/-- A block known whole. -/
def Blk (w : World) (g : Nat) (t : TypeId) (cs : List Value) : Prop := w.heap[g]? = some (.cells cs.toArray t (0, 0))
namespace Blk
variable {w w1 : World} {g : Nat} {t : TypeId} {cs : List Value}
theorem lt (h : Blk w g t cs) : g < w.heap.size := by
  rcases Nat.lt_or_ge g w.heap.size with hlt | hge
  · exact hlt
  · unfold Blk at h; rw [Array.getElem?_eq_none hge] at h; cases h
theorem cell (h : Blk w g t cs) (i : Nat) : w.cell? ⟨g, i, none⟩ = cs[i]? := by rw [cell_of_row w g i cs.toArray t (0, 0) h]; simp
theorem frozen (h : Blk w g t cs) (i : Nat) : w.frozen? ⟨g, i, none⟩ = false := by
  unfold Blk at h
  simp [World.frozen?, h]
theorem new (w : World) (t : TypeId) (cs : List Value) : Blk (w.alloc (.cells cs.toArray t)) w.heap.size t cs := heap_alloc_new w _
theorem drew (h : Blk w g t cs) : Blk w.drew g t cs := h
theorem drewN (h : Blk w g t cs) (n : Nat) : Blk (w.drewN n) g t cs := h
theorem alloc (h : Blk w g t cs) (o : Obj) : Blk (w.alloc o) g t cs := (Below.heap_alloc w o g h.lt).trans h
theorem set_ (h : Blk w g t cs) (i : Nat) (u : Value) : Blk (w.setCell ⟨g, i, none⟩ u) g t (cs.set i u) := by
  unfold Blk at h ⊢
  simp [World.setCell, Array.getElem?_modify, h]
theorem far (h : Blk w g t cs) {p : Addr} (hp : g ≠ p.block) (u : Value) : Blk (w.setCell p u) g t cs := (Below.heap_setCell w p u g hp).trans h
theorem ch {S : Nat → Prop} (h : Blk w g t cs) (hc : Ch S w w1) (hg : ¬ S g) : Blk w1 g t cs := (hc.block g h.lt hg).trans h
theorem kp {A : Nat → Prop} (h : Blk w g t cs) (hc : Kp A w w1) (hg : A g) : Blk w1 g t cs := (hc.block g hg).trans h
theorem ne_ {g' : Nat} {t' : TypeId} {cs' : List Value} (h : Blk w g t cs) (h' : Blk w g' t' cs') (hne : t ≠ t') : g ≠ g' := by
  rintro rfl
  unfold Blk at h h'
  rw [h] at h'
  injection h' with h'
  injection h' with _ ht
  exact hne ht
end Blk

/-- A row of the call's own, outside of A. -/
def Own (A : Nat → Prop) (w : World) (e : TypeId) (size : Nat) (v : Value) (n : Nat) (xs : List Value) : Prop :=
  w.ownsRow 0 e size v n xs ∧ ∀ g, v.ownBlock = some g → ¬ A g
namespace Own
variable {A : Nat → Prop} {w w1 : World} {e : TypeId} {size n : Nat} {v : Value} {xs : List Value}
theorem nil (A : Nat → Prop) (w : World) (e : TypeId) (size : Nat) : Own A w e size (.slice none 0 0) 0 [] := ⟨World.ownsRow_nil w 0 e size, by simp [Value.ownBlock]⟩
theorem lt (h : Own A w e size v n xs) {g : Nat} (hg : v.ownBlock = some g) : g < w.heap.size := (h.1.lt g hg).2
theorem ch {S : Nat → Prop} (h : Own A w e size v n xs) (hc : Ch S w w1) (hS : ∀ g, v.ownBlock = some g → ¬ S g) : Own A w1 e size v n xs := by
  refine ⟨⟨h.1.1, ?_⟩, h.2⟩
  rcases h.1.2 with hn | ⟨g, cap, cur, rfl, hb, hgg, rest⟩
  · exact .inl hn
  · refine .inr ⟨g, cap, cur, rfl, hb, ?_, rest⟩
    rw [hc.block g (Array.getElem?_eq_some_iff.1 hgg).1 (hS g (by simp [Value.ownBlock]))]
    exact hgg
theorem drew (h : Own A w e size v n xs) : Own A w.drew e size v n xs := h
theorem alloc (h : Own A w e size v n xs) (o : Obj) : Own A (w.alloc o) e size v n xs := h.ch (S := fun _ => False) ((Ch.refl _ _).alloc o) (by simp)
theorem mono {B : Nat → Prop} (h : Own A w e size v n xs) (hB : ∀ k, k < w.heap.size → B k → A k) : Own B w e size v n xs := ⟨h.1, fun g hg hb => h.2 g hg (hB g (h.lt hg) hb)⟩
theorem len (h : Own A w e size v n xs) : xs.length = n * size := h.1.1
/-- What the value looks like. -/
theorem form (h : Own A w e size v n xs) : ∃ a cap, v = .slice a n cap ∧ n ≤ cap ∧ (0 < n → ∃ g, a = some ⟨g, 0, none⟩ ∧ v.ownBlock = some g) := by
  rcases h.1.2 with ⟨rfl, rfl⟩ | ⟨g, cap, cur, rfl, _, _, hl, _⟩
  · exact ⟨none, 0, rfl, Nat.le_refl _, fun h => absurd h (Nat.lt_irrefl 0)⟩
  · exact ⟨_, cap, rfl, hl, fun _ => ⟨g, rfl, rfl⟩⟩
theorem cell (h : Own A w e size v n xs) {g : Nat} (hg : v.ownBlock = some g) {j : Nat} {u : Value} (hu : xs[j]? = some u) : w.cell? ⟨g, j, none⟩ = some u := by
  have := h.1.cells hg j u hu
  have hadd : (⟨g, 0, none⟩ : Addr).add j = ⟨g, j, none⟩ := by unfold Addr.add; split <;> simp_all
  rwa [hadd] at this
theorem frozen (h : Own A w e size v n xs) {g : Nat} (hg : v.ownBlock = some g) (j : Nat) : w.frozen? ⟨g, j, none⟩ = false := by
  rcases h.1.2 with ⟨rfl, _⟩ | ⟨g', cap, cur, rfl, _, hgg, _⟩
  · simp [Value.ownBlock] at hg
  · simp [Value.ownBlock] at hg; subst hg; simp [World.frozen?, hgg]
theorem ne_blk (h : Own A w e size v n xs) {g : Nat} {t : TypeId} {cs : List Value} (hb : Blk w g t cs) (hne : e ≠ t) : v.ownBlock ≠ some g := by
  rcases h.1.2 with ⟨rfl, _⟩ | ⟨g', cap, cur, rfl, _, hh, _⟩
  · simp [Value.ownBlock]
  · intro he
    have : g' = g := by simpa [Value.ownBlock] using he
    subst this
    unfold Blk at hb
    rw [hb] at hh
    injection hh with hh
    injection hh with _ ht
    exact hne ht.symm
/-- Rows of unlike elements lie apart. -/
theorem ne_own {B : Nat → Prop} {e' : TypeId} {size' n' : Nat} {v' : Value} {xs' : List Value} (h : Own A w e size v n xs) (h' : Own B w e' size' v' n' xs') (hne : e ≠ e') : ∀ g, v.ownBlock = some g → v'.ownBlock ≠ some g := by
  intro g hg hg'
  rcases h.1.2 with ⟨rfl, _⟩ | ⟨g1, cap, cur, rfl, _, hh, _⟩
  · simp [Value.ownBlock] at hg
  rcases h'.1.2 with ⟨rfl, _⟩ | ⟨g2, cap', cur', rfl, _, hh', _⟩
  · simp [Value.ownBlock] at hg'
  simp [Value.ownBlock] at hg hg'
  subst hg hg'
  rw [hh] at hh'
  injection hh' with hh'
  injection hh' with _ ht
  exact hne ht
/-- Cut at its end. -/
theorem cut {k : Nat} {a : Option Addr} {cap : Nat} (h : Own A w e size (.slice a n cap) n xs) (hk : k ≤ n) : Own A w e size (.slice a k cap) k (xs.take (k * size)) := by
  refine ⟨⟨by rw [List.length_take, h.1.1]; exact Nat.min_eq_left (Nat.mul_le_mul_right _ hk), ?_⟩, fun g hg => h.2 g (by cases a <;> exact hg)⟩
  rcases h.1.2 with ⟨he, hn⟩ | ⟨g, c, cur, he, hb, hg, hl, hm, hs, ht⟩
  · left
    injection he with h1 h2 h3
    subst h1 h3
    have : k = 0 := by omega
    subst this
    exact ⟨rfl, rfl⟩
  · right
    injection he with h1 h2 h3
    subst h1 h3
    exact ⟨g, cap, cur, rfl, hb, hg, by omega, hm, hs, by rw [← ht, List.take_take, Nat.min_eq_left (Nat.mul_le_mul_right _ hk)]⟩
/-- One cell is set. -/
theorem set_ (h : Own A w e size v n xs) {g : Nat} (hg : v.ownBlock = some g) (j : Nat) (u : Value) : Own A (w.setCell ⟨g, j, none⟩ u) e size v n (xs.set j u) := by
  refine ⟨⟨by simpa using h.1.1, ?_⟩, h.2⟩
  rcases h.1.2 with ⟨rfl, _⟩ | ⟨g', cap, cur, rfl, hb, hh, hl, hm, hs, ht⟩
  · simp [Value.ownBlock] at hg
  · simp [Value.ownBlock] at hg
    subst hg
    refine .inr ⟨g', cap, cur.setIfInBounds j u, rfl, hb, heap_setCell_same w g' j cur e u hh, hl, hm, by simpa using hs, ?_⟩
    simp only [Array.toList_setIfInBounds]
    rw [← ht, List.take_set]
end Own

/-- A slice that reads as these cells, in blocks of A. -/
def Rd (A : Nat → Prop) (w : World) (a : Option Addr) (xs : List Value) : Prop :=
  xs ≠ [] → ∃ b off, a = some ⟨b, off, none⟩ ∧ A b ∧ ∀ j u, xs[j]? = some u → w.cell? ⟨b, off + j, none⟩ = some u
namespace Rd
variable {A : Nat → Prop} {w w1 : World} {a : Option Addr} {xs : List Value}
theorem kp (h : Rd A w a xs) (hk : Kp A w w1) : Rd A w1 a xs := fun hx => by
  obtain ⟨b, off, h1, h2, h3⟩ := h hx
  exact ⟨b, off, h1, h2, fun j u hu => (hk.cell h2).trans (h3 j u hu)⟩
theorem more {B : Nat → Prop} (h : Rd A w a xs) (hB : ∀ k, A k → B k) : Rd B w a xs := fun hx => by
  obtain ⟨b, off, h1, h2, h3⟩ := h hx
  exact ⟨b, off, h1, hB b h2, h3⟩
end Rd

/-- One element, which lies in a block of its own, is appended to a row of the call's own. -/
theorem wp_push {P : Program} {w : World} {ops : Array Oper} {rest : List Oper} {o : Oper} {a : Act} {Q : Exit → Act → World → Prop} (hgd : o.guard = none) (s x : Operand) (t : TypeId)
    (ho : o.op = .call { callee := .builtin .append, args := #[s, x], argTypes := #[t, t] })
    (e : TypeId) (i : TypeInfo) (z : Value) (size bytes : Nat) (ht : P.underlying t = some (.slice e)) (hi : P.info? e = some i) (hz : i.zero = some z)
    (hsize : i.size = size) (hby : i.bytes = bytes) (hzs : z.cells.size = size) (hsz : 0 < size) (hbb : bytes ≤ 1000)
    (A : Nat → Prop) (v : Value) (n : Nat) (xs news : List Value) (B : Nat) (hs : a.eval s = v) (hx : a.eval x = .slice (some ⟨B, 0, none⟩) 1 1)
    (hl : news.length = size) (h1 : (news.all fun u => u.oneCell') = true) (hn : n ≤ 1000000000)
    (hown : Own A w e size v n xs) (hA : ∀ k, A k → k < w.heap.size) (hB : Blk w B e news)
    (h : ∀ v' w', Own A w' e size v' (n + 1) (xs ++ news) → Ch (fun k => v.ownBlock = some k) w w' → (v'.ownBlock = v.ownBlock ∨ ∀ g, v'.ownBlock = some g → w.heap.size ≤ g) → wpList P ops Q rest (a.put o.dst v') w') : wpList P ops Q (o :: rest) a w := by
  refine wpList_append_lies w hgd s x t ho 0 e i z size bytes ht hi hz hsize hby hzs hsz v n xs hs hown.1 ⟨B, 0, none⟩ 1 1 news hx (by rw [hl, Nat.one_mul]) ?_ ?_ (by omega) ?_ ?_ (Nat.zero_le _) w.heap.size rfl ?_
  · intro j u hu
    have hadd : (⟨B, 0, none⟩ : Addr).add j = ⟨B, j, none⟩ := by unfold Addr.add; split <;> simp_all
    rw [hadd, hB.cell]; exact hu
  · intro u hu; exact List.all_eq_true.1 h1 u hu
  · simp only [maxLen]; omega
  · have : (n + 1) * bytes ≤ 1000000001 * 1000 := Nat.mul_le_mul (by omega) hbb
    omega
  · intro g cap w' hown' hgr hat _
    refine h _ _ ⟨hown', fun k hk => ?_⟩ ((Ch.refl _ _).grown hgr fun g hg => .inl hg) ?_
    · have hk' : k = g := by simpa [Value.ownBlock] using hk.symm
      subst hk'
      rcases hat with h2 | h2
      · exact hown.2 _ h2
      · intro h3; have := hA _ h3; omega
    · rcases hat with h2 | h2
      · left; rw [h2]; rfl
      · right; intro k hk
        have hk' : k = g := by simpa [Value.ownBlock] using hk.symm
        omega
end Mem
end Go.Proofs.YtllahgnpjodgmaaDoor

namespace Go.Proofs.YtllahgnpjodgmaaDoor
namespace Pm

structure Tok where
  kind : Int
  at_ : Int
  value : Int
  name : ByteArray

structure Nd where
  kind : Int := 0
  at_ : Int := 0
  where_ : Int := 0
  close : Int := 0
  decl : Int := 0
  type : Int := 0
  op : Int := 0
  value : Int := 0
  name : ByteArray := ⟨#[]⟩
  kids : List Int := []

inductive Sym where
  | program | function | functionEnd | block | statements | statement | semi | done | closed | shut | leave | set | arguments | moreArguments | otherwise | condition
  | expression | both | either | compared | andMore | sum | compare | nothing | product | sumMore | signed | productMore | plain | index

structure PS where
  toks : List Tok
  en : Int
  at_ : Nat
  todo : List Sym
  nodes : List Nd
  funcs : List Int
  loose : List Int
  begun : List (Nd × Nat)
  open_ : Int
  nest : List Int

/-- The words of MiniGo. -/
def words : List (List UInt8) := [[102, 117, 110, 99], [118, 97, 114], [105, 102], [101, 108, 115, 101], [102, 111, 114], [114, 101, 116, 117, 114, 110], [98, 114, 101, 97, 107],
  [99, 111, 110, 116, 105, 110, 117, 101], [112, 114, 105, 110, 116], [112, 97, 110, 105, 99], [105, 110, 112, 117, 116], [108, 101, 110], [109, 97, 107, 101], [105, 110, 116], [98, 111, 111, 108],
  [116, 114, 117, 101], [102, 97, 108, 115, 101], [110, 105, 108]]
def letter (c : UInt8) : Bool := c == 95 || (decide (97 ≤ c) && decide (c ≤ 122)) || (decide (65 ≤ c) && decide (c ≤ 90))
def digit (c : UInt8) : Bool := decide (48 ≤ c) && decide (c ≤ 57)
/-- A name, and no word. -/
def isNm (l : List UInt8) : Bool := match l with
  | [] => false
  | c :: r => decide (l.length ≤ 64) && letter c && r.all (fun c => letter c || digit c) && !words.contains l

def right (t : Tok) : Bool :=
  if t.kind = 1 then isNm t.name.data.toList else if t.kind = 2 then decide (0 ≤ t.value) else decide (10 ≤ t.kind ∧ t.kind ≤ 27 ∨ 40 ≤ t.kind ∧ t.kind ≤ 68)

abbrev M := Except (Int × Int)

namespace PS
def kind (s : PS) : Int := match s.toks[s.at_]? with
  | none => 0
  | some t => if right t then t.kind else 0
def fault (s : PS) : Int × Int := match s.toks[s.at_]? with
  | none => (s.en, 41)
  | some t => (t.at_, 40)
def skip (s : PS) : PS := { s with at_ := s.at_ + 1 }
def cur (s : PS) : Tok := s.toks.getD s.at_ ⟨0, 0, 0, ⟨#[]⟩⟩
def take (s : PS) (k : Int) : M (Tok × PS) := if s.kind = k then .ok (s.cur, s.skip) else .error s.fault
def do_ (s : PS) (l : List Sym) : PS := { s with todo := l ++ s.todo }
def maxLast : List Int → Int → List Int
  | [], _ => []
  | [x], m => [max x m]
  | x :: y :: l, m => x :: maxLast (y :: l) m
def enter (s : PS) : PS := { s with open_ := s.open_ + 1, nest := maxLast s.nest (s.open_ + 1) }
def leave (s : PS) : PS := { s with open_ := s.open_ - 1 }
def begin_ (s : PS) (n : Nd) (kids : Nat) : PS := { s with begun := (n, s.loose.length - kids) :: s.begun }
def done (s : PS) : PS := match s.begun with
  | [] => s
  | (n, f) :: r => { s with begun := r, nodes := s.nodes ++ [{ n with kids := s.loose.drop f }], loose := s.loose.take f ++ [(s.nodes.length : Int)] }
def leaf (s : PS) (n : Nd) : PS := (s.begin_ n 0).done
def leftAt (s : PS) : Int := (s.nodes.getD (s.loose.getLastD 0).toNat {}).at_
def top (s : PS) (f : Nd → Nd) : PS := match s.begun with
  | [] => s
  | (n, k) :: r => { s with begun := (f n, k) :: r }
def expect (s : PS) (k : Int) : M PS := do let (_, s) ← s.take k; pure s

def opened (s : PS) (k : Int) : M PS := do let s ← s.expect k; pure s.enter
def closed (s : PS) : M PS := do let s ← s.expect 41; pure s.leave
def shut (s : PS) : M PS := do let s ← s.expect 45; pure s.leave

def typed (s : PS) : M (Int × PS) :=
  if s.kind = 23 then .ok (1, s.skip) else if s.kind = 24 then .ok (2, s.skip) else do
    let s ← s.expect 44
    let s ← s.expect 45
    let s ← s.expect 23
    pure (3, s)
def param (s : PS) : M PS := do
  let (n, s) ← s.take 1
  let (d, s) ← s.typed
  pure (s.leaf { kind := 2, at_ := n.at_, where_ := n.at_, name := n.name, decl := d })
/-- Parameters behind the first, as long as no parenthesis shuts them. -/
def params : Nat → PS → M PS
  | 0, s => .ok s
  | n + 1, s => if s.kind = 41 then .ok s else do
    let s ← s.expect 46
    let s ← s.param
    params n s
def function (s : PS) : M PS := do
  let (f, s) ← s.take 10
  let (name, s) ← s.take 1
  let s := s.begin_ { kind := 1, at_ := f.at_, where_ := name.at_, name := name.name } 0
  let s ← s.expect 40
  let s ← if s.kind = 41 then pure s else s.param
  let s ← params (s.toks.length - s.at_) s
  let s ← s.expect 41
  let s ← if s.kind = 42 then pure s else (do
    let (d, s) ← s.typed
    pure (s.top fun n => { n with decl := d }))
  pure (({ s with nest := s.nest ++ [0] } : PS).do_ [.block, .functionEnd])
def functionEnd (s : PS) : PS :=
  let s := (s.top fun n => { n with close := (s.toks.getD (s.at_ - 1) ⟨0, 0, 0, ⟨#[]⟩⟩).at_ }).done
  { s with funcs := s.funcs ++ [(s.nodes.length : Int) - 1], loose := [] }
def block (s : PS) : M PS := do
  let (t, s) ← s.take 42
  pure ((s.begin_ { kind := 3, at_ := t.at_ } 0).enter.do_ [.statements])
def statements (s : PS) : PS := if s.kind = 43 then s.skip.leave.done else s.do_ [.statement, .statements]
def word (s : PS) (k : Int) : PS := (s.skip.begin_ { kind := k, at_ := s.cur.at_ } 0).do_ [.semi, .done]
def variable_ (s : PS) : M PS := do
  let (t, s) ← s.take 11
  let (n, s) ← s.take 1
  let (d, s) ← s.typed
  let s := s.begin_ { kind := 4, at_ := t.at_, where_ := n.at_, name := n.name, decl := d } 0
  if s.kind = 48 then pure (s.skip.do_ [.expression, .semi, .done]) else pure (s.do_ [.semi, .done])
def named (s : PS) : M PS := do
  let (n, s) ← s.take 1
  if s.kind = 48 then
    pure ((s.skip.begin_ { kind := 5, at_ := n.at_, where_ := n.at_, name := n.name } 0).do_ [.expression, .semi, .done])
  else if s.kind = 44 then do
    let s ← s.opened 44
    pure ((s.begin_ { kind := 6, at_ := n.at_, where_ := n.at_, name := n.name } 0).do_ [.expression, .shut, .set, .expression, .semi, .done])
  else do
    let s ← s.opened 40
    pure (((s.begin_ { kind := 7, at_ := n.at_ } 0).begin_ { kind := 25, at_ := n.at_, where_ := n.at_, name := n.name } 0).do_ [.arguments, .done, .semi, .done])
def told (s : PS) (k : Int) : M PS := do
  let s ← (s.skip.begin_ { kind := k, at_ := s.cur.at_ } 0).opened 40
  pure (s.do_ [.expression, .closed, .semi, .done])
def condition (s : PS) : M PS := do
  let (t, s) ← s.take 12
  pure ((s.begin_ { kind := 10, at_ := t.at_ } 0).do_ [.expression, .block, .otherwise])
def otherwise (s : PS) : PS :=
  if s.kind = 13 then
    if (s.toks[s.at_ + 1]?).any (fun t => t.kind == 12) then s.skip.enter.do_ [.condition, .leave, .done] else s.skip.do_ [.block, .done]
  else s.done
def loop (s : PS) : M PS := do
  let (t, s) ← s.take 14
  let s := s.begin_ { kind := 11, at_ := t.at_ } 0
  if s.kind = 42 then pure (s.do_ [.block, .done]) else pure (s.do_ [.expression, .block, .done])
def returned (s : PS) : M PS := do
  let (t, s) ← s.take 15
  let s := s.begin_ { kind := 12, at_ := t.at_ } 0
  if s.kind = 47 then pure (s.do_ [.semi, .done]) else pure (s.do_ [.expression, .semi, .done])
def statement (s : PS) : M PS :=
  if s.kind = 11 then s.variable_ else if s.kind = 1 then s.named else if s.kind = 18 then s.told 8 else if s.kind = 19 then s.told 9 else if s.kind = 12 then s.condition
  else if s.kind = 14 then s.loop else if s.kind = 15 then s.returned else if s.kind = 16 then .ok (s.word 13) else if s.kind = 17 then .ok (s.word 14)
  else if s.kind = 42 then .ok (s.do_ [.block]) else .error s.fault

/-- A sign's operator between two values, and how close it holds them. -/
def operator (k : Int) : Int × Int :=
  if k = 67 then (19, 1) else if k = 66 then (18, 2) else if 49 ≤ k ∧ k ≤ 54 then (12 + k - 49, 3) else if k = 55 then (1, 4) else if k = 56 then (2, 4) else if k = 61 then (7, 4)
  else if k = 62 then (8, 4) else if k = 57 then (3, 5) else if k = 58 then (4, 5) else if k = 59 then (5, 5) else if k = 60 then (6, 5) else if k = 63 then (9, 5) else if k = 64 then (10, 5)
  else if k = 65 then (11, 5) else (0, 0)
def joined (s : PS) (level : Int) (next again : Sym) : PS :=
  if (operator s.kind).2 = level then
    ((s.begin_ { kind := 31, at_ := s.leftAt, where_ := s.cur.at_, op := (operator s.kind).1 } 1).skip).do_ [next, .done, again]
  else s
def signed (s : PS) : PS :=
  let go (op : Int) : PS := ((s.begin_ { kind := 30, at_ := s.cur.at_, op := op } 0).skip.enter).do_ [.signed, .leave, .done]
  if s.kind = 56 then go 20 else if s.kind = 68 then go 21 else if s.kind = 62 then go 22 else s.do_ [.plain, .index]
def index (s : PS) : M PS :=
  if s.kind = 44 then do
    let s ← (s.begin_ { kind := 29, at_ := s.leftAt } 1).opened 44
    pure (s.do_ [.expression, .shut, .done, .index])
  else .ok s
def name (s : PS) (t : Tok) : M PS :=
  if s.kind = 40 then do
    let s ← (s.begin_ { kind := 25, at_ := t.at_, where_ := t.at_, name := t.name } 0).opened 40
    pure (s.do_ [.arguments, .done])
  else .ok (s.leaf { kind := 24, at_ := t.at_, where_ := t.at_, name := t.name })
def made (s : PS) (t : Tok) : M PS := do
  let s ← (s.begin_ { kind := 28, at_ := t.at_ } 0).opened 40
  let s ← s.expect 44
  let s ← s.expect 45
  let s ← s.expect 23
  let s ← s.expect 46
  pure (s.do_ [.expression, .closed, .done])
def plain (s : PS) : M PS :=
  let t := s.cur
  let k := s.kind
  if k = 0 then .error s.fault
  else if k = 2 then .ok (s.skip.leaf { kind := 20, at_ := t.at_, value := t.value })
  else if k = 25 then .ok (s.skip.leaf { kind := 21, at_ := t.at_ })
  else if k = 26 then .ok (s.skip.leaf { kind := 22, at_ := t.at_ })
  else if k = 27 then .ok (s.skip.leaf { kind := 23, at_ := t.at_ })
  else if k = 20 then do
    let s ← s.skip.opened 40
    let s ← s.closed
    pure (s.leaf { kind := 26, at_ := t.at_ })
  else if k = 1 then s.skip.name t
  else if k = 21 then do
    let s ← (s.skip.begin_ { kind := 27, at_ := t.at_ } 0).opened 40
    pure (s.do_ [.expression, .closed, .done])
  else if k = 22 then s.skip.made t
  else if k = 40 then .ok (s.skip.enter.do_ [.expression, .closed])
  else .error s.fault
def arguments (s : PS) : M PS := if s.kind = 41 then s.closed else .ok (s.do_ [.expression, .moreArguments])
def moreArguments (s : PS) : M PS := if s.kind = 46 then .ok (s.skip.do_ [.expression, .moreArguments]) else s.closed
def program (s : PS) : PS := if s.at_ < s.toks.length then s.do_ [.function, .program] else s

/-- One rule. -/
def rule (s : PS) : Sym → M PS
  | .program => .ok s.program
  | .function => s.function
  | .functionEnd => .ok s.functionEnd
  | .block => s.block
  | .statements => .ok s.statements
  | .statement => s.statement
  | .semi => s.expect 47
  | .done => .ok s.done
  | .closed => s.closed
  | .shut => s.shut
  | .leave => .ok s.leave
  | .set => s.expect 48
  | .arguments => s.arguments
  | .moreArguments => s.moreArguments
  | .otherwise => .ok s.otherwise
  | .condition => s.condition
  | .expression => .ok (s.do_ [.both, .either])
  | .either => .ok (s.joined 1 .both .either)
  | .both => .ok (s.do_ [.compared, .andMore])
  | .andMore => .ok (s.joined 2 .compared .andMore)
  | .compared => .ok (s.do_ [.sum, .compare])
  | .compare => .ok (s.joined 3 .sum .nothing)
  | .sum => .ok (s.do_ [.product, .sumMore])
  | .sumMore => .ok (s.joined 4 .product .sumMore)
  | .product => .ok (s.do_ [.signed, .productMore])
  | .productMore => .ok (s.joined 5 .signed .productMore)
  | .signed => .ok s.signed
  | .plain => s.plain
  | .index => s.index
  | .nothing => .ok s

/-- The next thing is read. -/
def step (s : PS) : M PS := match s.todo with
  | [] => .ok s
  | x :: r => ({ s with todo := r } : PS).rule x
end PS
end Pm
end Go.Proofs.YtllahgnpjodgmaaDoor

namespace Go.Proofs.YtllahgnpjodgmaaDoor
open Go Go.RowKit Mem

/-- Nothing that was there has changed. -/
abbrev Fr (w w' : World) : Prop := Ch (fun _ => False) w w'


/-- The i-th byte of a name. -/
def okc (i : Nat) (c : UInt8) : Bool := Pm.letter c || (i != 0 && Pm.digit c)
theorem letter_iff (c : UInt8) : Pm.letter c = true ↔ (c.toNat = 95 ∨ (97 ≤ c.toNat ∧ c.toNat ≤ 122) ∨ (65 ≤ c.toNat ∧ c.toNat ≤ 90)) := by
  have h : c = 95 ↔ c.toNat = 95 := ⟨fun h => by rw [h]; rfl, fun h => by rw [← UInt8.toNat_inj]; exact h⟩
  simp only [Pm.letter, Bool.or_eq_true, Bool.and_eq_true, decide_eq_true_eq, beq_iff_eq, UInt8.le_iff_toNat_le, h]
  simp [or_assoc]
theorem digit_iff (c : UInt8) : Pm.digit c = true ↔ (48 ≤ c.toNat ∧ c.toNat ≤ 57) := by
  simp only [Pm.digit, Bool.and_eq_true, decide_eq_true_eq, UInt8.le_iff_toNat_le]
  simp
theorem okc_iff (i : Nat) (c : UInt8) : okc i c = true ↔ ((c.toNat = 95 ∨ (97 ≤ c.toNat ∧ c.toNat ≤ 122) ∨ (65 ≤ c.toNat ∧ c.toNat ≤ 90)) ∨ (i ≠ 0 ∧ 48 ≤ c.toNat ∧ c.toNat ≤ 57)) := by
  unfold okc
  rw [Bool.or_eq_true, Bool.and_eq_true, letter_iff, digit_iff]
  simp
theorem isNm_false (l : List UInt8) (i : Nat) (c : UInt8) (h : l[i]? = some c) (hc : okc i c = false) : Pm.isNm l = false := by
  cases l with
  | nil => rfl
  | cons x r =>
    unfold Pm.isNm
    cases i with
    | zero =>
      simp at h; subst h
      have : Pm.letter x = false := by simpa [okc] using hc
      simp [this]
    | succ i =>
      have : r.all (fun c => Pm.letter c || Pm.digit c) = false := by
        rw [Bool.eq_false_iff]; intro hall
        rw [List.all_eq_true] at hall
        have := hall c (List.mem_of_getElem? (by simpa using h))
        simp [okc] at hc this
        simp [hc] at this
      simp only [this, Bool.and_false, Bool.false_and]
theorem isNm_of (l : List UInt8) (h0 : l ≠ []) (hl : l.length ≤ 64) (h : ∀ i c, l[i]? = some c → okc i c = true) : Pm.isNm l = !Pm.words.contains l := by
  cases l with
  | nil => exact absurd rfl h0
  | cons x r =>
    unfold Pm.isNm
    have h1 : Pm.letter x = true := by simpa [okc] using h 0 x rfl
    have h2 : r.all (fun c => Pm.letter c || Pm.digit c) = true := by
      rw [List.all_eq_true]
      intro c hc
      obtain ⟨i, hi⟩ := List.getElem?_of_mem hc
      simpa [okc] using h (i + 1) c (by simpa using hi)
    simp only [h1, h2, decide_eq_true hl, Bool.true_and]

theorem i64_eq {a b : Int} (h : a = b) : Value.int .i64 a = Value.int .i64 b := by rw [h]
def wordB (j : Nat) : ByteArray := ⟨(Pm.words.getD j []).toArray⟩
end Go.Proofs.YtllahgnpjodgmaaDoor

set_option linter.unusedVariables false
namespace Go.Proofs.YtllahgnpjodgmaaDoor
open Go Go.RowKit Mem
namespace Pm
def ints (l : List Int) : List Value := l.map (Value.int .i64)
def ndC (n : Nd) (kv : Value) : List Value := [.int .i64 n.kind, .int .i64 n.at_, .int .i64 n.where_, .int .i64 n.close, .int .i64 n.decl, .int .i64 n.type, .int .i64 n.op, .int .i64 n.value, .string n.name, kv]
def ndV (n : Nd) (kv : Value) : Value := .agg #[.int .i64 n.kind, .int .i64 n.at_, .int .i64 n.where_, .int .i64 n.close, .int .i64 n.decl, .int .i64 n.type, .int .i64 n.op, .int .i64 n.value, .string n.name, kv]
def ndsC (l : List (Nd × Value)) : List Value := l.flatMap fun x => ndC x.1 x.2
theorem zip_kv {l : List Nd} {kvs : List Value} {x : Nd × Value} (h : x ∈ l.zip kvs) : x.2 ∈ kvs := (List.of_mem_zip h).2
end Pm
open Pm
theorem Mem.Own.form2 {A : Nat → Prop} {w : World} {e : TypeId} {size n : Nat} {v : Value} {xs : List Value} (h : Own A w e size v n xs) : (v = .slice none 0 0 ∧ n = 0) ∨ ∃ g cap, v = .slice (some ⟨g, 0, none⟩) n cap ∧ n ≤ cap ∧ g < w.heap.size := by
  rcases h.1.2 with ⟨rfl, rfl⟩ | ⟨g, cap, cur, rfl, _, hh, hl, _⟩
  · exact .inl ⟨rfl, rfl⟩
  · exact .inr ⟨g, cap, rfl, hl, (Array.getElem?_eq_some_iff.1 hh).1⟩
/-- Nothing is appended to nil. -/
theorem Mem.wp_zero {P : Program} {w : World} {ops : Array Oper} {rest : List Oper} {o : Oper} {a : Act} {Q : Exit → Act → World → Prop} (hgd : o.guard = none) (s x : Operand) (t : TypeId)
    (ho : o.op = .call { callee := .builtin .append, args := #[s, x], argTypes := #[t, t] }) (e : TypeId) (i : TypeInfo) (ht : P.underlying t = some (.slice e)) (hi : P.info? e = some i)
    (ad : Option Addr) (c : Nat) (hs : a.eval s = .slice none 0 0) (hx : a.eval x = .slice ad 0 c)
    (h : wpList P ops Q rest (a.put o.dst (.slice none 0 0)) w) : wpList P ops Q (o :: rest) a w := by
  refine wpList_plain hgd fun K hK => ?_
  have hrun : (Builtin.append_ #[t, t] o.type #[.slice none 0 0, .slice ad 0 c]).run P w = .ok (.slice none 0 0) w := by
    cases ad <;> simp [Builtin.append_, run_underlying ht, sizeOf, typeInfo, hi, Builtin.lenOf, Builtin.firstCells, loadCells, loadCellsFrom]
  unfold Oper.wp
  simp [execOp, ho, resolve, invoke, builtin, hs, hx, hrun, Result.andThen]
  exact hK _ _ h

/-- A row's end is copied. -/
theorem Mem.wp_copy {P : Program} {w : World} {ops : Array Oper} {rest : List Oper} {o : Oper} {a : Act} {Q : Exit → Act → World → Prop} (hgd : o.guard = none) (s x : Operand) (t : TypeId)
    (ho : o.op = .call { callee := .builtin .append, args := #[s, x], argTypes := #[t, t] })
    (e : TypeId) (i : TypeInfo) (z : Value) (size bytes : Nat) (ht : P.underlying t = some (.slice e)) (hi : P.info? e = some i) (hz : i.zero = some z)
    (hsize : i.size = size) (hby : i.bytes = bytes) (hzs : z.cells.size = size) (hsz : 0 < size) (hbb : bytes ≤ 1000)
    (A : Nat → Prop) (ad : Option Addr) (m c : Nat) (news : List Value) (hs : a.eval s = .slice none 0 0) (hx : a.eval x = .slice ad m c)
    (hl : news.length = m * size) (h1 : (news.all fun u => u.oneCell') = true) (hn : m ≤ 1000000000) (hA : ∀ k, A k → k < w.heap.size)
    (hc : 0 < m → ∃ d, ad = some d ∧ ∀ j u, news[j]? = some u → w.cell? (d.add j) = some u)
    (h : ∀ v' w', Own A w' e size v' m news → Ch (fun _ => False) w w' → (∀ g, v'.ownBlock = some g → w.heap.size ≤ g) → wpList P ops Q rest (a.put o.dst v') w') : wpList P ops Q (o :: rest) a w := by
  rcases Nat.eq_zero_or_pos m with rfl | hm
  · have hnil : news = [] := List.eq_nil_of_length_eq_zero (by omega)
    subst hnil
    refine wp_zero hgd s x t ho e i ht hi ad c hs hx ?_
    exact h _ _ (Own.nil A w e size) (Ch.refl _ w) (by simp [Value.ownBlock])
  · obtain ⟨d, rfl, hd⟩ := hc hm
    refine wpList_append_lies w hgd s x t ho 0 e i z size bytes ht hi hz hsize hby hzs hsz (.slice none 0 0) 0 [] hs (World.ownsRow_nil w 0 e size) d m c news hx hl hd (fun u hu => List.all_eq_true.1 h1 u hu) hm ?_ ?_ (Nat.zero_le _) w.heap.size rfl ?_
    · simp only [maxLen]; omega
    · have : (0 + m) * bytes ≤ 1000000000 * 1000 := Nat.mul_le_mul (by omega) hbb
      omega
    · intro g cap w' hown' hgr hat _
      have hat' : g = w.heap.size := by
        rcases hat with h2 | h2
        · simp [Value.ownBlock] at h2
        · exact h2
      subst hat'
      rw [Nat.zero_add] at hown' ⊢
      rw [List.nil_append] at hown'
      refine h _ _ ⟨hown', fun k hk h3 => ?_⟩ ((Ch.refl _ _).grown hgr fun g hg => absurd hg (by simp [Value.ownBlock])) ?_
      · have hk' : k = w.heap.size := by simpa [Value.ownBlock] using hk.symm
        subst hk'
        exact absurd (hA _ h3) (Nat.lt_irrefl _)
      · intro k hk
        have hk' : k = w.heap.size := by simpa [Value.ownBlock] using hk.symm
        omega

theorem ints_len (l : List Int) : (ints l).length = l.length := by simp [ints]
theorem ints_get {l : List Int} {i : Nat} {x : Int} (h : l[i]? = some x) : (ints l)[i]? = some (.int .i64 x) := by simp [ints, h]
theorem ndsC_get {l : List (Nd × Value)} {i : Nat} {n : Nd} {kv : Value} (h : l[i]? = some (n, kv)) (j : Nat) (hj : j < 10) : (ndsC l)[i * 10 + j]? = (ndC n kv)[j]? := by
  have hlen : ∀ (n : Nd) kv, (ndC n kv).length = 10 := fun _ _ => rfl
  induction l generalizing i with
  | nil => simp at h
  | cons x r ih =>
    unfold ndsC at ih ⊢
    rw [List.flatMap_cons]
    cases i with
    | zero => simp at h; subst h; rw [List.getElem?_append_left (by rw [hlen]; omega)]; simp
    | succ i => rw [List.getElem?_append_right (by rw [hlen]; omega), hlen, show (i + 1) * 10 + j - 10 = i * 10 + j by omega]; exact ih (by simpa using h)


end Go.Proofs.YtllahgnpjodgmaaDoor

set_option linter.unusedVariables false
namespace Go.Proofs.YtllahgnpjodgmaaDoor
open Go Go.RowKit
namespace Mem
theorem size_alloc' (w : World) (o : Obj) : (w.alloc o).heap.size = w.heap.size + 1 := by simp
theorem size_setCell (w : World) (a : Addr) (v : Value) : (w.setCell a v).heap.size = w.heap.size := by simp
theorem size_drew (w : World) : w.drew.heap.size = w.heap.size := rfl

inductive Res where
  | blk (g : Nat) (t : TypeId) (cs : List Value)
  | row (e : TypeId) (size : Nat) (v : Value) (n : Nat) (xs : List Value)
namespace Res
def own : Res → Option Nat
  | .blk g _ _ => some g
  | .row _ _ v _ _ => v.ownBlock
def ok (A : Nat → Prop) (w : World) : Res → Prop
  | .blk g t cs => Blk w g t cs ∧ ¬ A g
  | .row e size v n xs => Own A w e size v n xs
variable {A : Nat → Prop} {w w' : World} {r : Res} {S : Nat → Prop}
theorem ok.lt (h : r.ok A w) {g : Nat} (hg : r.own = some g) : g < w.heap.size := by
  cases r with
  | blk g' t cs => simp only [own, Option.some.injEq] at hg; subst hg; exact h.1.lt
  | row e size v n xs => exact Own.lt h hg
theorem ok.out (h : r.ok A w) {g : Nat} (hg : r.own = some g) : ¬ A g := by
  cases r with
  | blk g' t cs => simp only [own, Option.some.injEq] at hg; subst hg; exact h.2
  | row e size v n xs => exact h.2 g hg
theorem ok.ch (h : r.ok A w) (hc : Ch S w w') (hS : ∀ g, r.own = some g → ¬ S g) : r.ok A w' := by
  cases r with
  | blk g' t cs => exact ⟨h.1.ch hc (hS g' rfl), h.2⟩
  | row e size v n xs => exact Own.ch h hc hS
end Res
/-- Two resources lie apart. -/
def Ap (a b : Res) : Prop := ∀ g, a.own = some g → b.own ≠ some g
theorem Ap.symm {a b : Res} (h : Ap a b) : Ap b a := fun g hg hg' => h g hg' hg

structure Hs (A : Nat → Prop) (w0 w : World) (rs : List Res) : Prop where
  kp : Kp A w0 w
  alt : ∀ k, A k → k < w0.heap.size
  ok : ∀ r ∈ rs, r.ok A w
  apart : rs.Pairwise Ap

namespace Hs
variable {A : Nat → Prop} {w0 w w' : World} {rs rs' : List Res} {S : Nat → Prop}
theorem start (w : World) : Hs (fun k => k < w.heap.size) w w [] := ⟨Kp.refl _ _, fun _ h => h, (fun _ h => nomatch h), List.Pairwise.nil⟩
theorem start' {A : Nat → Prop} (w : World) (h : ∀ k, A k → k < w.heap.size) : Hs A w w [] := ⟨Kp.refl _ _, h, (fun _ h => nomatch h), List.Pairwise.nil⟩
theorem get (h : Hs A w0 w rs) {i : Nat} {r : Res} (hi : rs[i]? = some r) : r.ok A w := h.ok r (List.mem_of_getElem? hi)
theorem perm (h : Hs A w0 w rs) (hp : rs.Perm rs') : Hs A w0 w rs' := ⟨h.kp, h.alt, fun r hr => h.ok r (hp.mem_iff.2 hr), (hp.pairwise_iff (fun h => h.symm)).1 h.apart⟩
theorem sub (h : Hs A w0 w rs) (hs : rs'.Sublist rs) : Hs A w0 w rs' := ⟨h.kp, h.alt, fun r hr => h.ok r (hs.subset hr), h.apart.sublist hs⟩
theorem tail {r : Res} (h : Hs A w0 w (r :: rs)) : Hs A w0 w rs := h.sub (List.sublist_cons_self _ _)
theorem mid {r : Res} {l m : List Res} (h : Hs A w0 w (r :: (l ++ m))) : Hs A w0 w (l ++ r :: m) := h.perm List.perm_middle.symm
theorem front {r : Res} {l m : List Res} (h : Hs A w0 w (l ++ r :: m)) : Hs A w0 w (r :: (l ++ m)) := h.perm List.perm_middle
theorem frontP {l p m : List Res} (h : Hs A w0 w (l ++ (p ++ m))) : Hs A w0 w (p ++ (l ++ m)) := by
  refine h.perm ?_
  rw [← List.append_assoc, ← List.append_assoc]
  exact List.Perm.append_right m List.perm_append_comm
theorem swap {l m : List Res} (h : Hs A w0 w (l ++ m)) : Hs A w0 w (m ++ l) := h.perm List.perm_append_comm
theorem ne (h : Hs A w0 w rs) {i j : Nat} {a b : Res} (hi : rs[i]? = some a) (hj : rs[j]? = some b) (hij : i ≠ j) : Ap a b := by
  have hil : i < rs.length := (List.getElem?_eq_some_iff.1 hi).1
  have hjl : j < rs.length := (List.getElem?_eq_some_iff.1 hj).1
  have ha : rs[i] = a := (List.getElem?_eq_some_iff.1 hi).2
  have hb : rs[j] = b := (List.getElem?_eq_some_iff.1 hj).2
  rcases Nat.lt_or_gt_of_ne hij with h1 | h1
  · have := List.pairwise_iff_getElem.1 h.apart i j hil hjl h1
    rwa [ha, hb] at this
  · have := List.pairwise_iff_getElem.1 h.apart j i hjl hil h1
    rw [ha, hb] at this
    exact this.symm
theorem nin (h : Hs A w0 w rs) {i : Nat} {a : Res} (hi : rs[i]? = some a) {g : Nat} (hg : a.own = some g) : g < w.heap.size ∧ ¬ A g := ⟨(h.get hi).lt hg, (h.get hi).out hg⟩
theorem alt' (h : Hs A w0 w rs) : ∀ k, A k → k < w.heap.size := fun k hk => Nat.lt_of_lt_of_le (h.alt k hk) h.kp.size

/-- The i-th resource alone is changed. -/
theorem turn (h : Hs A w0 w rs) {i : Nat} {r r' : Res} (hi : rs[i]? = some r) (hc : Ch (fun k => r.own = some k) w w') (hr : r'.ok A w') (hat : r'.own = r.own ∨ ∀ g, r'.own = some g → w.heap.size ≤ g) : Hs A w0 w' (rs.set i r') := by
  have hk : Kp A w w' := Kp.of_ch hc h.alt' (fun k hk he => (h.get hi).out he hk)
  refine ⟨h.kp.trans hk, h.alt, ?_, ?_⟩
  · intro q hq
    obtain ⟨j, hj⟩ := List.getElem?_of_mem hq
    by_cases hij : i = j
    · subst hij
      rw [List.getElem?_set_self (List.getElem?_eq_some_iff.1 hi).1] at hj
      injection hj with hj
      subst hj
      exact hr
    · rw [List.getElem?_set_ne hij] at hj
      exact (h.get hj).ch hc (fun g hg he => h.ne hi hj hij g he hg)
  · rw [List.pairwise_iff_getElem]
    intro a b ha' hb' hab
    have ha := ha'
    have hb := hb'
    rw [List.length_set] at ha hb
    have hq : ∀ j (hj : j < rs.length), i ≠ j → Ap r' rs[j] := by
      intro j hj hij g hg hg'
      rcases hat with h1 | h1
      · exact h.ne hi (List.getElem?_eq_getElem hj) hij g (h1 ▸ hg) hg'
      · have := h1 g hg
        have := (h.get (List.getElem?_eq_getElem hj)).lt hg'
        omega
    rw [List.getElem_set, List.getElem_set]
    split
    · subst_vars
      rw [if_neg (by omega)]
      exact hq b hb (by omega)
    · split
      · subst_vars
        exact (hq a ha (by omega)).symm
      · exact List.pairwise_iff_getElem.1 h.apart a b ha hb hab
/-- Something new. -/
theorem new (h : Hs A w0 w rs) {r : Res} (hc : Ch (fun _ => False) w w') (hr : r.ok A w') (hat : ∀ g, r.own = some g → w.heap.size ≤ g) : Hs A w0 w' (r :: rs) := by
  refine ⟨h.kp.trans (Kp.of_ch hc h.alt' (fun _ _ => id)), h.alt, ?_, List.Pairwise.cons ?_ h.apart⟩
  · intro q hq
    rcases List.mem_cons.1 hq with rfl | hq
    · exact hr
    · exact (h.ok q hq).ch hc (fun _ _ => id)
  · intro q hq g hg hg'
    have := hat g hg
    have := (h.ok q hq).lt hg'
    omega
theorem ch0 (h : Hs A w0 w rs) (hc : Ch (fun _ => False) w w') : Hs A w0 w' rs :=
  ⟨h.kp.trans (Kp.of_ch hc h.alt' (fun _ _ => id)), h.alt, fun q hq => (h.ok q hq).ch hc (fun _ _ => id), h.apart⟩
theorem drew (h : Hs A w0 w rs) : Hs A w0 w.drew rs := h.ch0 (Ch.refl _ _).drew
theorem drewN (h : Hs A w0 w rs) (n : Nat) : Hs A w0 (w.drewN n) rs := h.ch0 ((Ch.refl _ _).drewN n)
theorem alloc (h : Hs A w0 w rs) (cs : List Value) (t : TypeId) : Hs A w0 (w.alloc (.cells cs.toArray t)) (.blk w.heap.size t cs :: rs) :=
  h.new ((Ch.refl _ _).alloc _) ⟨Blk.new w t cs, fun hA => Nat.lt_irrefl _ (h.alt' _ hA)⟩ (fun g hg => by simp only [Res.own, Option.some.injEq] at hg; omega)
theorem alloc' (h : Hs A w0 w rs) (o : Obj) : Hs A w0 (w.alloc o) rs := h.ch0 ((Ch.refl _ _).alloc _)
/-- A cell of a block. -/
theorem set_ (h : Hs A w0 w rs) (i : Nat) {g : Nat} {t : TypeId} {cs : List Value} (hi : rs[i]? = some (.blk g t cs)) (j : Nat) (u : Value) : Hs A w0 (w.setCell ⟨g, j, none⟩ u) (rs.set i (.blk g t (cs.set j u))) :=
  h.turn hi (Ch.setCell (S := fun k => some g = some k) (p := ⟨g, j, none⟩) (Ch.refl _ _) rfl u) ⟨(h.get hi).1.set_ j u, (h.get hi).2⟩ (.inl rfl)
/-- A cell of a row. -/
theorem rset (h : Hs A w0 w rs) (i : Nat) {e : TypeId} {size n : Nat} {v : Value} {xs : List Value} (hi : rs[i]? = some (.row e size v n xs)) {g : Nat} (hg : v.ownBlock = some g) (j : Nat) (u : Value) : Hs A w0 (w.setCell ⟨g, j, none⟩ u) (rs.set i (.row e size v n (xs.set j u))) :=
  h.turn hi (Ch.setCell (S := fun k => v.ownBlock = some k) (p := ⟨g, j, none⟩) (Ch.refl _ _) hg u) (Own.set_ (h.get hi) hg j u) (.inl rfl)
/-- A row is cut at its end. -/
theorem cut (h : Hs A w0 w rs) (i : Nat) {e : TypeId} {size n k cap : Nat} {a : Option Addr} {xs : List Value} (hi : rs[i]? = some (.row e size (.slice a n cap) n xs)) (hk : k ≤ n) : Hs A w0 w (rs.set i (.row e size (.slice a k cap) k (xs.take (k * size)))) :=
  h.turn hi (Ch.refl _ _) (Own.cut (h.get hi) hk) (.inl (by cases a <;> rfl))
theorem nil (h : Hs A w0 w rs) (e : TypeId) (size : Nat) : Hs A w0 w (.row e size (.slice none 0 0) 0 [] :: rs) := h.new (Ch.refl _ _) (Own.nil A w e size) (fun g hg => by simp [Res.own, Value.ownBlock] at hg)
/-- A row is forgotten, an empty one put in its place. -/
theorem renil (h : Hs A w0 w rs) (i : Nat) {e : TypeId} {size n : Nat} {v : Value} {xs : List Value} (hi : rs[i]? = some (.row e size v n xs)) : Hs A w0 w (rs.set i (.row e size (.slice none 0 0) 0 [])) :=
  h.turn hi (Ch.refl _ _) (Own.nil A w e size) (.inr (fun g hg => by simp [Res.own, Value.ownBlock] at hg))

/-- What lies in a block. -/
theorem cell (h : Hs A w0 w rs) (i : Nat) {g : Nat} {t : TypeId} {cs : List Value} (hi : rs[i]? = some (.blk g t cs)) (j : Nat) {u : Value} (hu : cs[j]? = some u) : w.cell? ⟨g, j, none⟩ = some u := by rw [(h.get hi).1.cell]; exact hu
theorem froz (h : Hs A w0 w rs) (i : Nat) {g : Nat} {t : TypeId} {cs : List Value} (hi : rs[i]? = some (.blk g t cs)) (j : Nat) : w.frozen? ⟨g, j, none⟩ = false := (h.get hi).1.frozen j
theorem rcell (h : Hs A w0 w rs) (i : Nat) {e : TypeId} {size n : Nat} {v : Value} {xs : List Value} (hi : rs[i]? = some (.row e size v n xs)) {g : Nat} (hg : v.ownBlock = some g) (j : Nat) {u : Value} (hu : xs[j]? = some u) : w.cell? ⟨g, j, none⟩ = some u := Own.cell (h.get hi) hg hu
theorem rfroz (h : Hs A w0 w rs) (i : Nat) {e : TypeId} {size n : Nat} {v : Value} {xs : List Value} (hi : rs[i]? = some (.row e size v n xs)) {g : Nat} (hg : v.ownBlock = some g) (j : Nat) : w.frozen? ⟨g, j, none⟩ = false := Own.frozen (h.get hi) hg j
theorem form (h : Hs A w0 w rs) (i : Nat) {e : TypeId} {size n : Nat} {v : Value} {xs : List Value} (hi : rs[i]? = some (.row e size v n xs)) : ∃ a cap, v = .slice a n cap ∧ n ≤ cap ∧ (0 < n → ∃ g, a = some ⟨g, 0, none⟩ ∧ v.ownBlock = some g) := Own.form (h.get hi)
theorem form2 (h : Hs A w0 w rs) (i : Nat) {e : TypeId} {size n : Nat} {v : Value} {xs : List Value} (hi : rs[i]? = some (.row e size v n xs)) : (v = .slice none 0 0 ∧ n = 0) ∨ ∃ g cap, v = .slice (some ⟨g, 0, none⟩) n cap ∧ n ≤ cap ∧ g < w.heap.size := Own.form2 (h.get hi)
theorem len (h : Hs A w0 w rs) (i : Nat) {e : TypeId} {size n : Nat} {v : Value} {xs : List Value} (hi : rs[i]? = some (.row e size v n xs)) : xs.length = n * size := Own.len (h.get hi)
/-- What was there reads as before. -/
theorem rd (h : Hs A w0 w rs) {a : Option Addr} {xs : List Value} (hr : Rd A w0 a xs) : Rd A w a xs := hr.kp h.kp

/-- A row as what can be read. -/
theorem rdRow (h : Hs A w0 w rs) (i : Nat) {e : TypeId} {size n cap : Nat} {a : Option Addr} {xs : List Value} (hi : rs[i]? = some (.row e size (.slice a n cap) n xs)) (hx : xs ≠ []) : ∃ g, a = some ⟨g, 0, none⟩ ∧ ∀ j u, xs[j]? = some u → w.cell? ⟨g, j, none⟩ = some u := by
  obtain ⟨a', cap', he, _, hg⟩ := h.form i hi
  have hn : 0 < n := by
    have := h.len i hi
    rcases Nat.eq_zero_or_pos n with rfl | h1
    · rw [Nat.zero_mul] at this; exact absurd (List.eq_nil_of_length_eq_zero this) hx
    · exact h1
  obtain ⟨g, hg1, hg2⟩ := hg hn
  injection he with h1 h2 h3
  subst h1 h3
  exact ⟨g, hg1, fun j u hu => h.rcell i hi hg2 j hu⟩

/-- A block as a row of its own. -/
theorem asRow (h : Hs A w0 w rs) (i : Nat) {g : Nat} {t : TypeId} {cs : List Value} (hi : rs[i]? = some (.blk g t cs)) (size n : Nat) (hn : cs.length = n * size) (hm : n ≤ maxLen) : Hs A w0 w (rs.set i (.row t size (.slice (some ⟨g, 0, none⟩) n n) n cs)) := by
  have h1 := (h.get hi).1
  refine h.turn hi (Ch.refl _ _) ⟨⟨hn, .inr ⟨g, n, cs.toArray, rfl, Nat.zero_le _, h1, Nat.le_refl _, hm, by simpa using hn, by simp [← hn]⟩⟩, ?_⟩ (.inl rfl)
  intro g' hg' hA
  have : g' = g := by simpa [Value.ownBlock] using hg'.symm
  exact (h.get hi).2 (this ▸ hA)

/-- One element, which lies in a block of its own, is appended to a row. -/
theorem push {P : Program} {ops : Array Oper} {rest : List Oper} {o : Oper} {a : Act} {Q : Exit → Act → World → Prop} (hgd : o.guard = none) (s x : Operand) (t : TypeId)
    (ho : o.op = .call { callee := .builtin .append, args := #[s, x], argTypes := #[t, t] })
    (e : TypeId) (inf : TypeInfo) (z : Value) (size bytes : Nat) (ht : P.underlying t = some (.slice e)) (hinf : P.info? e = some inf) (hz : inf.zero = some z)
    (hsize : inf.size = size) (hby : inf.bytes = bytes) (hzs : z.cells.size = size) (hsz : 0 < size) (hbb : bytes ≤ 1000)
    (i : Nat) (v : Value) (n : Nat) (xs : List Value) (hi : rs[i]? = some (.row e size v n xs)) (k : Nat) (B : Nat) (news : List Value) (hk : rs[k]? = some (.blk B e news))
    (hs : a.eval s = v) (hx : a.eval x = .slice (some ⟨B, 0, none⟩) 1 1)
    (hl : news.length = size) (h1 : (news.all fun u => u.oneCell') = true) (hn : n ≤ 1000000000) (H : Hs A w0 w rs)
    (h : ∀ v' w', Hs A w0 w' (rs.set i (.row e size v' (n + 1) (xs ++ news))) → wpList P ops Q rest (a.put o.dst v') w') : wpList P ops Q (o :: rest) a w :=
  wp_push hgd s x t ho e inf z size bytes ht hinf hz hsize hby hzs hsz hbb A v n xs news B hs hx hl h1 hn (H.get hi) H.alt' (H.get hk).1
    fun v' w' hown hch hat => h v' w' (H.turn hi hch hown hat)
end Hs

/-- Several elements at once, out of a block of their own. -/
theorem wp_pushN {P : Program} {w : World} {ops : Array Oper} {rest : List Oper} {o : Oper} {a : Act} {Q : Exit → Act → World → Prop} (hgd : o.guard = none) (s x : Operand) (t : TypeId)
    (ho : o.op = .call { callee := .builtin .append, args := #[s, x], argTypes := #[t, t] })
    (e : TypeId) (i : TypeInfo) (z : Value) (size bytes : Nat) (ht : P.underlying t = some (.slice e)) (hi : P.info? e = some i) (hz : i.zero = some z)
    (hsize : i.size = size) (hby : i.bytes = bytes) (hzs : z.cells.size = size) (hsz : 0 < size) (hbb : bytes ≤ 1000)
    (A : Nat → Prop) (v : Value) (n m : Nat) (xs news : List Value) (B : Nat) (hs : a.eval s = v) (hx : a.eval x = .slice (some ⟨B, 0, none⟩) m m) (hm : 0 < m)
    (hl : news.length = m * size) (h1 : (news.all fun u => u.oneCell') = true) (hn : n + m ≤ 1000000001)
    (hown : Own A w e size v n xs) (hA : ∀ k, A k → k < w.heap.size) (hB : Blk w B e news)
    (h : ∀ v' w', Own A w' e size v' (n + m) (xs ++ news) → Ch (fun k => v.ownBlock = some k) w w' → (v'.ownBlock = v.ownBlock ∨ ∀ g, v'.ownBlock = some g → w.heap.size ≤ g) → wpList P ops Q rest (a.put o.dst v') w') : wpList P ops Q (o :: rest) a w := by
  refine wpList_append_lies w hgd s x t ho 0 e i z size bytes ht hi hz hsize hby hzs hsz v n xs hs hown.1 ⟨B, 0, none⟩ m m news hx hl ?_ ?_ hm ?_ ?_ (Nat.zero_le _) w.heap.size rfl ?_
  · intro j u hu
    have hadd : (⟨B, 0, none⟩ : Addr).add j = ⟨B, j, none⟩ := by unfold Addr.add; split <;> simp_all
    rw [hadd, hB.cell]; exact hu
  · intro u hu; exact List.all_eq_true.1 h1 u hu
  · simp only [maxLen]; omega
  · have : (n + m) * bytes ≤ 1000000001 * 1000 := Nat.mul_le_mul (by omega) hbb
    omega
  · intro g cap w' hown' hgr hat _
    refine h _ _ ⟨hown', fun k hk => ?_⟩ ((Ch.refl _ _).grown hgr fun g hg => .inl hg) ?_
    · have hk' : k = g := by simpa [Value.ownBlock] using hk.symm
      subst hk'
      rcases hat with h2 | h2
      · exact hown.2 _ h2
      · intro h3; have := hA _ h3; omega
    · rcases hat with h2 | h2
      · left; rw [h2]; rfl
      · right; intro k hk
        have hk' : k = g := by simpa [Value.ownBlock] using hk.symm
        omega
namespace Hs
variable {A : Nat → Prop} {w0 w : World} {rs : List Res}
theorem pushN {P : Program} {ops : Array Oper} {rest : List Oper} {o : Oper} {a : Act} {Q : Exit → Act → World → Prop} (hgd : o.guard = none) (s x : Operand) (t : TypeId)
    (ho : o.op = .call { callee := .builtin .append, args := #[s, x], argTypes := #[t, t] })
    (e : TypeId) (inf : TypeInfo) (z : Value) (size bytes : Nat) (ht : P.underlying t = some (.slice e)) (hinf : P.info? e = some inf) (hz : inf.zero = some z)
    (hsize : inf.size = size) (hby : inf.bytes = bytes) (hzs : z.cells.size = size) (hsz : 0 < size) (hbb : bytes ≤ 1000)
    (i : Nat) (v : Value) (n : Nat) (xs : List Value) (hi : rs[i]? = some (.row e size v n xs)) (k : Nat) (B m : Nat) (news : List Value) (hk : rs[k]? = some (.blk B e news))
    (hs : a.eval s = v) (hx : a.eval x = .slice (some ⟨B, 0, none⟩) m m) (hm : 0 < m)
    (hl : news.length = m * size) (h1 : (news.all fun u => u.oneCell') = true) (hn : n + m ≤ 1000000001) (H : Hs A w0 w rs)
    (h : ∀ v' w', Hs A w0 w' (rs.set i (.row e size v' (n + m) (xs ++ news))) → wpList P ops Q rest (a.put o.dst v') w') : wpList P ops Q (o :: rest) a w :=
  wp_pushN hgd s x t ho e inf z size bytes ht hinf hz hsize hby hzs hsz hbb A v n m xs news B hs hx hm hl h1 hn (H.get hi) H.alt' (H.get hk).1
    fun v' w' hown hch hat => h v' w' (H.turn hi hch hown hat)
/-- append(nil, xs...): a copy. -/
theorem copy {P : Program} {ops : Array Oper} {rest : List Oper} {o : Oper} {a : Act} {Q : Exit → Act → World → Prop} (hgd : o.guard = none) (s x : Operand) (t : TypeId)
    (ho : o.op = .call { callee := .builtin .append, args := #[s, x], argTypes := #[t, t] })
    (e : TypeId) (inf : TypeInfo) (z : Value) (size bytes : Nat) (ht : P.underlying t = some (.slice e)) (hinf : P.info? e = some inf) (hz : inf.zero = some z)
    (hsize : inf.size = size) (hby : inf.bytes = bytes) (hzs : z.cells.size = size) (hsz : 0 < size) (hbb : bytes ≤ 1000)
    (ad : Option Addr) (m c : Nat) (news : List Value) (hs : a.eval s = .slice none 0 0) (hx : a.eval x = .slice ad m c)
    (hl : news.length = m * size) (h1 : (news.all fun u => u.oneCell') = true) (hn : m ≤ 1000000000)
    (hc : 0 < m → ∃ d, ad = some d ∧ ∀ j u, news[j]? = some u → w.cell? (d.add j) = some u) (H : Hs A w0 w rs)
    (h : ∀ v' w', Hs A w0 w' (.row e size v' m news :: rs) → wpList P ops Q rest (a.put o.dst v') w') : wpList P ops Q (o :: rest) a w :=
  wp_copy hgd s x t ho e inf z size bytes ht hinf hz hsize hby hzs hsz hbb A ad m c news hs hx hl h1 hn H.alt' hc
    fun v' w' hown hch hat => h v' w' (H.new hch hown hat)
end Hs

/-- What a call gives, whatever was held before it. -/
def Gives (w w' : World) (res : List Res) : Prop := ∀ (A : Nat → Prop) (w0 : World) (rs : List Res), Hs A w0 w rs → Hs A w0 w' (res ++ rs)
theorem gives_of {w w' : World} {res : List Res} (h : Hs (fun k => k < w.heap.size) w w' res) : Gives w w' res := by
  intro A w0 rs H
  have hk := h.kp
  have hc : Ch (fun _ => False) w w' := ⟨hk.os, hk.tape, hk.output, hk.size, fun k hk' _ => hk.block k hk'⟩
  refine ⟨H.kp.trans (Kp.of_ch hc H.alt' (fun _ _ => id)), H.alt, ?_, ?_⟩
  · intro r hr
    rcases List.mem_append.1 hr with hr | hr
    · have h1 := h.ok r hr
      cases r with
      | blk g t cs => exact ⟨h1.1, fun hA => h1.2 (H.alt' g hA)⟩
      | row e size v n xs => exact ⟨h1.1, fun g hg hA => h1.2 g hg (H.alt' g hA)⟩
    · exact (H.ok r hr).ch hc (fun _ _ => id)
  · rw [List.pairwise_append]
    refine ⟨h.apart, H.apart, fun a ha b hb g hg hg' => ?_⟩
    exact (h.ok a ha).out hg ((H.ok b hb).lt hg')
theorem Gives.fr {w w' : World} (h : Ch (fun _ => False) w w') : Gives w w' [] := fun A w0 rs H => H.ch0 h
theorem Gives.kp {w w' : World} {res : List Res} (h : Gives w w' res) : Kp (fun k => k < w.heap.size) w w' := (h _ _ _ (Hs.start w)).kp
end Mem
end Go.Proofs.YtllahgnpjodgmaaDoor

set_option linter.unusedVariables false
namespace Go.Proofs.YtllahgnpjodgmaaDoor
open Go Go.RowKit
namespace Mem
theorem wp_push0 {P : Program} {w : World} {ops : Array Oper} {rest : List Oper} {o : Oper} {a : Act} {Q : Exit → Act → World → Prop} (hgd : o.guard = none) (s x : Operand) (t : TypeId)
    (ho : o.op = .call { callee := .builtin .append, args := #[s, x], argTypes := #[t, t] })
    (e : TypeId) (i : TypeInfo) (size : Nat) (ht : P.underlying t = some (.slice e)) (hi : P.info? e = some i)
    (v : Value) (n : Nat) (xs : List Value) (hs : a.eval s = v) (hown : w.ownsRow 0 e size v n xs) (ad : Option Addr) (c : Nat) (hx : a.eval x = .slice ad 0 c)
    (h : wpList P ops Q rest (a.put o.dst v) w) : wpList P ops Q (o :: rest) a w := by
  refine wpList_plain hgd fun K hK => ?_
  have hrun : (Builtin.append_ #[t, t] o.type #[v, .slice ad 0 c]).run P w = .ok v w := by
    rcases hown.2 with ⟨rfl, rfl⟩ | ⟨g, cap, cur, rfl, _, _, hnc, _⟩
    · cases ad <;> simp [Builtin.append_, run_underlying ht, sizeOf, typeInfo, hi, Builtin.lenOf, Builtin.firstCells, loadCells, loadCellsFrom]
    · cases ad <;> simp [Builtin.append_, run_underlying ht, sizeOf, typeInfo, hi, Builtin.lenOf, Builtin.firstCells, hnc, storeCells, loadCells, loadCellsFrom]
  unfold Oper.wp
  simp [execOp, ho, resolve, invoke, builtin, hs, hx, hrun, Result.andThen]
  exact hK _ _ h

theorem wp_pushS {P : Program} {w : World} {ops : Array Oper} {rest : List Oper} {o : Oper} {a : Act} {Q : Exit → Act → World → Prop} (hgd : o.guard = none) (s x : Operand) (t : TypeId)
    (ho : o.op = .call { callee := .builtin .append, args := #[s, x], argTypes := #[t, t] })
    (e : TypeId) (i : TypeInfo) (z : Value) (size bytes : Nat) (ht : P.underlying t = some (.slice e)) (hi : P.info? e = some i) (hz : i.zero = some z)
    (hsize : i.size = size) (hby : i.bytes = bytes) (hzs : z.cells.size = size) (hsz : 0 < size) (hbb : bytes ≤ 1000)
    (A : Nat → Prop) (v : Value) (n m : Nat) (xs news : List Value) (ad : Option Addr) (c : Nat) (hs : a.eval s = v) (hx : a.eval x = .slice ad m c)
    (hl : news.length = m * size) (h1 : (news.all fun u => u.oneCell') = true) (hn : n + m ≤ 1000000001)
    (hown : Own A w e size v n xs) (hA : ∀ k, A k → k < w.heap.size) (hc : 0 < m → ∃ d, ad = some d ∧ ∀ j u, news[j]? = some u → w.cell? (d.add j) = some u)
    (h : ∀ v' w', Own A w' e size v' (n + m) (xs ++ news) → Ch (fun k => v.ownBlock = some k) w w' → (v'.ownBlock = v.ownBlock ∨ ∀ g, v'.ownBlock = some g → w.heap.size ≤ g) → wpList P ops Q rest (a.put o.dst v') w') : wpList P ops Q (o :: rest) a w := by
  rcases Nat.eq_zero_or_pos m with rfl | hm
  · have hnil : news = [] := List.eq_nil_of_length_eq_zero (by omega)
    subst hnil
    refine wp_push0 hgd s x t ho e i size ht hi v n xs hs hown.1 ad c hx ?_
    exact h _ _ (by rw [List.append_nil]; exact hown) (Ch.refl _ w) (.inl rfl)
  obtain ⟨d, rfl, hd⟩ := hc hm
  refine wpList_append_lies w hgd s x t ho 0 e i z size bytes ht hi hz hsize hby hzs hsz v n xs hs hown.1 d m c news hx hl hd (fun u hu => List.all_eq_true.1 h1 u hu) hm ?_ ?_ (Nat.zero_le _) w.heap.size rfl ?_
  · simp only [maxLen]; omega
  · have : (n + m) * bytes ≤ 1000000001 * 1000 := Nat.mul_le_mul (by omega) hbb
    omega
  · intro g cap w' hown' hgr hat _
    refine h _ _ ⟨hown', fun k hk => ?_⟩ ((Ch.refl _ _).grown hgr fun g hg => .inl hg) ?_
    · have hk' : k = g := by simpa [Value.ownBlock] using hk.symm
      subst hk'
      rcases hat with h2 | h2
      · exact hown.2 _ h2
      · intro h3; have := hA _ h3; omega
    · rcases hat with h2 | h2
      · left; rw [h2]; rfl
      · right; intro k hk
        have hk' : k = g := by simpa [Value.ownBlock] using hk.symm
        omega
namespace Hs
variable {A : Nat → Prop} {w0 w : World} {rs : List Res}
/-- What can be read is appended to a row. -/
theorem pushS {P : Program} {ops : Array Oper} {rest : List Oper} {o : Oper} {a : Act} {Q : Exit → Act → World → Prop} (hgd : o.guard = none) (s x : Operand) (t : TypeId)
    (ho : o.op = .call { callee := .builtin .append, args := #[s, x], argTypes := #[t, t] })
    (e : TypeId) (inf : TypeInfo) (z : Value) (size bytes : Nat) (ht : P.underlying t = some (.slice e)) (hinf : P.info? e = some inf) (hz : inf.zero = some z)
    (hsize : inf.size = size) (hby : inf.bytes = bytes) (hzs : z.cells.size = size) (hsz : 0 < size) (hbb : bytes ≤ 1000)
    (i : Nat) (v : Value) (n : Nat) (xs : List Value) (hi : rs[i]? = some (.row e size v n xs)) (ad : Option Addr) (m c : Nat) (news : List Value)
    (hs : a.eval s = v) (hx : a.eval x = .slice ad m c)
    (hl : news.length = m * size) (h1 : (news.all fun u => u.oneCell') = true) (hn : n + m ≤ 1000000001)
    (hc : 0 < m → ∃ d, ad = some d ∧ ∀ j u, news[j]? = some u → w.cell? (d.add j) = some u) (H : Hs A w0 w rs)
    (h : ∀ v' w', Hs A w0 w' (rs.set i (.row e size v' (n + m) (xs ++ news))) → wpList P ops Q rest (a.put o.dst v') w') : wpList P ops Q (o :: rest) a w :=
  wp_pushS hgd s x t ho e inf z size bytes ht hinf hz hsize hby hzs hsz hbb A v n m xs news ad c hs hx hl h1 hn (H.get hi) H.alt' hc
    fun v' w' hown hch hat => h v' w' (H.turn hi hch hown hat)
end Hs
end Mem
end Go.Proofs.YtllahgnpjodgmaaDoor
