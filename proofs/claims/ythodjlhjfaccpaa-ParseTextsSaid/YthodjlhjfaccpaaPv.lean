/- What it means that the parser's struct in memory holds a state of the machine; how that stays true. -/
import Derived.Test.YthodjlhjfaccpaaNa
namespace Go.Proofs.Ythodjlhjfaccpaa
open Go Go.RowKit Mem
namespace Pm

def symFn : Sym → Nat
  | .program => 21
  | .function => 34
  | .functionEnd => 47
  | .block => 46
  | .statements => 56
  | .statement => 59
  | .semi => 70
  | .done => 57
  | .closed => 75
  | .shut => 72
  | .leave => 60
  | .set => 73
  | .arguments => 74
  | .moreArguments => 79
  | .otherwise => 76
  | .condition => 65
  | .expression => 69
  | .both => 77
  | .either => 78
  | .compared => 80
  | .andMore => 81
  | .sum => 83
  | .compare => 84
  | .nothing => 89
  | .product => 87
  | .sumMore => 88
  | .signed => 90
  | .productMore => 91
  | .plain => 92
  | .index => 93
def symVal (gp : Nat) (s : Sym) : Value := .func (.func (symFn s)) #[.pointer (some ⟨gp, 0, none⟩)] #[]

def ints (l : List Int) : List Value := l.map (Value.int .i64)
def tokC (t : Tok) : List Value := [.int .i64 t.kind, .int .i64 t.at_, .int .i64 t.value, .string t.name]
def tokV (t : Tok) : Value := .agg #[.int .i64 t.kind, .int .i64 t.at_, .int .i64 t.value, .string t.name]
def toksC (l : List Tok) : List Value := l.flatMap tokC
def ndC (n : Nd) (kv : Value) : List Value := [.int .i64 n.kind, .int .i64 n.at_, .int .i64 n.where_, .int .i64 n.close, .int .i64 n.decl, .int .i64 n.type, .int .i64 n.op, .int .i64 n.value, .string n.name, kv]
def ndV (n : Nd) (kv : Value) : Value := .agg #[.int .i64 n.kind, .int .i64 n.at_, .int .i64 n.where_, .int .i64 n.close, .int .i64 n.decl, .int .i64 n.type, .int .i64 n.op, .int .i64 n.value, .string n.name, kv]
def ndsC (l : List (Nd × Value)) : List Value := l.flatMap fun x => ndC x.1 x.2
def begC (b : Nd × Nat) : List Value := ndC b.1 (.slice none 0 0) ++ [.int .i64 b.2]
def begsC (l : List (Nd × Nat)) : List Value := l.reverse.flatMap begC

/-- The blocks that are not the parser's: all that was there at first, and locals of the callers. -/
def Out (bd : Nat) (L : List Nat) (k : Nat) : Prop := k < bd ∨ k ∈ L
/-- Two rows lie apart. -/
def NeB (a b : Value) : Prop := ∀ g, a.ownBlock = some g → b.ownBlock ≠ some g

/-- How much the state holds. -/
def PS.sz (s : PS) : Nat := s.todo.length + s.nodes.length + s.funcs.length + s.loose.length + s.begun.length + s.nest.length + s.open_.natAbs

structure PI (bd : Nat) (L : List Nat) (gp : Nat) (s : PS) (w : World) (ta : Option Addr) (tc : Nat) (td nd fu lo be ne : Value) (kvs : List Value) : Prop where
  blk : Blk w gp 60 [.slice ta s.toks.length tc, .int .i64 s.en, .int .i64 s.at_, td, nd, fu, lo, be, .int .i64 s.open_, ne]
  out : ¬ Out bd L gp
  toks : Rd (fun k => k < bd) w ta (toksC s.toks)
  cap : s.toks.length ≤ tc
  ntok : s.toks.length ≤ 1000000000
  at_ : s.at_ ≤ s.toks.length
  todo : Own (Out bd L) w 1 1 td s.todo.length (s.todo.reverse.map (symVal gp))
  nodes : Own (Out bd L) w 42 10 nd s.nodes.length (ndsC (s.nodes.zip kvs))
  kvl : kvs.length = s.nodes.length
  kids : ∀ x ∈ s.nodes.zip kvs, Own (Out bd L) w 3 1 x.2 x.1.kids.length (ints x.1.kids)
  funcs : Own (Out bd L) w 3 1 fu s.funcs.length (ints s.funcs)
  loose : Own (Out bd L) w 3 1 lo s.loose.length (ints s.loose)
  begun : Own (Out bd L) w 94 11 be s.begun.length (begsC s.begun)
  nest : Own (Out bd L) w 3 1 ne s.nest.length (ints s.nest)
  apart : (lo :: fu :: ne :: kvs).Pairwise NeB

def PInv (bd : Nat) (L : List Nat) (gp : Nat) (s : PS) (w : World) : Prop := ∃ ta tc td nd fu lo be ne kvs, PI bd L gp s w ta tc td nd fu lo be ne kvs

/-- A fault that is thrown. -/
def thrown (f : Int × Int) : Ending := .panicked [{ v := .iface 62 (.agg #[.int .i64 f.1, .int .i64 f.2]), recovered := false }]
/-- How a call of the parser ends. -/
def Post (bd : Nat) (L : List Nat) (gp : Nat) (w : World) {α : Type} (val : α → Value) (r : M (α × PS)) (e : Ending) (w' : World) : Prop :=
  Kp (Out bd L) w w' ∧ match r with
    | .ok (v, s') => e = .returned (val v) ∧ PInv bd L gp s' w'
    | .error f => e = thrown f
def unit (_ : Unit) : Value := .tuple #[]
def Post0 (bd : Nat) (L : List Nat) (gp : Nat) (w : World) (r : M PS) (e : Ending) (w' : World) : Prop := Post bd L gp w unit (r.map fun s => ((), s)) e w'

section
variable {bd : Nat} {L : List Nat} {gp : Nat} {s : PS} {w w1 : World} {ta : Option Addr} {tc : Nat} {td nd fu lo be ne : Value} {kvs : List Value}

theorem PI.lt (h : PI bd L gp s w ta tc td nd fu lo be ne kvs) : gp < w.heap.size := h.blk.lt
theorem PI.bd_le (h : PI bd L gp s w ta tc td nd fu lo be ne kvs) : bd ≤ gp := Nat.le_of_not_lt fun hlt => h.out (.inl hlt)

/-- What is changed lies outside of the parser's own. -/
theorem PI.ch {S : Nat → Prop} (h : PI bd L gp s w ta tc td nd fu lo be ne kvs) (hc : Ch S w w1) (hS : ∀ k, S k → bd ≤ k ∧ k ∈ L) : PI bd L gp s w1 ta tc td nd fu lo be ne kvs :=
  have hs : ∀ k, ¬ Out bd L k → ¬ S k := fun k hk hk' => hk (.inr (hS k hk').2)
  have ho : ∀ {e size n v xs}, Own (Out bd L) w e size v n xs → Own (Out bd L) w1 e size v n xs := fun hh => hh.ch hc fun g hg => hs g (hh.2 g hg)
  { blk := h.blk.ch hc (hs gp h.out), out := h.out
    toks := fun hx => by
      obtain ⟨b, off, h1, h2, h3⟩ := h.toks hx
      refine ⟨b, off, h1, h2, fun j u hu => ?_⟩
      have hb : b < w.heap.size := Nat.lt_of_lt_of_le h2 (Nat.le_trans h.bd_le (Nat.le_of_lt h.lt))
      exact (World.cell?_of_block (hc.block b hb fun h' => by have := (hS b h').1; have h2' : b < bd := h2; omega)).trans (h3 j u hu)
    cap := h.cap, ntok := h.ntok, at_ := h.at_, todo := ho h.todo, nodes := ho h.nodes, kvl := h.kvl, kids := fun x hx => ho (h.kids x hx), funcs := ho h.funcs, loose := ho h.loose, begun := ho h.begun, nest := ho h.nest, apart := h.apart }
theorem PI.fr (h : PI bd L gp s w ta tc td nd fu lo be ne kvs) (hc : Fr w w1) : PI bd L gp s w1 ta tc td nd fu lo be ne kvs := h.ch hc fun _ => False.elim
theorem PI.mono {L' : List Nat} (h : PI bd L gp s w ta tc td nd fu lo be ne kvs) (hL : ∀ k, k < w.heap.size → k ∈ L' → Out bd L k) : PI bd L' gp s w ta tc td nd fu lo be ne kvs :=
  have hk : ∀ k, k < w.heap.size → Out bd L' k → Out bd L k := fun k hk h => h.elim .inl (hL k hk)
  have ho : ∀ {e size n v xs}, Own (Out bd L) w e size v n xs → Own (Out bd L') w e size v n xs := fun hh => hh.mono hk
  { blk := h.blk, out := fun h' => h.out (hk gp h.lt h'), toks := h.toks, cap := h.cap, ntok := h.ntok, at_ := h.at_, todo := ho h.todo, nodes := ho h.nodes, kvl := h.kvl, kids := fun x hx => ho (h.kids x hx), funcs := ho h.funcs, loose := ho h.loose, begun := ho h.begun, nest := ho h.nest, apart := h.apart }
theorem PInv.fr (h : PInv bd L gp s w) (hc : Fr w w1) : PInv bd L gp s w1 := by
  obtain ⟨ta, tc, td, nd, fu, lo, be, ne, kvs, h⟩ := h
  exact ⟨ta, tc, td, nd, fu, lo, be, ne, kvs, h.fr hc⟩
theorem PInv.mono {L' : List Nat} (h : PInv bd L gp s w) (hL : ∀ k, k < w.heap.size → k ∈ L' → Out bd L k) : PInv bd L' gp s w := by
  obtain ⟨ta, tc, td, nd, fu, lo, be, ne, kvs, h⟩ := h
  exact ⟨ta, tc, td, nd, fu, lo, be, ne, kvs, h.mono hL⟩
/-- Locals are forgotten. -/
theorem PInv.drop {L' : List Nat} (h : PInv bd L gp s w) (hL : ∀ k, k ∈ L' → k ∈ L) : PInv bd L' gp s w := h.mono fun k _ hk => .inr (hL k hk)
/-- A new block is a local. -/
theorem PInv.local_ (h : PInv bd L gp s w) (o : Obj) : PInv bd (w.heap.size :: L) gp s (w.alloc o) :=
  (h.mono (L' := w.heap.size :: L) fun k hk hm => by
    rcases List.mem_cons.1 hm with h1 | h1
    · omega
    · exact .inr h1).fr ((Ch.refl _ _).alloc o)
theorem PInv.lt (h : PInv bd L gp s w) : gp < w.heap.size := by
  obtain ⟨ta, tc, td, nd, fu, lo, be, ne, kvs, h⟩ := h
  exact h.lt
theorem PInv.bd_le (h : PInv bd L gp s w) : bd ≤ gp := by
  obtain ⟨ta, tc, td, nd, fu, lo, be, ne, kvs, h⟩ := h
  exact h.bd_le

theorem NeB.symm {a b : Value} (h : NeB a b) : NeB b a := fun g hg hg' => h g hg' hg
theorem PI.lofu (h : PI bd L gp s w ta tc td nd fu lo be ne kvs) : NeB lo fu := (List.pairwise_cons.1 h.apart).1 _ (by simp)
theorem PI.lone (h : PI bd L gp s w ta tc td nd fu lo be ne kvs) : NeB lo ne := (List.pairwise_cons.1 h.apart).1 _ (by simp)
theorem PI.lokv (h : PI bd L gp s w ta tc td nd fu lo be ne kvs) : ∀ v ∈ kvs, NeB lo v := fun v hv => (List.pairwise_cons.1 h.apart).1 _ (by simp [hv])
theorem PI.fune (h : PI bd L gp s w ta tc td nd fu lo be ne kvs) : NeB fu ne := (List.pairwise_cons.1 (List.pairwise_cons.1 h.apart).2).1 _ (by simp)
theorem PI.fukv (h : PI bd L gp s w ta tc td nd fu lo be ne kvs) : ∀ v ∈ kvs, NeB fu v := fun v hv => (List.pairwise_cons.1 (List.pairwise_cons.1 h.apart).2).1 _ (by simp [hv])
theorem PI.nekv (h : PI bd L gp s w ta tc td nd fu lo be ne kvs) : ∀ v ∈ kvs, NeB ne v := fun _ hv => (List.pairwise_cons.1 (List.pairwise_cons.1 (List.pairwise_cons.1 h.apart).2).2).1 _ hv
theorem zip_kv {l : List Nd} {kvs : List Value} {x : Nd × Value} (h : x ∈ l.zip kvs) : x.2 ∈ kvs := (List.of_mem_zip h).2

theorem toks_ch {S : Nat → Prop} {xs : List Value} (hb : bd ≤ w.heap.size) (h : Rd (fun k => k < bd) w ta xs) (hc : Ch S w w1) (hS : ∀ k, S k → bd ≤ k) : Rd (fun k => k < bd) w1 ta xs := fun hx => by
  obtain ⟨b, off, h1, h2, h3⟩ := h hx
  have h2' : b < bd := h2
  exact ⟨b, off, h1, h2, fun j u hu => (World.cell?_of_block (hc.block b (by omega) fun h' => by have := hS b h'; omega)).trans (h3 j u hu)⟩
theorem Own.bd_le {e : TypeId} {size n : Nat} {v : Value} {xs : List Value} (h : Own (Out bd L) w e size v n xs) {g : Nat} (hg : v.ownBlock = some g) : bd ≤ g := Nat.le_of_not_lt fun hlt => h.2 g hg (.inl hlt)

/-- The numbers of the state alone. -/
theorem PI.upd0 {a' : Nat} {o' : Int} (h : PI bd L gp s w ta tc td nd fu lo be ne kvs) (hc : Ch (fun k => k = gp) w w1) (ha : a' ≤ s.toks.length)
    (hb : Blk w1 gp 60 [.slice ta s.toks.length tc, .int .i64 s.en, .int .i64 a', td, nd, fu, lo, be, .int .i64 o', ne]) :
    PI bd L gp { s with at_ := a', open_ := o' } w1 ta tc td nd fu lo be ne kvs :=
  have ho : ∀ {e size n v xs}, Own (Out bd L) w e size v n xs → e ≠ 60 → Own (Out bd L) w1 e size v n xs := fun hh hne => hh.ch hc fun g hg he => hh.ne_blk h.blk hne (he ▸ hg)
  { blk := hb, out := h.out, toks := toks_ch (Nat.le_trans h.bd_le (Nat.le_of_lt h.lt)) h.toks hc fun k hk => hk ▸ h.bd_le, cap := h.cap, ntok := h.ntok, at_ := ha, todo := ho h.todo (by decide), nodes := ho h.nodes (by decide), kvl := h.kvl,
    kids := fun x hx => ho (h.kids x hx) (by decide), funcs := ho h.funcs (by decide), loose := ho h.loose (by decide), begun := ho h.begun (by decide), nest := ho h.nest (by decide), apart := h.apart }
theorem PI.updTodo {td' : Value} {l : List Sym} (h : PI bd L gp s w ta tc td nd fu lo be ne kvs) (hc : Ch (fun k => k = gp ∨ td.ownBlock = some k) w w1)
    (hb : Blk w1 gp 60 [.slice ta s.toks.length tc, .int .i64 s.en, .int .i64 s.at_, td', nd, fu, lo, be, .int .i64 s.open_, ne])
    (hr : Own (Out bd L) w1 1 1 td' l.length (l.reverse.map (symVal gp))) : PI bd L gp { s with todo := l } w1 ta tc td' nd fu lo be ne kvs :=
  have ho : ∀ {e size n v xs}, Own (Out bd L) w e size v n xs → e ≠ 60 → e ≠ 1 → Own (Out bd L) w1 e size v n xs := fun hh hne hn1 => hh.ch hc fun g hg he => he.elim (fun he => hh.ne_blk h.blk hne (he ▸ hg)) (hh.ne_own h.todo hn1 g hg)
  { blk := hb, out := h.out, toks := toks_ch (Nat.le_trans h.bd_le (Nat.le_of_lt h.lt)) h.toks hc fun k hk => hk.elim (fun hk => hk ▸ h.bd_le) (Own.bd_le h.todo), cap := h.cap, ntok := h.ntok, at_ := h.at_, todo := hr, nodes := ho h.nodes (by decide) (by decide), kvl := h.kvl,
    kids := fun x hx => ho (h.kids x hx) (by decide) (by decide), funcs := ho h.funcs (by decide) (by decide), loose := ho h.loose (by decide) (by decide), begun := ho h.begun (by decide) (by decide), nest := ho h.nest (by decide) (by decide), apart := h.apart }
theorem PI.updBegun {be' : Value} {l : List (Nd × Nat)} (h : PI bd L gp s w ta tc td nd fu lo be ne kvs) (hc : Ch (fun k => k = gp ∨ be.ownBlock = some k) w w1)
    (hb : Blk w1 gp 60 [.slice ta s.toks.length tc, .int .i64 s.en, .int .i64 s.at_, td, nd, fu, lo, be', .int .i64 s.open_, ne])
    (hr : Own (Out bd L) w1 94 11 be' l.length (begsC l)) : PI bd L gp { s with begun := l } w1 ta tc td nd fu lo be' ne kvs :=
  have ho : ∀ {e size n v xs}, Own (Out bd L) w e size v n xs → e ≠ 60 → e ≠ 94 → Own (Out bd L) w1 e size v n xs := fun hh hne hn1 => hh.ch hc fun g hg he => he.elim (fun he => hh.ne_blk h.blk hne (he ▸ hg)) (hh.ne_own h.begun hn1 g hg)
  { blk := hb, out := h.out, toks := toks_ch (Nat.le_trans h.bd_le (Nat.le_of_lt h.lt)) h.toks hc fun k hk => hk.elim (fun hk => hk ▸ h.bd_le) (Own.bd_le h.begun), cap := h.cap, ntok := h.ntok, at_ := h.at_, todo := ho h.todo (by decide) (by decide), nodes := ho h.nodes (by decide) (by decide), kvl := h.kvl,
    kids := fun x hx => ho (h.kids x hx) (by decide) (by decide), funcs := ho h.funcs (by decide) (by decide), loose := ho h.loose (by decide) (by decide), begun := hr, nest := ho h.nest (by decide) (by decide), apart := h.apart }
/-- A new node; its kids are a row of their own. -/
theorem PI.updNodes {nd' kv : Value} {n : Nd} (h : PI bd L gp s w ta tc td nd fu lo be ne kvs) (hc : Ch (fun k => k = gp ∨ nd.ownBlock = some k) w w1)
    (hb : Blk w1 gp 60 [.slice ta s.toks.length tc, .int .i64 s.en, .int .i64 s.at_, td, nd', fu, lo, be, .int .i64 s.open_, ne])
    (hr : Own (Out bd L) w1 42 10 nd' (s.nodes.length + 1) (ndsC (s.nodes.zip kvs) ++ ndC n kv)) (hk : Own (Out bd L) w 3 1 kv n.kids.length (ints n.kids))
    (hlo : NeB lo kv) (hfu : NeB fu kv) (hne : NeB ne kv) (hkv : ∀ v ∈ kvs, NeB v kv) : PI bd L gp { s with nodes := s.nodes ++ [n] } w1 ta tc td nd' fu lo be ne (kvs ++ [kv]) :=
  have ho : ∀ {e size n v xs}, Own (Out bd L) w e size v n xs → e ≠ 60 → e ≠ 42 → Own (Out bd L) w1 e size v n xs := fun hh hne hn1 => hh.ch hc fun g hg he => he.elim (fun he => hh.ne_blk h.blk hne (he ▸ hg)) (hh.ne_own h.nodes hn1 g hg)
  have hz : (s.nodes ++ [n]).zip (kvs ++ [kv]) = s.nodes.zip kvs ++ [(n, kv)] := by rw [List.zip_append h.kvl.symm]; rfl
  { blk := hb, out := h.out, toks := toks_ch (Nat.le_trans h.bd_le (Nat.le_of_lt h.lt)) h.toks hc fun k hk => hk.elim (fun hk => hk ▸ h.bd_le) (Own.bd_le h.nodes), cap := h.cap, ntok := h.ntok, at_ := h.at_, todo := ho h.todo (by decide) (by decide),
    nodes := by rw [hz]; simpa [ndsC] using hr
    kvl := by simp [h.kvl]
    kids := fun x hx => by
      rw [hz] at hx
      rcases List.mem_append.1 hx with hx | hx
      · exact ho (h.kids x hx) (by decide) (by decide)
      · simp at hx; subst hx; exact ho hk (by decide) (by decide)
    funcs := ho h.funcs (by decide) (by decide), loose := ho h.loose (by decide) (by decide), begun := ho h.begun (by decide) (by decide), nest := ho h.nest (by decide) (by decide)
    apart := by
      have h1 := h.apart
      rw [show lo :: fu :: ne :: (kvs ++ [kv]) = (lo :: fu :: ne :: kvs) ++ [kv] from rfl, List.pairwise_append]
      refine ⟨h1, by simp, fun a ha b hb => ?_⟩
      simp only [List.mem_singleton] at hb
      subst hb
      simp only [List.mem_cons] at ha
      rcases ha with rfl | rfl | rfl | ha
      · exact hlo
      · exact hfu
      · exact hne
      · exact hkv a ha }
/-- One of the three rows of numbers. -/
theorem PI.updLoose {lo' : Value} {l : List Int} (h : PI bd L gp s w ta tc td nd fu lo be ne kvs) (hc : Ch (fun k => k = gp ∨ lo.ownBlock = some k) w w1)
    (hb : Blk w1 gp 60 [.slice ta s.toks.length tc, .int .i64 s.en, .int .i64 s.at_, td, nd, fu, lo', be, .int .i64 s.open_, ne])
    (hr : Own (Out bd L) w1 3 1 lo' l.length (ints l)) (hat : lo'.ownBlock = lo.ownBlock ∨ ∀ g, lo'.ownBlock = some g → w.heap.size ≤ g) : PI bd L gp { s with loose := l } w1 ta tc td nd fu lo' be ne kvs :=
  have ho : ∀ {e size n v xs}, Own (Out bd L) w e size v n xs → e ≠ 60 → NeB lo v → Own (Out bd L) w1 e size v n xs := fun hh hne hn1 => hh.ch hc fun g hg he => he.elim (fun he => hh.ne_blk h.blk hne (he ▸ hg)) fun he => hn1 g he hg
  have hn : ∀ {e size n v xs}, Own (Out bd L) w e size v n xs → NeB lo v → NeB lo' v := fun hh h1 g hg hg' => hat.elim (fun he => h1 g (he ▸ hg) hg') fun he => by have := he g hg; have := hh.lt hg'; omega
  have hty : ∀ {e size n v xs}, Own (Out bd L) w e size v n xs → e ≠ 3 → NeB lo v := fun hh hne => (fun g hg hg' => hh.ne_own h.loose hne g hg' hg)
  { blk := hb, out := h.out, toks := toks_ch (Nat.le_trans h.bd_le (Nat.le_of_lt h.lt)) h.toks hc fun k hk => hk.elim (fun hk => hk ▸ h.bd_le) (Own.bd_le h.loose), cap := h.cap, ntok := h.ntok, at_ := h.at_, todo := ho h.todo (by decide) (hty h.todo (by decide)), nodes := ho h.nodes (by decide) (hty h.nodes (by decide)), kvl := h.kvl,
    kids := fun x hx => ho (h.kids x hx) (by decide) (h.lokv _ (zip_kv hx)), funcs := ho h.funcs (by decide) h.lofu, loose := hr, begun := ho h.begun (by decide) (hty h.begun (by decide)), nest := ho h.nest (by decide) h.lone
    apart := by
      refine List.pairwise_cons.2 ⟨fun v hv => ?_, (List.pairwise_cons.1 h.apart).2⟩
      simp only [List.mem_cons] at hv
      rcases hv with rfl | rfl | hv
      · exact hn h.funcs h.lofu
      · exact hn h.nest h.lone
      · obtain ⟨i, hi, rfl⟩ := List.getElem_of_mem hv
        have hi' : i < s.nodes.length := h.kvl ▸ hi
        exact hn (h.kids (s.nodes[i], kvs[i]) (List.mem_iff_getElem.2 ⟨i, by rw [List.length_zip]; omega, by simp⟩)) (h.lokv _ (List.getElem_mem hi)) }
theorem PI.updFuncs {fu' : Value} {l : List Int} (h : PI bd L gp s w ta tc td nd fu lo be ne kvs) (hc : Ch (fun k => k = gp ∨ fu.ownBlock = some k) w w1)
    (hb : Blk w1 gp 60 [.slice ta s.toks.length tc, .int .i64 s.en, .int .i64 s.at_, td, nd, fu', lo, be, .int .i64 s.open_, ne])
    (hr : Own (Out bd L) w1 3 1 fu' l.length (ints l)) (hat : fu'.ownBlock = fu.ownBlock ∨ ∀ g, fu'.ownBlock = some g → w.heap.size ≤ g) : PI bd L gp { s with funcs := l } w1 ta tc td nd fu' lo be ne kvs :=
  have ho : ∀ {e size n v xs}, Own (Out bd L) w e size v n xs → e ≠ 60 → NeB fu v → Own (Out bd L) w1 e size v n xs := fun hh hne hn1 => hh.ch hc fun g hg he => he.elim (fun he => hh.ne_blk h.blk hne (he ▸ hg)) fun he => hn1 g he hg
  have hn : ∀ {e size n v xs}, Own (Out bd L) w e size v n xs → NeB fu v → NeB fu' v := fun hh h1 g hg hg' => hat.elim (fun he => h1 g (he ▸ hg) hg') fun he => by have := he g hg; have := hh.lt hg'; omega
  have hty : ∀ {e size n v xs}, Own (Out bd L) w e size v n xs → e ≠ 3 → NeB fu v := fun hh hne => (fun g hg hg' => hh.ne_own h.funcs hne g hg' hg)
  { blk := hb, out := h.out, toks := toks_ch (Nat.le_trans h.bd_le (Nat.le_of_lt h.lt)) h.toks hc fun k hk => hk.elim (fun hk => hk ▸ h.bd_le) (Own.bd_le h.funcs), cap := h.cap, ntok := h.ntok, at_ := h.at_, todo := ho h.todo (by decide) (hty h.todo (by decide)), nodes := ho h.nodes (by decide) (hty h.nodes (by decide)), kvl := h.kvl,
    kids := fun x hx => ho (h.kids x hx) (by decide) (h.fukv _ (zip_kv hx)), funcs := hr, loose := ho h.loose (by decide) h.lofu.symm, begun := ho h.begun (by decide) (hty h.begun (by decide)), nest := ho h.nest (by decide) h.fune
    apart := by
      have hp := h.apart
      simp only [List.pairwise_cons] at hp ⊢
      refine ⟨fun v hv => ?_, fun v hv => ?_, hp.2.2⟩
      · simp only [List.mem_cons] at hv
        rcases hv with rfl | rfl | hv
        · exact (hn h.loose h.lofu.symm).symm
        · exact h.lone
        · exact h.lokv v hv
      · simp only [List.mem_cons] at hv
        rcases hv with rfl | hv
        · exact hn h.nest h.fune
        · obtain ⟨i, hi, rfl⟩ := List.getElem_of_mem hv
          have hi' : i < s.nodes.length := h.kvl ▸ hi
          exact hn (h.kids (s.nodes[i], kvs[i]) (List.mem_iff_getElem.2 ⟨i, by rw [List.length_zip]; omega, by simp⟩)) (h.fukv _ (List.getElem_mem hi)) }
theorem PI.updNest {ne' : Value} {l : List Int} (h : PI bd L gp s w ta tc td nd fu lo be ne kvs) (hc : Ch (fun k => k = gp ∨ ne.ownBlock = some k) w w1)
    (hb : Blk w1 gp 60 [.slice ta s.toks.length tc, .int .i64 s.en, .int .i64 s.at_, td, nd, fu, lo, be, .int .i64 s.open_, ne'])
    (hr : Own (Out bd L) w1 3 1 ne' l.length (ints l)) (hat : ne'.ownBlock = ne.ownBlock ∨ ∀ g, ne'.ownBlock = some g → w.heap.size ≤ g) : PI bd L gp { s with nest := l } w1 ta tc td nd fu lo be ne' kvs :=
  have ho : ∀ {e size n v xs}, Own (Out bd L) w e size v n xs → e ≠ 60 → NeB ne v → Own (Out bd L) w1 e size v n xs := fun hh hne hn1 => hh.ch hc fun g hg he => he.elim (fun he => hh.ne_blk h.blk hne (he ▸ hg)) fun he => hn1 g he hg
  have hn : ∀ {e size n v xs}, Own (Out bd L) w e size v n xs → NeB ne v → NeB ne' v := fun hh h1 g hg hg' => hat.elim (fun he => h1 g (he ▸ hg) hg') fun he => by have := he g hg; have := hh.lt hg'; omega
  have hty : ∀ {e size n v xs}, Own (Out bd L) w e size v n xs → e ≠ 3 → NeB ne v := fun hh hne => (fun g hg hg' => hh.ne_own h.nest hne g hg' hg)
  { blk := hb, out := h.out, toks := toks_ch (Nat.le_trans h.bd_le (Nat.le_of_lt h.lt)) h.toks hc fun k hk => hk.elim (fun hk => hk ▸ h.bd_le) (Own.bd_le h.nest), cap := h.cap, ntok := h.ntok, at_ := h.at_, todo := ho h.todo (by decide) (hty h.todo (by decide)), nodes := ho h.nodes (by decide) (hty h.nodes (by decide)), kvl := h.kvl,
    kids := fun x hx => ho (h.kids x hx) (by decide) (h.nekv _ (zip_kv hx)), funcs := ho h.funcs (by decide) h.fune.symm, loose := ho h.loose (by decide) h.lone.symm, begun := ho h.begun (by decide) (hty h.begun (by decide)), nest := hr
    apart := by
      have hp := h.apart
      simp only [List.pairwise_cons] at hp ⊢
      refine ⟨fun v hv => ?_, fun v hv => ?_, fun v hv => ?_, hp.2.2.2⟩
      · simp only [List.mem_cons] at hv
        rcases hv with rfl | rfl | hv
        · exact h.lofu
        · exact (hn h.loose h.lone.symm).symm
        · exact h.lokv v hv
      · simp only [List.mem_cons] at hv
        rcases hv with rfl | hv
        · exact (hn h.funcs h.fune.symm).symm
        · exact h.fukv v hv
      · obtain ⟨i, hi, rfl⟩ := List.getElem_of_mem hv
        have hi' : i < s.nodes.length := h.kvl ▸ hi
        exact hn (h.kids (s.nodes[i], kvs[i]) (List.mem_iff_getElem.2 ⟨i, by rw [List.length_zip]; omega, by simp⟩)) (h.nekv _ (List.getElem_mem hi)) }
end
end Pm
end Go.Proofs.Ythodjlhjfaccpaa
