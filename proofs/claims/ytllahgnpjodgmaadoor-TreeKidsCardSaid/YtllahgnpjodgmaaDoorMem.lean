/- Words for memory: what has changed, what is kept, what a call owns; blocks that are known whole; slices that read as lists. -/
import Derived.Test.YtllahgnpjodgmaaDoorReg
import Derived.Below
import Derived.Deep.AppendLies
import Derived.OneCell
import Derived.Deep.Draws
namespace Go.Proofs.YtllahgnpjodgmaaDoor
namespace Mem
open Go Go.RowKit

/-- Nothing has changed but the blocks of S and what is new. -/
structure Ch (S : Nat → Prop) (w w' : World) : Prop where
  os : w'.os = w.os
  tape : w'.tape = w.tape
  output : w'.output = w.output
  size : w.heap.size ≤ w'.heap.size
  block : ∀ k, k < w.heap.size → ¬ S k → w'.heap[k]? = w.heap[k]?
namespace Ch
variable {S T : Nat → Prop} {w w1 w2 : World}
theorem refl (S : Nat → Prop) (w : World) : Ch S w w := ⟨rfl, rfl, rfl, Nat.le_refl _, fun _ _ _ => rfl⟩
theorem trans (h : Ch S w w1) (k : Ch S w1 w2) : Ch S w w2 :=
  ⟨k.os.trans h.os, k.tape.trans h.tape, k.output.trans h.output, Nat.le_trans h.size k.size, fun i hi hs => (k.block i (Nat.lt_of_lt_of_le hi h.size) hs).trans (h.block i hi hs)⟩
theorem mono (h : Ch S w w1) (hS : ∀ k, S k → T k) : Ch T w w1 := ⟨h.os, h.tape, h.output, h.size, fun k hk hs => h.block k hk fun h' => hs (hS k h')⟩
theorem alloc (h : Ch S w w1) (o : Obj) : Ch S w (w1.alloc o) :=
  h.trans ⟨rfl, rfl, rfl, by simp, fun k hk _ => Below.heap_alloc _ _ _ hk⟩
theorem drew (h : Ch S w w1) : Ch S w w1.drew := ⟨h.os, h.tape, h.output, h.size, h.block⟩
theorem drewN (h : Ch S w w1) (n : Nat) : Ch S w (w1.drewN n) := ⟨h.os, h.tape, h.output, h.size, h.block⟩
theorem setCell (h : Ch S w w1) {p : Addr} (hp : S p.block) (u : Value) : Ch S w (w1.setCell p u) :=
  h.trans ⟨rfl, rfl, rfl, by simp, fun k _ hs => Below.heap_setCell _ _ _ _ fun e => hs (e ▸ hp)⟩
/-- A store into what is new. -/
theorem setNew (h : Ch S w w1) {p : Addr} (hp : w.heap.size ≤ p.block) (u : Value) : Ch S w (w1.setCell p u) :=
  ⟨h.os, h.tape, h.output, by simpa using h.size, fun k hk hs => (Below.heap_setCell _ _ _ _ (by omega)).trans (h.block k hk hs)⟩
theorem grown {row : Option Nat} (h : Ch S w w1) (hg : w1.grownBy w2 row) (hr : ∀ g, row = some g → S g ∨ w.heap.size ≤ g) : Ch S w w2 :=
  ⟨hg.os.trans h.os, hg.tape.trans h.tape, hg.output.trans h.output, Nat.le_trans h.size hg.size, fun k hk hs =>
    (hg.block k (Nat.lt_of_lt_of_le hk h.size) (fun e => by rcases hr k e.symm with h1 | h1 <;> first | exact hs h1 | omega)).trans (h.block k hk hs)⟩
end Ch

/-- The blocks of A are as they were. -/
structure Kp (A : Nat → Prop) (w w' : World) : Prop where
  os : w'.os = w.os
  tape : w'.tape = w.tape
  output : w'.output = w.output
  size : w.heap.size ≤ w'.heap.size
  block : ∀ k, A k → w'.heap[k]? = w.heap[k]?
namespace Kp
variable {A B : Nat → Prop} {w w1 w2 : World}
theorem refl (A : Nat → Prop) (w : World) : Kp A w w := ⟨rfl, rfl, rfl, Nat.le_refl _, fun _ _ => rfl⟩
theorem trans (h : Kp A w w1) (k : Kp A w1 w2) : Kp A w w2 :=
  ⟨k.os.trans h.os, k.tape.trans h.tape, k.output.trans h.output, Nat.le_trans h.size k.size, fun i hi => (k.block i hi).trans (h.block i hi)⟩
theorem mono (h : Kp A w w1) (hB : ∀ k, B k → A k) : Kp B w w1 := ⟨h.os, h.tape, h.output, h.size, fun k hk => h.block k (hB k hk)⟩
theorem of_ch {S : Nat → Prop} (h : Ch S w w1) (hA : ∀ k, A k → k < w.heap.size) (hS : ∀ k, A k → ¬ S k) : Kp A w w1 :=
  ⟨h.os, h.tape, h.output, h.size, fun k hk => h.block k (hA k hk) (hS k hk)⟩
theorem cell (h : Kp A w w1) {p : Addr} (hp : A p.block) : w1.cell? p = w.cell? p := World.cell?_of_block (h.block _ hp)
theorem frozen (h : Kp A w w1) {p : Addr} (hp : A p.block) : w1.frozen? p = w.frozen? p := World.frozen?_of_block (h.block _ hp)
theorem below {B : Nat} (h : Kp (fun k => k < B) w w1) : Below B w w1 := ⟨h.os, h.tape, h.output, h.size, h.block⟩
theorem drew (h : Kp A w w1) : Kp A w w1.drew := ⟨h.os, h.tape, h.output, h.size, h.block⟩
theorem drewN (h : Kp A w w1) (n : Nat) : Kp A w (w1.drewN n) := ⟨h.os, h.tape, h.output, h.size, h.block⟩
theorem alloc (h : Kp A w w1) (hA : ∀ k, A k → k < w.heap.size) (o : Obj) : Kp A w (w1.alloc o) :=
  ⟨h.os, h.tape, h.output, Nat.le_trans h.size (by simp), fun k hk => (Below.heap_alloc _ _ _ (Nat.lt_of_lt_of_le (hA k hk) h.size)).trans (h.block k hk)⟩
theorem setCell (h : Kp A w w1) {p : Addr} (hp : ¬ A p.block) (u : Value) : Kp A w (w1.setCell p u) :=
  ⟨h.os, h.tape, h.output, by simpa using h.size, fun k hk => (Below.heap_setCell _ _ _ _ fun e => hp (e ▸ hk)).trans (h.block k hk)⟩
end Kp

/-- A block known whole. -/
def Blk (w : World) (g : Nat) (t : TypeId) (cs : List Value) : Prop := w.heap[g]? = some (.cells cs.toArray t (0, 0))
namespace Blk
variable {w w1 : World} {g : Nat} {t : TypeId} {cs : List Value}
theorem lt (h : Blk w g t cs) : g < w.heap.size := by
  rcases Nat.lt_or_ge g w.heap.size with hlt | hge
  · exact hlt
  · unfold Blk at h; rw [Array.getElem?_eq_none hge] at h; cases h
theorem cell (h : Blk w g t cs) (i : Nat) : w.cell? ⟨g, i, none⟩ = cs[i]? := by rw [cell_of_row w g i cs.toArray t (0, 0) h]; simp
theorem frozen (h : Blk w g t cs) (i : Nat) : w.frozen? ⟨g, i, none⟩ = false := by
  unfold Blk at h
  simp [World.frozen?, h]
theorem new (w : World) (t : TypeId) (cs : List Value) : Blk (w.alloc (.cells cs.toArray t)) w.heap.size t cs := heap_alloc_new w _
theorem drew (h : Blk w g t cs) : Blk w.drew g t cs := h
theorem drewN (h : Blk w g t cs) (n : Nat) : Blk (w.drewN n) g t cs := h
theorem alloc (h : Blk w g t cs) (o : Obj) : Blk (w.alloc o) g t cs := (Below.heap_alloc w o g h.lt).trans h
theorem set_ (h : Blk w g t cs) (i : Nat) (u : Value) : Blk (w.setCell ⟨g, i, none⟩ u) g t (cs.set i u) := by
  unfold Blk at h ⊢
  simp [World.setCell, Array.getElem?_modify, h]
theorem far (h : Blk w g t cs) {p : Addr} (hp : g ≠ p.block) (u : Value) : Blk (w.setCell p u) g t cs := (Below.heap_setCell w p u g hp).trans h
theorem ch {S : Nat → Prop} (h : Blk w g t cs) (hc : Ch S w w1) (hg : ¬ S g) : Blk w1 g t cs := (hc.block g h.lt hg).trans h
theorem kp {A : Nat → Prop} (h : Blk w g t cs) (hc : Kp A w w1) (hg : A g) : Blk w1 g t cs := (hc.block g hg).trans h
theorem ne_ {g' : Nat} {t' : TypeId} {cs' : List Value} (h : Blk w g t cs) (h' : Blk w g' t' cs') (hne : t ≠ t') : g ≠ g' := by
  rintro rfl
  unfold Blk at h h'
  rw [h] at h'
  injection h' with h'
  injection h' with _ ht
  exact hne ht
end Blk

/-- A row of the call's own, outside of A. -/
def Own (A : Nat → Prop) (w : World) (e : TypeId) (size : Nat) (v : Value) (n : Nat) (xs : List Value) : Prop :=
  w.ownsRow 0 e size v n xs ∧ ∀ g, v.ownBlock = some g → ¬ A g
namespace Own
variable {A : Nat → Prop} {w w1 : World} {e : TypeId} {size n : Nat} {v : Value} {xs : List Value}
theorem nil (A : Nat → Prop) (w : World) (e : TypeId) (size : Nat) : Own A w e size (.slice none 0 0) 0 [] := ⟨World.ownsRow_nil w 0 e size, by simp [Value.ownBlock]⟩
theorem lt (h : Own A w e size v n xs) {g : Nat} (hg : v.ownBlock = some g) : g < w.heap.size := (h.1.lt g hg).2
theorem ch {S : Nat → Prop} (h : Own A w e size v n xs) (hc : Ch S w w1) (hS : ∀ g, v.ownBlock = some g → ¬ S g) : Own A w1 e size v n xs := by
  refine ⟨⟨h.1.1, ?_⟩, h.2⟩
  rcases h.1.2 with hn | ⟨g, cap, cur, rfl, hb, hgg, rest⟩
  · exact .inl hn
  · refine .inr ⟨g, cap, cur, rfl, hb, ?_, rest⟩
    rw [hc.block g (Array.getElem?_eq_some_iff.1 hgg).1 (hS g (by simp [Value.ownBlock]))]
    exact hgg
theorem drew (h : Own A w e size v n xs) : Own A w.drew e size v n xs := h
theorem alloc (h : Own A w e size v n xs) (o : Obj) : Own A (w.alloc o) e size v n xs := h.ch (S := fun _ => False) ((Ch.refl _ _).alloc o) (by simp)
theorem mono {B : Nat → Prop} (h : Own A w e size v n xs) (hB : ∀ k, k < w.heap.size → B k → A k) : Own B w e size v n xs := ⟨h.1, fun g hg hb => h.2 g hg (hB g (h.lt hg) hb)⟩
theorem len (h : Own A w e size v n xs) : xs.length = n * size := h.1.1
/-- What the value looks like. -/
theorem form (h : Own A w e size v n xs) : ∃ a cap, v = .slice a n cap ∧ n ≤ cap ∧ (0 < n → ∃ g, a = some ⟨g, 0, none⟩ ∧ v.ownBlock = some g) := by
  rcases h.1.2 with ⟨rfl, rfl⟩ | ⟨g, cap, cur, rfl, _, _, hl, _⟩
  · exact ⟨none, 0, rfl, Nat.le_refl _, fun h => absurd h (Nat.lt_irrefl 0)⟩
  · exact ⟨_, cap, rfl, hl, fun _ => ⟨g, rfl, rfl⟩⟩
theorem cell (h : Own A w e size v n xs) {g : Nat} (hg : v.ownBlock = some g) {j : Nat} {u : Value} (hu : xs[j]? = some u) : w.cell? ⟨g, j, none⟩ = some u := by
  have := h.1.cells hg j u hu
  have hadd : (⟨g, 0, none⟩ : Addr).add j = ⟨g, j, none⟩ := by unfold Addr.add; split <;> simp_all
  rwa [hadd] at this
theorem frozen (h : Own A w e size v n xs) {g : Nat} (hg : v.ownBlock = some g) (j : Nat) : w.frozen? ⟨g, j, none⟩ = false := by
  rcases h.1.2 with ⟨rfl, _⟩ | ⟨g', cap, cur, rfl, _, hgg, _⟩
  · simp [Value.ownBlock] at hg
  · simp [Value.ownBlock] at hg; subst hg; simp [World.frozen?, hgg]
theorem ne_blk (h : Own A w e size v n xs) {g : Nat} {t : TypeId} {cs : List Value} (hb : Blk w g t cs) (hne : e ≠ t) : v.ownBlock ≠ some g := by
  rcases h.1.2 with ⟨rfl, _⟩ | ⟨g', cap, cur, rfl, _, hh, _⟩
  · simp [Value.ownBlock]
  · intro he
    have : g' = g := by simpa [Value.ownBlock] using he
    subst this
    unfold Blk at hb
    rw [hb] at hh
    injection hh with hh
    injection hh with _ ht
    exact hne ht.symm
/-- Rows of unlike elements lie apart. -/
theorem ne_own {B : Nat → Prop} {e' : TypeId} {size' n' : Nat} {v' : Value} {xs' : List Value} (h : Own A w e size v n xs) (h' : Own B w e' size' v' n' xs') (hne : e ≠ e') : ∀ g, v.ownBlock = some g → v'.ownBlock ≠ some g := by
  intro g hg hg'
  rcases h.1.2 with ⟨rfl, _⟩ | ⟨g1, cap, cur, rfl, _, hh, _⟩
  · simp [Value.ownBlock] at hg
  rcases h'.1.2 with ⟨rfl, _⟩ | ⟨g2, cap', cur', rfl, _, hh', _⟩
  · simp [Value.ownBlock] at hg'
  simp [Value.ownBlock] at hg hg'
  subst hg hg'
  rw [hh] at hh'
  injection hh' with hh'
  injection hh' with _ ht
  exact hne ht
/-- Cut at its end. -/
theorem cut {k : Nat} {a : Option Addr} {cap : Nat} (h : Own A w e size (.slice a n cap) n xs) (hk : k ≤ n) : Own A w e size (.slice a k cap) k (xs.take (k * size)) := by
  refine ⟨⟨by rw [List.length_take, h.1.1]; exact Nat.min_eq_left (Nat.mul_le_mul_right _ hk), ?_⟩, fun g hg => h.2 g (by cases a <;> exact hg)⟩
  rcases h.1.2 with ⟨he, hn⟩ | ⟨g, c, cur, he, hb, hg, hl, hm, hs, ht⟩
  · left
    injection he with h1 h2 h3
    subst h1 h3
    have : k = 0 := by omega
    subst this
    exact ⟨rfl, rfl⟩
  · right
    injection he with h1 h2 h3
    subst h1 h3
    exact ⟨g, cap, cur, rfl, hb, hg, by omega, hm, hs, by rw [← ht, List.take_take, Nat.min_eq_left (Nat.mul_le_mul_right _ hk)]⟩
/-- One cell is set. -/
theorem set_ (h : Own A w e size v n xs) {g : Nat} (hg : v.ownBlock = some g) (j : Nat) (u : Value) : Own A (w.setCell ⟨g, j, none⟩ u) e size v n (xs.set j u) := by
  refine ⟨⟨by simpa using h.1.1, ?_⟩, h.2⟩
  rcases h.1.2 with ⟨rfl, _⟩ | ⟨g', cap, cur, rfl, hb, hh, hl, hm, hs, ht⟩
  · simp [Value.ownBlock] at hg
  · simp [Value.ownBlock] at hg
    subst hg
    refine .inr ⟨g', cap, cur.setIfInBounds j u, rfl, hb, heap_setCell_same w g' j cur e u hh, hl, hm, by simpa using hs, ?_⟩
    simp only [Array.toList_setIfInBounds]
    rw [← ht, List.take_set]
end Own

/-- A slice that reads as these cells, in blocks of A. -/
def Rd (A : Nat → Prop) (w : World) (a : Option Addr) (xs : List Value) : Prop :=
  xs ≠ [] → ∃ b off, a = some ⟨b, off, none⟩ ∧ A b ∧ ∀ j u, xs[j]? = some u → w.cell? ⟨b, off + j, none⟩ = some u
namespace Rd
variable {A : Nat → Prop} {w w1 : World} {a : Option Addr} {xs : List Value}
theorem kp (h : Rd A w a xs) (hk : Kp A w w1) : Rd A w1 a xs := fun hx => by
  obtain ⟨b, off, h1, h2, h3⟩ := h hx
  exact ⟨b, off, h1, h2, fun j u hu => (hk.cell h2).trans (h3 j u hu)⟩
theorem more {B : Nat → Prop} (h : Rd A w a xs) (hB : ∀ k, A k → B k) : Rd B w a xs := fun hx => by
  obtain ⟨b, off, h1, h2, h3⟩ := h hx
  exact ⟨b, off, h1, hB b h2, h3⟩
end Rd

/-- One element, which lies in a block of its own, is appended to a row of the call's own. -/
theorem wp_push {P : Program} {w : World} {ops : Array Oper} {rest : List Oper} {o : Oper} {a : Act} {Q : Exit → Act → World → Prop} (hgd : o.guard = none) (s x : Operand) (t : TypeId)
    (ho : o.op = .call { callee := .builtin .append, args := #[s, x], argTypes := #[t, t] })
    (e : TypeId) (i : TypeInfo) (z : Value) (size bytes : Nat) (ht : P.underlying t = some (.slice e)) (hi : P.info? e = some i) (hz : i.zero = some z)
    (hsize : i.size = size) (hby : i.bytes = bytes) (hzs : z.cells.size = size) (hsz : 0 < size) (hbb : bytes ≤ 1000)
    (A : Nat → Prop) (v : Value) (n : Nat) (xs news : List Value) (B : Nat) (hs : a.eval s = v) (hx : a.eval x = .slice (some ⟨B, 0, none⟩) 1 1)
    (hl : news.length = size) (h1 : (news.all fun u => u.oneCell') = true) (hn : n ≤ 1000000000)
    (hown : Own A w e size v n xs) (hA : ∀ k, A k → k < w.heap.size) (hB : Blk w B e news)
    (h : ∀ v' w', Own A w' e size v' (n + 1) (xs ++ news) → Ch (fun k => v.ownBlock = some k) w w' → (v'.ownBlock = v.ownBlock ∨ ∀ g, v'.ownBlock = some g → w.heap.size ≤ g) → wpList P ops Q rest (a.put o.dst v') w') : wpList P ops Q (o :: rest) a w := by
  refine wpList_append_lies w hgd s x t ho 0 e i z size bytes ht hi hz hsize hby hzs hsz v n xs hs hown.1 ⟨B, 0, none⟩ 1 1 news hx (by rw [hl, Nat.one_mul]) ?_ ?_ (by omega) ?_ ?_ (Nat.zero_le _) w.heap.size rfl ?_
  · intro j u hu
    have hadd : (⟨B, 0, none⟩ : Addr).add j = ⟨B, j, none⟩ := by unfold Addr.add; split <;> simp_all
    rw [hadd, hB.cell]; exact hu
  · intro u hu; exact List.all_eq_true.1 h1 u hu
  · simp only [maxLen]; omega
  · have : (n + 1) * bytes ≤ 1000000001 * 1000 := Nat.mul_le_mul (by omega) hbb
    omega
  · intro g cap w' hown' hgr hat _
    refine h _ _ ⟨hown', fun k hk => ?_⟩ ((Ch.refl _ _).grown hgr fun g hg => .inl hg) ?_
    · have hk' : k = g := by simpa [Value.ownBlock] using hk.symm
      subst hk'
      rcases hat with h2 | h2
      · exact hown.2 _ h2
      · intro h3; have := hA _ h3; omega
    · rcases hat with h2 | h2
      · left; rw [h2]; rfl
      · right; intro k hk
        have hk' : k = g := by simpa [Value.ownBlock] using hk.symm
        omega
end Mem
end Go.Proofs.YtllahgnpjodgmaaDoor
