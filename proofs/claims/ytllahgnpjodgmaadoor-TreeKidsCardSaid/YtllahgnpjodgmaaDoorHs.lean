/- What a call holds: blocks known whole and rows of its own, all apart from one another and from what was there; each step of a walk takes one such list to the next. -/
import Derived.Test.YtllahgnpjodgmaaDoorBa
set_option linter.unusedVariables false
namespace Go.Proofs.YtllahgnpjodgmaaDoor
open Go Go.RowKit
namespace Mem
theorem size_alloc' (w : World) (o : Obj) : (w.alloc o).heap.size = w.heap.size + 1 := by simp
theorem size_setCell (w : World) (a : Addr) (v : Value) : (w.setCell a v).heap.size = w.heap.size := by simp
theorem size_drew (w : World) : w.drew.heap.size = w.heap.size := rfl

inductive Res where
  | blk (g : Nat) (t : TypeId) (cs : List Value)
  | row (e : TypeId) (size : Nat) (v : Value) (n : Nat) (xs : List Value)
namespace Res
def own : Res → Option Nat
  | .blk g _ _ => some g
  | .row _ _ v _ _ => v.ownBlock
def ok (A : Nat → Prop) (w : World) : Res → Prop
  | .blk g t cs => Blk w g t cs ∧ ¬ A g
  | .row e size v n xs => Own A w e size v n xs
variable {A : Nat → Prop} {w w' : World} {r : Res} {S : Nat → Prop}
theorem ok.lt (h : r.ok A w) {g : Nat} (hg : r.own = some g) : g < w.heap.size := by
  cases r with
  | blk g' t cs => simp only [own, Option.some.injEq] at hg; subst hg; exact h.1.lt
  | row e size v n xs => exact Own.lt h hg
theorem ok.out (h : r.ok A w) {g : Nat} (hg : r.own = some g) : ¬ A g := by
  cases r with
  | blk g' t cs => simp only [own, Option.some.injEq] at hg; subst hg; exact h.2
  | row e size v n xs => exact h.2 g hg
theorem ok.ch (h : r.ok A w) (hc : Ch S w w') (hS : ∀ g, r.own = some g → ¬ S g) : r.ok A w' := by
  cases r with
  | blk g' t cs => exact ⟨h.1.ch hc (hS g' rfl), h.2⟩
  | row e size v n xs => exact Own.ch h hc hS
end Res
/-- Two resources lie apart. -/
def Ap (a b : Res) : Prop := ∀ g, a.own = some g → b.own ≠ some g
theorem Ap.symm {a b : Res} (h : Ap a b) : Ap b a := fun g hg hg' => h g hg' hg

structure Hs (A : Nat → Prop) (w0 w : World) (rs : List Res) : Prop where
  kp : Kp A w0 w
  alt : ∀ k, A k → k < w0.heap.size
  ok : ∀ r ∈ rs, r.ok A w
  apart : rs.Pairwise Ap

namespace Hs
variable {A : Nat → Prop} {w0 w w' : World} {rs rs' : List Res} {S : Nat → Prop}
theorem start (w : World) : Hs (fun k => k < w.heap.size) w w [] := ⟨Kp.refl _ _, fun _ h => h, (fun _ h => nomatch h), List.Pairwise.nil⟩
theorem start' {A : Nat → Prop} (w : World) (h : ∀ k, A k → k < w.heap.size) : Hs A w w [] := ⟨Kp.refl _ _, h, (fun _ h => nomatch h), List.Pairwise.nil⟩
theorem get (h : Hs A w0 w rs) {i : Nat} {r : Res} (hi : rs[i]? = some r) : r.ok A w := h.ok r (List.mem_of_getElem? hi)
theorem perm (h : Hs A w0 w rs) (hp : rs.Perm rs') : Hs A w0 w rs' := ⟨h.kp, h.alt, fun r hr => h.ok r (hp.mem_iff.2 hr), (hp.pairwise_iff (fun h => h.symm)).1 h.apart⟩
theorem sub (h : Hs A w0 w rs) (hs : rs'.Sublist rs) : Hs A w0 w rs' := ⟨h.kp, h.alt, fun r hr => h.ok r (hs.subset hr), h.apart.sublist hs⟩
theorem tail {r : Res} (h : Hs A w0 w (r :: rs)) : Hs A w0 w rs := h.sub (List.sublist_cons_self _ _)
theorem mid {r : Res} {l m : List Res} (h : Hs A w0 w (r :: (l ++ m))) : Hs A w0 w (l ++ r :: m) := h.perm List.perm_middle.symm
theorem front {r : Res} {l m : List Res} (h : Hs A w0 w (l ++ r :: m)) : Hs A w0 w (r :: (l ++ m)) := h.perm List.perm_middle
theorem frontP {l p m : List Res} (h : Hs A w0 w (l ++ (p ++ m))) : Hs A w0 w (p ++ (l ++ m)) := by
  refine h.perm ?_
  rw [← List.append_assoc, ← List.append_assoc]
  exact List.Perm.append_right m List.perm_append_comm
theorem swap {l m : List Res} (h : Hs A w0 w (l ++ m)) : Hs A w0 w (m ++ l) := h.perm List.perm_append_comm
theorem ne (h : Hs A w0 w rs) {i j : Nat} {a b : Res} (hi : rs[i]? = some a) (hj : rs[j]? = some b) (hij : i ≠ j) : Ap a b := by
  have hil : i < rs.length := (List.getElem?_eq_some_iff.1 hi).1
  have hjl : j < rs.length := (List.getElem?_eq_some_iff.1 hj).1
  have ha : rs[i] = a := (List.getElem?_eq_some_iff.1 hi).2
  have hb : rs[j] = b := (List.getElem?_eq_some_iff.1 hj).2
  rcases Nat.lt_or_gt_of_ne hij with h1 | h1
  · have := List.pairwise_iff_getElem.1 h.apart i j hil hjl h1
    rwa [ha, hb] at this
  · have := List.pairwise_iff_getElem.1 h.apart j i hjl hil h1
    rw [ha, hb] at this
    exact this.symm
theorem nin (h : Hs A w0 w rs) {i : Nat} {a : Res} (hi : rs[i]? = some a) {g : Nat} (hg : a.own = some g) : g < w.heap.size ∧ ¬ A g := ⟨(h.get hi).lt hg, (h.get hi).out hg⟩
theorem alt' (h : Hs A w0 w rs) : ∀ k, A k → k < w.heap.size := fun k hk => Nat.lt_of_lt_of_le (h.alt k hk) h.kp.size

/-- The i-th resource alone is changed. -/
theorem turn (h : Hs A w0 w rs) {i : Nat} {r r' : Res} (hi : rs[i]? = some r) (hc : Ch (fun k => r.own = some k) w w') (hr : r'.ok A w') (hat : r'.own = r.own ∨ ∀ g, r'.own = some g → w.heap.size ≤ g) : Hs A w0 w' (rs.set i r') := by
  have hk : Kp A w w' := Kp.of_ch hc h.alt' (fun k hk he => (h.get hi).out he hk)
  refine ⟨h.kp.trans hk, h.alt, ?_, ?_⟩
  · intro q hq
    obtain ⟨j, hj⟩ := List.getElem?_of_mem hq
    by_cases hij : i = j
    · subst hij
      rw [List.getElem?_set_self (List.getElem?_eq_some_iff.1 hi).1] at hj
      injection hj with hj
      subst hj
      exact hr
    · rw [List.getElem?_set_ne hij] at hj
      exact (h.get hj).ch hc (fun g hg he => h.ne hi hj hij g he hg)
  · rw [List.pairwise_iff_getElem]
    intro a b ha' hb' hab
    have ha := ha'
    have hb := hb'
    rw [List.length_set] at ha hb
    have hq : ∀ j (hj : j < rs.length), i ≠ j → Ap r' rs[j] := by
      intro j hj hij g hg hg'
      rcases hat with h1 | h1
      · exact h.ne hi (List.getElem?_eq_getElem hj) hij g (h1 ▸ hg) hg'
      · have := h1 g hg
        have := (h.get (List.getElem?_eq_getElem hj)).lt hg'
        omega
    rw [List.getElem_set, List.getElem_set]
    split
    · subst_vars
      rw [if_neg (by omega)]
      exact hq b hb (by omega)
    · split
      · subst_vars
        exact (hq a ha (by omega)).symm
      · exact List.pairwise_iff_getElem.1 h.apart a b ha hb hab
/-- Something new. -/
theorem new (h : Hs A w0 w rs) {r : Res} (hc : Ch (fun _ => False) w w') (hr : r.ok A w') (hat : ∀ g, r.own = some g → w.heap.size ≤ g) : Hs A w0 w' (r :: rs) := by
  refine ⟨h.kp.trans (Kp.of_ch hc h.alt' (fun _ _ => id)), h.alt, ?_, List.Pairwise.cons ?_ h.apart⟩
  · intro q hq
    rcases List.mem_cons.1 hq with rfl | hq
    · exact hr
    · exact (h.ok q hq).ch hc (fun _ _ => id)
  · intro q hq g hg hg'
    have := hat g hg
    have := (h.ok q hq).lt hg'
    omega
theorem ch0 (h : Hs A w0 w rs) (hc : Ch (fun _ => False) w w') : Hs A w0 w' rs :=
  ⟨h.kp.trans (Kp.of_ch hc h.alt' (fun _ _ => id)), h.alt, fun q hq => (h.ok q hq).ch hc (fun _ _ => id), h.apart⟩
theorem drew (h : Hs A w0 w rs) : Hs A w0 w.drew rs := h.ch0 (Ch.refl _ _).drew
theorem drewN (h : Hs A w0 w rs) (n : Nat) : Hs A w0 (w.drewN n) rs := h.ch0 ((Ch.refl _ _).drewN n)
theorem alloc (h : Hs A w0 w rs) (cs : List Value) (t : TypeId) : Hs A w0 (w.alloc (.cells cs.toArray t)) (.blk w.heap.size t cs :: rs) :=
  h.new ((Ch.refl _ _).alloc _) ⟨Blk.new w t cs, fun hA => Nat.lt_irrefl _ (h.alt' _ hA)⟩ (fun g hg => by simp only [Res.own, Option.some.injEq] at hg; omega)
theorem alloc' (h : Hs A w0 w rs) (o : Obj) : Hs A w0 (w.alloc o) rs := h.ch0 ((Ch.refl _ _).alloc _)
/-- A cell of a block. -/
theorem set_ (h : Hs A w0 w rs) (i : Nat) {g : Nat} {t : TypeId} {cs : List Value} (hi : rs[i]? = some (.blk g t cs)) (j : Nat) (u : Value) : Hs A w0 (w.setCell ⟨g, j, none⟩ u) (rs.set i (.blk g t (cs.set j u))) :=
  h.turn hi (Ch.setCell (S := fun k => some g = some k) (p := ⟨g, j, none⟩) (Ch.refl _ _) rfl u) ⟨(h.get hi).1.set_ j u, (h.get hi).2⟩ (.inl rfl)
/-- A cell of a row. -/
theorem rset (h : Hs A w0 w rs) (i : Nat) {e : TypeId} {size n : Nat} {v : Value} {xs : List Value} (hi : rs[i]? = some (.row e size v n xs)) {g : Nat} (hg : v.ownBlock = some g) (j : Nat) (u : Value) : Hs A w0 (w.setCell ⟨g, j, none⟩ u) (rs.set i (.row e size v n (xs.set j u))) :=
  h.turn hi (Ch.setCell (S := fun k => v.ownBlock = some k) (p := ⟨g, j, none⟩) (Ch.refl _ _) hg u) (Own.set_ (h.get hi) hg j u) (.inl rfl)
/-- A row is cut at its end. -/
theorem cut (h : Hs A w0 w rs) (i : Nat) {e : TypeId} {size n k cap : Nat} {a : Option Addr} {xs : List Value} (hi : rs[i]? = some (.row e size (.slice a n cap) n xs)) (hk : k ≤ n) : Hs A w0 w (rs.set i (.row e size (.slice a k cap) k (xs.take (k * size)))) :=
  h.turn hi (Ch.refl _ _) (Own.cut (h.get hi) hk) (.inl (by cases a <;> rfl))
theorem nil (h : Hs A w0 w rs) (e : TypeId) (size : Nat) : Hs A w0 w (.row e size (.slice none 0 0) 0 [] :: rs) := h.new (Ch.refl _ _) (Own.nil A w e size) (fun g hg => by simp [Res.own, Value.ownBlock] at hg)
/-- A row is forgotten, an empty one put in its place. -/
theorem renil (h : Hs A w0 w rs) (i : Nat) {e : TypeId} {size n : Nat} {v : Value} {xs : List Value} (hi : rs[i]? = some (.row e size v n xs)) : Hs A w0 w (rs.set i (.row e size (.slice none 0 0) 0 [])) :=
  h.turn hi (Ch.refl _ _) (Own.nil A w e size) (.inr (fun g hg => by simp [Res.own, Value.ownBlock] at hg))

/-- What lies in a block. -/
theorem cell (h : Hs A w0 w rs) (i : Nat) {g : Nat} {t : TypeId} {cs : List Value} (hi : rs[i]? = some (.blk g t cs)) (j : Nat) {u : Value} (hu : cs[j]? = some u) : w.cell? ⟨g, j, none⟩ = some u := by rw [(h.get hi).1.cell]; exact hu
theorem froz (h : Hs A w0 w rs) (i : Nat) {g : Nat} {t : TypeId} {cs : List Value} (hi : rs[i]? = some (.blk g t cs)) (j : Nat) : w.frozen? ⟨g, j, none⟩ = false := (h.get hi).1.frozen j
theorem rcell (h : Hs A w0 w rs) (i : Nat) {e : TypeId} {size n : Nat} {v : Value} {xs : List Value} (hi : rs[i]? = some (.row e size v n xs)) {g : Nat} (hg : v.ownBlock = some g) (j : Nat) {u : Value} (hu : xs[j]? = some u) : w.cell? ⟨g, j, none⟩ = some u := Own.cell (h.get hi) hg hu
theorem rfroz (h : Hs A w0 w rs) (i : Nat) {e : TypeId} {size n : Nat} {v : Value} {xs : List Value} (hi : rs[i]? = some (.row e size v n xs)) {g : Nat} (hg : v.ownBlock = some g) (j : Nat) : w.frozen? ⟨g, j, none⟩ = false := Own.frozen (h.get hi) hg j
theorem form (h : Hs A w0 w rs) (i : Nat) {e : TypeId} {size n : Nat} {v : Value} {xs : List Value} (hi : rs[i]? = some (.row e size v n xs)) : ∃ a cap, v = .slice a n cap ∧ n ≤ cap ∧ (0 < n → ∃ g, a = some ⟨g, 0, none⟩ ∧ v.ownBlock = some g) := Own.form (h.get hi)
theorem form2 (h : Hs A w0 w rs) (i : Nat) {e : TypeId} {size n : Nat} {v : Value} {xs : List Value} (hi : rs[i]? = some (.row e size v n xs)) : (v = .slice none 0 0 ∧ n = 0) ∨ ∃ g cap, v = .slice (some ⟨g, 0, none⟩) n cap ∧ n ≤ cap ∧ g < w.heap.size := Own.form2 (h.get hi)
theorem len (h : Hs A w0 w rs) (i : Nat) {e : TypeId} {size n : Nat} {v : Value} {xs : List Value} (hi : rs[i]? = some (.row e size v n xs)) : xs.length = n * size := Own.len (h.get hi)
/-- What was there reads as before. -/
theorem rd (h : Hs A w0 w rs) {a : Option Addr} {xs : List Value} (hr : Rd A w0 a xs) : Rd A w a xs := hr.kp h.kp

/-- A row as what can be read. -/
theorem rdRow (h : Hs A w0 w rs) (i : Nat) {e : TypeId} {size n cap : Nat} {a : Option Addr} {xs : List Value} (hi : rs[i]? = some (.row e size (.slice a n cap) n xs)) (hx : xs ≠ []) : ∃ g, a = some ⟨g, 0, none⟩ ∧ ∀ j u, xs[j]? = some u → w.cell? ⟨g, j, none⟩ = some u := by
  obtain ⟨a', cap', he, _, hg⟩ := h.form i hi
  have hn : 0 < n := by
    have := h.len i hi
    rcases Nat.eq_zero_or_pos n with rfl | h1
    · rw [Nat.zero_mul] at this; exact absurd (List.eq_nil_of_length_eq_zero this) hx
    · exact h1
  obtain ⟨g, hg1, hg2⟩ := hg hn
  injection he with h1 h2 h3
  subst h1 h3
  exact ⟨g, hg1, fun j u hu => h.rcell i hi hg2 j hu⟩

/-- A block as a row of its own. -/
theorem asRow (h : Hs A w0 w rs) (i : Nat) {g : Nat} {t : TypeId} {cs : List Value} (hi : rs[i]? = some (.blk g t cs)) (size n : Nat) (hn : cs.length = n * size) (hm : n ≤ maxLen) : Hs A w0 w (rs.set i (.row t size (.slice (some ⟨g, 0, none⟩) n n) n cs)) := by
  have h1 := (h.get hi).1
  refine h.turn hi (Ch.refl _ _) ⟨⟨hn, .inr ⟨g, n, cs.toArray, rfl, Nat.zero_le _, h1, Nat.le_refl _, hm, by simpa using hn, by simp [← hn]⟩⟩, ?_⟩ (.inl rfl)
  intro g' hg' hA
  have : g' = g := by simpa [Value.ownBlock] using hg'.symm
  exact (h.get hi).2 (this ▸ hA)

/-- One element, which lies in a block of its own, is appended to a row. -/
theorem push {P : Program} {ops : Array Oper} {rest : List Oper} {o : Oper} {a : Act} {Q : Exit → Act → World → Prop} (hgd : o.guard = none) (s x : Operand) (t : TypeId)
    (ho : o.op = .call { callee := .builtin .append, args := #[s, x], argTypes := #[t, t] })
    (e : TypeId) (inf : TypeInfo) (z : Value) (size bytes : Nat) (ht : P.underlying t = some (.slice e)) (hinf : P.info? e = some inf) (hz : inf.zero = some z)
    (hsize : inf.size = size) (hby : inf.bytes = bytes) (hzs : z.cells.size = size) (hsz : 0 < size) (hbb : bytes ≤ 1000)
    (i : Nat) (v : Value) (n : Nat) (xs : List Value) (hi : rs[i]? = some (.row e size v n xs)) (k : Nat) (B : Nat) (news : List Value) (hk : rs[k]? = some (.blk B e news))
    (hs : a.eval s = v) (hx : a.eval x = .slice (some ⟨B, 0, none⟩) 1 1)
    (hl : news.length = size) (h1 : (news.all fun u => u.oneCell') = true) (hn : n ≤ 1000000000) (H : Hs A w0 w rs)
    (h : ∀ v' w', Hs A w0 w' (rs.set i (.row e size v' (n + 1) (xs ++ news))) → wpList P ops Q rest (a.put o.dst v') w') : wpList P ops Q (o :: rest) a w :=
  wp_push hgd s x t ho e inf z size bytes ht hinf hz hsize hby hzs hsz hbb A v n xs news B hs hx hl h1 hn (H.get hi) H.alt' (H.get hk).1
    fun v' w' hown hch hat => h v' w' (H.turn hi hch hown hat)
end Hs

/-- Several elements at once, out of a block of their own. -/
theorem wp_pushN {P : Program} {w : World} {ops : Array Oper} {rest : List Oper} {o : Oper} {a : Act} {Q : Exit → Act → World → Prop} (hgd : o.guard = none) (s x : Operand) (t : TypeId)
    (ho : o.op = .call { callee := .builtin .append, args := #[s, x], argTypes := #[t, t] })
    (e : TypeId) (i : TypeInfo) (z : Value) (size bytes : Nat) (ht : P.underlying t = some (.slice e)) (hi : P.info? e = some i) (hz : i.zero = some z)
    (hsize : i.size = size) (hby : i.bytes = bytes) (hzs : z.cells.size = size) (hsz : 0 < size) (hbb : bytes ≤ 1000)
    (A : Nat → Prop) (v : Value) (n m : Nat) (xs news : List Value) (B : Nat) (hs : a.eval s = v) (hx : a.eval x = .slice (some ⟨B, 0, none⟩) m m) (hm : 0 < m)
    (hl : news.length = m * size) (h1 : (news.all fun u => u.oneCell') = true) (hn : n + m ≤ 1000000001)
    (hown : Own A w e size v n xs) (hA : ∀ k, A k → k < w.heap.size) (hB : Blk w B e news)
    (h : ∀ v' w', Own A w' e size v' (n + m) (xs ++ news) → Ch (fun k => v.ownBlock = some k) w w' → (v'.ownBlock = v.ownBlock ∨ ∀ g, v'.ownBlock = some g → w.heap.size ≤ g) → wpList P ops Q rest (a.put o.dst v') w') : wpList P ops Q (o :: rest) a w := by
  refine wpList_append_lies w hgd s x t ho 0 e i z size bytes ht hi hz hsize hby hzs hsz v n xs hs hown.1 ⟨B, 0, none⟩ m m news hx hl ?_ ?_ hm ?_ ?_ (Nat.zero_le _) w.heap.size rfl ?_
  · intro j u hu
    have hadd : (⟨B, 0, none⟩ : Addr).add j = ⟨B, j, none⟩ := by unfold Addr.add; split <;> simp_all
    rw [hadd, hB.cell]; exact hu
  · intro u hu; exact List.all_eq_true.1 h1 u hu
  · simp only [maxLen]; omega
  · have : (n + m) * bytes ≤ 1000000001 * 1000 := Nat.mul_le_mul (by omega) hbb
    omega
  · intro g cap w' hown' hgr hat _
    refine h _ _ ⟨hown', fun k hk => ?_⟩ ((Ch.refl _ _).grown hgr fun g hg => .inl hg) ?_
    · have hk' : k = g := by simpa [Value.ownBlock] using hk.symm
      subst hk'
      rcases hat with h2 | h2
      · exact hown.2 _ h2
      · intro h3; have := hA _ h3; omega
    · rcases hat with h2 | h2
      · left; rw [h2]; rfl
      · right; intro k hk
        have hk' : k = g := by simpa [Value.ownBlock] using hk.symm
        omega
namespace Hs
variable {A : Nat → Prop} {w0 w : World} {rs : List Res}
theorem pushN {P : Program} {ops : Array Oper} {rest : List Oper} {o : Oper} {a : Act} {Q : Exit → Act → World → Prop} (hgd : o.guard = none) (s x : Operand) (t : TypeId)
    (ho : o.op = .call { callee := .builtin .append, args := #[s, x], argTypes := #[t, t] })
    (e : TypeId) (inf : TypeInfo) (z : Value) (size bytes : Nat) (ht : P.underlying t = some (.slice e)) (hinf : P.info? e = some inf) (hz : inf.zero = some z)
    (hsize : inf.size = size) (hby : inf.bytes = bytes) (hzs : z.cells.size = size) (hsz : 0 < size) (hbb : bytes ≤ 1000)
    (i : Nat) (v : Value) (n : Nat) (xs : List Value) (hi : rs[i]? = some (.row e size v n xs)) (k : Nat) (B m : Nat) (news : List Value) (hk : rs[k]? = some (.blk B e news))
    (hs : a.eval s = v) (hx : a.eval x = .slice (some ⟨B, 0, none⟩) m m) (hm : 0 < m)
    (hl : news.length = m * size) (h1 : (news.all fun u => u.oneCell') = true) (hn : n + m ≤ 1000000001) (H : Hs A w0 w rs)
    (h : ∀ v' w', Hs A w0 w' (rs.set i (.row e size v' (n + m) (xs ++ news))) → wpList P ops Q rest (a.put o.dst v') w') : wpList P ops Q (o :: rest) a w :=
  wp_pushN hgd s x t ho e inf z size bytes ht hinf hz hsize hby hzs hsz hbb A v n m xs news B hs hx hm hl h1 hn (H.get hi) H.alt' (H.get hk).1
    fun v' w' hown hch hat => h v' w' (H.turn hi hch hown hat)
/-- append(nil, xs...): a copy. -/
theorem copy {P : Program} {ops : Array Oper} {rest : List Oper} {o : Oper} {a : Act} {Q : Exit → Act → World → Prop} (hgd : o.guard = none) (s x : Operand) (t : TypeId)
    (ho : o.op = .call { callee := .builtin .append, args := #[s, x], argTypes := #[t, t] })
    (e : TypeId) (inf : TypeInfo) (z : Value) (size bytes : Nat) (ht : P.underlying t = some (.slice e)) (hinf : P.info? e = some inf) (hz : inf.zero = some z)
    (hsize : inf.size = size) (hby : inf.bytes = bytes) (hzs : z.cells.size = size) (hsz : 0 < size) (hbb : bytes ≤ 1000)
    (ad : Option Addr) (m c : Nat) (news : List Value) (hs : a.eval s = .slice none 0 0) (hx : a.eval x = .slice ad m c)
    (hl : news.length = m * size) (h1 : (news.all fun u => u.oneCell') = true) (hn : m ≤ 1000000000)
    (hc : 0 < m → ∃ d, ad = some d ∧ ∀ j u, news[j]? = some u → w.cell? (d.add j) = some u) (H : Hs A w0 w rs)
    (h : ∀ v' w', Hs A w0 w' (.row e size v' m news :: rs) → wpList P ops Q rest (a.put o.dst v') w') : wpList P ops Q (o :: rest) a w :=
  wp_copy hgd s x t ho e inf z size bytes ht hinf hz hsize hby hzs hsz hbb A ad m c news hs hx hl h1 hn H.alt' hc
    fun v' w' hown hch hat => h v' w' (H.new hch hown hat)
end Hs

/-- What a call gives, whatever was held before it. -/
def Gives (w w' : World) (res : List Res) : Prop := ∀ (A : Nat → Prop) (w0 : World) (rs : List Res), Hs A w0 w rs → Hs A w0 w' (res ++ rs)
theorem gives_of {w w' : World} {res : List Res} (h : Hs (fun k => k < w.heap.size) w w' res) : Gives w w' res := by
  intro A w0 rs H
  have hk := h.kp
  have hc : Ch (fun _ => False) w w' := ⟨hk.os, hk.tape, hk.output, hk.size, fun k hk' _ => hk.block k hk'⟩
  refine ⟨H.kp.trans (Kp.of_ch hc H.alt' (fun _ _ => id)), H.alt, ?_, ?_⟩
  · intro r hr
    rcases List.mem_append.1 hr with hr | hr
    · have h1 := h.ok r hr
      cases r with
      | blk g t cs => exact ⟨h1.1, fun hA => h1.2 (H.alt' g hA)⟩
      | row e size v n xs => exact ⟨h1.1, fun g hg hA => h1.2 g hg (H.alt' g hA)⟩
    · exact (H.ok r hr).ch hc (fun _ _ => id)
  · rw [List.pairwise_append]
    refine ⟨h.apart, H.apart, fun a ha b hb g hg hg' => ?_⟩
    exact (h.ok a ha).out hg ((H.ok b hb).lt hg')
theorem Gives.fr {w w' : World} (h : Ch (fun _ => False) w w') : Gives w w' [] := fun A w0 rs H => H.ch0 h
theorem Gives.kp {w w' : World} {res : List Res} (h : Gives w w' res) : Kp (fun k => k < w.heap.size) w w' := (h _ _ _ (Hs.start w)).kp
end Mem
end Go.Proofs.YtllahgnpjodgmaaDoor
