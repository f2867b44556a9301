/- More steps of what a call holds: a slice that can be read is appended to a row of the call's own. -/
import Derived.Test.YtllahgnpjodgmaaDoorHs
import Derived.Laws.AppendOwnNone
set_option linter.unusedVariables false
namespace Go.Proofs.YtllahgnpjodgmaaDoor
open Go Go.RowKit
namespace Mem
theorem wp_push0 {P : Program} {w : World} {ops : Array Oper} {rest : List Oper} {o : Oper} {a : Act} {Q : Exit → Act → World → Prop} (hgd : o.guard = none) (s x : Operand) (t : TypeId)
    (ho : o.op = .call { callee := .builtin .append, args := #[s, x], argTypes := #[t, t] })
    (e : TypeId) (i : TypeInfo) (size : Nat) (ht : P.underlying t = some (.slice e)) (hi : P.info? e = some i)
    (v : Value) (n : Nat) (xs : List Value) (hs : a.eval s = v) (hown : w.ownsRow 0 e size v n xs) (ad : Option Addr) (c : Nat) (hx : a.eval x = .slice ad 0 c)
    (h : wpList P ops Q rest (a.put o.dst v) w) : wpList P ops Q (o :: rest) a w := by
  refine wpList_plain hgd fun K hK => ?_
  have hrun : (Builtin.append_ #[t, t] o.type #[v, .slice ad 0 c]).run P w = .ok v w := by
    rcases hown.2 with ⟨rfl, rfl⟩ | ⟨g, cap, cur, rfl, _, _, hnc, _⟩
    · cases ad <;> simp [Builtin.append_, run_underlying ht, sizeOf, typeInfo, hi, Builtin.lenOf, Builtin.firstCells, loadCells, loadCellsFrom]
    · cases ad <;> simp [Builtin.append_, run_underlying ht, sizeOf, typeInfo, hi, Builtin.lenOf, Builtin.firstCells, hnc, storeCells, loadCells, loadCellsFrom]
  unfold Oper.wp
  simp [execOp, ho, resolve, invoke, builtin, hs, hx, hrun, Result.andThen]
  exact hK _ _ h

theorem wp_pushS {P : Program} {w : World} {ops : Array Oper} {rest : List Oper} {o : Oper} {a : Act} {Q : Exit → Act → World → Prop} (hgd : o.guard = none) (s x : Operand) (t : TypeId)
    (ho : o.op = .call { callee := .builtin .append, args := #[s, x], argTypes := #[t, t] })
    (e : TypeId) (i : TypeInfo) (z : Value) (size bytes : Nat) (ht : P.underlying t = some (.slice e)) (hi : P.info? e = some i) (hz : i.zero = some z)
    (hsize : i.size = size) (hby : i.bytes = bytes) (hzs : z.cells.size = size) (hsz : 0 < size) (hbb : bytes ≤ 1000)
    (A : Nat → Prop) (v : Value) (n m : Nat) (xs news : List Value) (ad : Option Addr) (c : Nat) (hs : a.eval s = v) (hx : a.eval x = .slice ad m c)
    (hl : news.length = m * size) (h1 : (news.all fun u => u.oneCell') = true) (hn : n + m ≤ 1000000001)
    (hown : Own A w e size v n xs) (hA : ∀ k, A k → k < w.heap.size) (hc : 0 < m → ∃ d, ad = some d ∧ ∀ j u, news[j]? = some u → w.cell? (d.add j) = some u)
    (h : ∀ v' w', Own A w' e size v' (n + m) (xs ++ news) → Ch (fun k => v.ownBlock = some k) w w' → (v'.ownBlock = v.ownBlock ∨ ∀ g, v'.ownBlock = some g → w.heap.size ≤ g) → wpList P ops Q rest (a.put o.dst v') w') : wpList P ops Q (o :: rest) a w := by
  rcases Nat.eq_zero_or_pos m with rfl | hm
  · have hnil : news = [] := List.eq_nil_of_length_eq_zero (by omega)
    subst hnil
    refine wp_push0 hgd s x t ho e i size ht hi v n xs hs hown.1 ad c hx ?_
    exact h _ _ (by rw [List.append_nil]; exact hown) (Ch.refl _ w) (.inl rfl)
  obtain ⟨d, rfl, hd⟩ := hc hm
  refine wpList_append_lies w hgd s x t ho 0 e i z size bytes ht hi hz hsize hby hzs hsz v n xs hs hown.1 d m c news hx hl hd (fun u hu => List.all_eq_true.1 h1 u hu) hm ?_ ?_ (Nat.zero_le _) w.heap.size rfl ?_
  · simp only [maxLen]; omega
  · have : (n + m) * bytes ≤ 1000000001 * 1000 := Nat.mul_le_mul (by omega) hbb
    omega
  · intro g cap w' hown' hgr hat _
    refine h _ _ ⟨hown', fun k hk => ?_⟩ ((Ch.refl _ _).grown hgr fun g hg => .inl hg) ?_
    · have hk' : k = g := by simpa [Value.ownBlock] using hk.symm
      subst hk'
      rcases hat with h2 | h2
      · exact hown.2 _ h2
      · intro h3; have := hA _ h3; omega
    · rcases hat with h2 | h2
      · left; rw [h2]; rfl
      · right; intro k hk
        have hk' : k = g := by simpa [Value.ownBlock] using hk.symm
        omega
namespace Hs
variable {A : Nat → Prop} {w0 w : World} {rs : List Res}
/-- What can be read is appended to a row. -/
theorem pushS {P : Program} {ops : Array Oper} {rest : List Oper} {o : Oper} {a : Act} {Q : Exit → Act → World → Prop} (hgd : o.guard = none) (s x : Operand) (t : TypeId)
    (ho : o.op = .call { callee := .builtin .append, args := #[s, x], argTypes := #[t, t] })
    (e : TypeId) (inf : TypeInfo) (z : Value) (size bytes : Nat) (ht : P.underlying t = some (.slice e)) (hinf : P.info? e = some inf) (hz : inf.zero = some z)
    (hsize : inf.size = size) (hby : inf.bytes = bytes) (hzs : z.cells.size = size) (hsz : 0 < size) (hbb : bytes ≤ 1000)
    (i : Nat) (v : Value) (n : Nat) (xs : List Value) (hi : rs[i]? = some (.row e size v n xs)) (ad : Option Addr) (m c : Nat) (news : List Value)
    (hs : a.eval s = v) (hx : a.eval x = .slice ad m c)
    (hl : news.length = m * size) (h1 : (news.all fun u => u.oneCell') = true) (hn : n + m ≤ 1000000001)
    (hc : 0 < m → ∃ d, ad = some d ∧ ∀ j u, news[j]? = some u → w.cell? (d.add j) = some u) (H : Hs A w0 w rs)
    (h : ∀ v' w', Hs A w0 w' (rs.set i (.row e size v' (n + m) (xs ++ news))) → wpList P ops Q rest (a.put o.dst v') w') : wpList P ops Q (o :: rest) a w :=
  wp_pushS hgd s x t ho e inf z size bytes ht hinf hz hsize hby hzs hsz hbb A v n m xs news ad c hs hx hl h1 hn (H.get hi) H.alt' hc
    fun v' w' hown hch hat => h v' w' (H.turn hi hch hown hat)
end Hs
end Mem
end Go.Proofs.YtllahgnpjodgmaaDoor
