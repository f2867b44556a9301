/- Trees and slices as they lie in memory. -/
import Derived.Test.YtllahgnpjodgmaaDoorNm
set_option linter.unusedVariables false
namespace Go.Proofs.YtllahgnpjodgmaaDoor
open Go Go.RowKit Mem
namespace Pm
def ints (l : List Int) : List Value := l.map (Value.int .i64)
def ndC (n : Nd) (kv : Value) : List Value := [.int .i64 n.kind, .int .i64 n.at_, .int .i64 n.where_, .int .i64 n.close, .int .i64 n.decl, .int .i64 n.type, .int .i64 n.op, .int .i64 n.value, .string n.name, kv]
def ndV (n : Nd) (kv : Value) : Value := .agg #[.int .i64 n.kind, .int .i64 n.at_, .int .i64 n.where_, .int .i64 n.close, .int .i64 n.decl, .int .i64 n.type, .int .i64 n.op, .int .i64 n.value, .string n.name, kv]
def ndsC (l : List (Nd × Value)) : List Value := l.flatMap fun x => ndC x.1 x.2
theorem zip_kv {l : List Nd} {kvs : List Value} {x : Nd × Value} (h : x ∈ l.zip kvs) : x.2 ∈ kvs := (List.of_mem_zip h).2
end Pm
open Pm
theorem Mem.Own.form2 {A : Nat → Prop} {w : World} {e : TypeId} {size n : Nat} {v : Value} {xs : List Value} (h : Own A w e size v n xs) : (v = .slice none 0 0 ∧ n = 0) ∨ ∃ g cap, v = .slice (some ⟨g, 0, none⟩) n cap ∧ n ≤ cap ∧ g < w.heap.size := by
  rcases h.1.2 with ⟨rfl, rfl⟩ | ⟨g, cap, cur, rfl, _, hh, hl, _⟩
  · exact .inl ⟨rfl, rfl⟩
  · exact .inr ⟨g, cap, rfl, hl, (Array.getElem?_eq_some_iff.1 hh).1⟩
/-- Nothing is appended to nil. -/
theorem Mem.wp_zero {P : Program} {w : World} {ops : Array Oper} {rest : List Oper} {o : Oper} {a : Act} {Q : Exit → Act → World → Prop} (hgd : o.guard = none) (s x : Operand) (t : TypeId)
    (ho : o.op = .call { callee := .builtin .append, args := #[s, x], argTypes := #[t, t] }) (e : TypeId) (i : TypeInfo) (ht : P.underlying t = some (.slice e)) (hi : P.info? e = some i)
    (ad : Option Addr) (c : Nat) (hs : a.eval s = .slice none 0 0) (hx : a.eval x = .slice ad 0 c)
    (h : wpList P ops Q rest (a.put o.dst (.slice none 0 0)) w) : wpList P ops Q (o :: rest) a w := by
  refine wpList_plain hgd fun K hK => ?_
  have hrun : (Builtin.append_ #[t, t] o.type #[.slice none 0 0, .slice ad 0 c]).run P w = .ok (.slice none 0 0) w := by
    cases ad <;> simp [Builtin.append_, run_underlying ht, sizeOf, typeInfo, hi, Builtin.lenOf, Builtin.firstCells, loadCells, loadCellsFrom]
  unfold Oper.wp
  simp [execOp, ho, resolve, invoke, builtin, hs, hx, hrun, Result.andThen]
  exact hK _ _ h

/-- A row's end is copied. -/
theorem Mem.wp_copy {P : Program} {w : World} {ops : Array Oper} {rest : List Oper} {o : Oper} {a : Act} {Q : Exit → Act → World → Prop} (hgd : o.guard = none) (s x : Operand) (t : TypeId)
    (ho : o.op = .call { callee := .builtin .append, args := #[s, x], argTypes := #[t, t] })
    (e : TypeId) (i : TypeInfo) (z : Value) (size bytes : Nat) (ht : P.underlying t = some (.slice e)) (hi : P.info? e = some i) (hz : i.zero = some z)
    (hsize : i.size = size) (hby : i.bytes = bytes) (hzs : z.cells.size = size) (hsz : 0 < size) (hbb : bytes ≤ 1000)
    (A : Nat → Prop) (ad : Option Addr) (m c : Nat) (news : List Value) (hs : a.eval s = .slice none 0 0) (hx : a.eval x = .slice ad m c)
    (hl : news.length = m * size) (h1 : (news.all fun u => u.oneCell') = true) (hn : m ≤ 1000000000) (hA : ∀ k, A k → k < w.heap.size)
    (hc : 0 < m → ∃ d, ad = some d ∧ ∀ j u, news[j]? = some u → w.cell? (d.add j) = some u)
    (h : ∀ v' w', Own A w' e size v' m news → Ch (fun _ => False) w w' → (∀ g, v'.ownBlock = some g → w.heap.size ≤ g) → wpList P ops Q rest (a.put o.dst v') w') : wpList P ops Q (o :: rest) a w := by
  rcases Nat.eq_zero_or_pos m with rfl | hm
  · have hnil : news = [] := List.eq_nil_of_length_eq_zero (by omega)
    subst hnil
    refine wp_zero hgd s x t ho e i ht hi ad c hs hx ?_
    exact h _ _ (Own.nil A w e size) (Ch.refl _ w) (by simp [Value.ownBlock])
  · obtain ⟨d, rfl, hd⟩ := hc hm
    refine wpList_append_lies w hgd s x t ho 0 e i z size bytes ht hi hz hsize hby hzs hsz (.slice none 0 0) 0 [] hs (World.ownsRow_nil w 0 e size) d m c news hx hl hd (fun u hu => List.all_eq_true.1 h1 u hu) hm ?_ ?_ (Nat.zero_le _) w.heap.size rfl ?_
    · simp only [maxLen]; omega
    · have : (0 + m) * bytes ≤ 1000000000 * 1000 := Nat.mul_le_mul (by omega) hbb
      omega
    · intro g cap w' hown' hgr hat _
      have hat' : g = w.heap.size := by
        rcases hat with h2 | h2
        · simp [Value.ownBlock] at h2
        · exact h2
      subst hat'
      rw [Nat.zero_add] at hown' ⊢
      rw [List.nil_append] at hown'
      refine h _ _ ⟨hown', fun k hk h3 => ?_⟩ ((Ch.refl _ _).grown hgr fun g hg => absurd hg (by simp [Value.ownBlock])) ?_
      · have hk' : k = w.heap.size := by simpa [Value.ownBlock] using hk.symm
        subst hk'
        exact absurd (hA _ h3) (Nat.lt_irrefl _)
      · intro k hk
        have hk' : k = w.heap.size := by simpa [Value.ownBlock] using hk.symm
        omega

theorem ints_len (l : List Int) : (ints l).length = l.length := by simp [ints]
theorem ints_get {l : List Int} {i : Nat} {x : Int} (h : l[i]? = some x) : (ints l)[i]? = some (.int .i64 x) := by simp [ints, h]
theorem ndsC_get {l : List (Nd × Value)} {i : Nat} {n : Nd} {kv : Value} (h : l[i]? = some (n, kv)) (j : Nat) (hj : j < 10) : (ndsC l)[i * 10 + j]? = (ndC n kv)[j]? := by
  have hlen : ∀ (n : Nd) kv, (ndC n kv).length = 10 := fun _ _ => rfl
  induction l generalizing i with
  | nil => simp at h
  | cons x r ih =>
    unfold ndsC at ih ⊢
    rw [List.flatMap_cons]
    cases i with
    | zero => simp at h; subst h; rw [List.getElem?_append_left (by rw [hlen]; omega)]; simp
    | succ i => rw [List.getElem?_append_right (by rw [hlen]; omega), hlen, show (i + 1) * 10 + j - 10 = i * 10 + j by omega]; exact ih (by simpa using h)


end Go.Proofs.YtllahgnpjodgmaaDoor
