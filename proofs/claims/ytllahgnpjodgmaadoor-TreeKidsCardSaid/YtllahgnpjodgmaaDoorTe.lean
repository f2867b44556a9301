/- Slices and trees that read so. -/
import Derived.Test.YtllahgnpjodgmaaDoorHt
set_option linter.unusedVariables false
namespace Go.Proofs.YtllahgnpjodgmaaDoor
open Go Go.RowKit Mem Pm
theorem infoNode : (Tryd.prog.info? 45).map (fun i => (i.zero, i.size, i.bytes)) = some (some (.agg #[.int .i64 0, .int .i64 0, .int .i64 0, .int .i64 0, .int .i64 0, .int .i64 0, .int .i64 0, .int .i64 0, .string ⟨#[]⟩, .slice none 0 0]), 10, 104) := by kernel_rfl
theorem infoInt : (Tryd.prog.info? 3).map (fun i => (i.zero, i.size, i.bytes)) = some (some (.int .i64 0), 1, 8) := by kernel_rfl
def kidRows (l : List (Nd × Value)) : List Res := l.map fun x => .row 3 1 x.2 x.1.kids.length (ints x.1.kids)
/-- A slice that reads as these cells. -/
def RdS (w : World) (v : Value) (n : Nat) (xs : List Value) : Prop := ∃ a cap, v = .slice a n cap ∧ n ≤ cap ∧ (xs ≠ [] → ∃ g off, a = some ⟨g, off, none⟩ ∧ ∀ j u, xs[j]? = some u → w.cell? ⟨g, off + j, none⟩ = some u)
theorem RdS.fr {w w' : World} {v : Value} {n : Nat} {xs : List Value} (h : RdS w v n xs) (hf : Fr w w') : RdS w' v n xs := by
  obtain ⟨a, cap, h1, h2, h3⟩ := h
  refine ⟨a, cap, h1, h2, fun hx => ?_⟩
  obtain ⟨g, off, h4, h5⟩ := h3 hx
  refine ⟨g, off, h4, fun j u hu => ?_⟩
  have h6 := h5 j u hu
  have hlt := block_lt_of_cell h6
  exact (World.cell?_of_block (hf.block g hlt id)).trans h6
theorem rdS_row {A : Nat → Prop} {w0 w : World} {rs : List Res} (h : Hs A w0 w rs) (i : Nat) {e : TypeId} {size n : Nat} {v : Value} {xs : List Value} (hi : rs[i]? = some (.row e size v n xs)) : RdS w v n xs := by
  obtain ⟨a, cap, rfl, hl, hg⟩ := h.form i hi
  refine ⟨a, cap, rfl, hl, fun hx => ?_⟩
  obtain ⟨g, h1, h2⟩ := h.rdRow i hi hx
  exact ⟨g, 0, h1, fun j u hu => by rw [Nat.zero_add]; exact h2 j u hu⟩

/-- A tree that reads so. -/
structure TreeRd (w : World) (nodes : List Nd) (funcs : List Int) (nd fu : Value) : Prop where
  nds : ∃ kvs : List Value, kvs.length = nodes.length ∧ RdS w nd nodes.length (ndsC (nodes.zip kvs)) ∧ ∀ x ∈ nodes.zip kvs, RdS w x.2 x.1.kids.length (ints x.1.kids)
  funcs : RdS w fu funcs.length (ints funcs)
theorem TreeRd.fr {w w' : World} {nodes : List Nd} {funcs : List Int} {nd fu : Value} (h : TreeRd w nodes funcs nd fu) (hf : Fr w w') : TreeRd w' nodes funcs nd fu := by
  obtain ⟨⟨kvs, h1, h2, h3⟩, h4⟩ := h
  exact ⟨⟨kvs, h1, h2.fr hf, fun x hx => (h3 x hx).fr hf⟩, h4.fr hf⟩
theorem rdS_cells {w : World} {v : Value} {n : Nat} {l : List (Nd × Value)} (h : RdS w v n (ndsC l)) (hl : l.length ≤ n) {i : Nat} {x : Nd} {kv : Value} (hx : l[i]? = some (x, kv)) :
    ∃ g off cap, v = .slice (some ⟨g, off, none⟩) n cap ∧ ∀ j u, j < 10 → (ndC x kv)[j]? = some u → w.cell? ⟨g, off + (i * 10 + j), none⟩ = some u := by
  obtain ⟨a, cap, rfl, _, h3⟩ := h
  have h0 := ndsC_get hx 0 (by omega)
  have hne : ndsC l ≠ [] := fun h => by rw [h] at h0; simp [ndC] at h0
  obtain ⟨g, off, rfl, h4⟩ := h3 hne
  exact ⟨g, off, cap, rfl, fun j u hj hu => h4 _ _ (by rw [ndsC_get hx j hj]; exact hu)⟩

theorem kidRows_snoc {l : List Nd} {kvs : List Value} {n : Nd} {kv : Value} (h : kvs.length = l.length) : kidRows ((l ++ [n]).zip (kvs ++ [kv])) = kidRows (l.zip kvs) ++ [.row 3 1 kv n.kids.length (ints n.kids)] := by
  rw [List.zip_append h.symm]
  simp [kidRows]
theorem rd_of_rdS {w : World} {a : Option Addr} {n cap : Nat} {xs : List Value} (h : RdS w (.slice a n cap) n xs) : Rd (fun k => k < w.heap.size) w a xs := by
  obtain ⟨a0, c0, he, _, hr⟩ := h
  injection he with he1 _ he2
  subst he1 he2
  intro hx
  obtain ⟨g, off, h1, h2⟩ := hr hx
  refine ⟨g, off, h1, ?_, h2⟩
  cases xs with
  | nil => exact absurd rfl hx
  | cons u r => exact block_lt_of_cell (h2 0 u rfl)
theorem RdS.pre {w : World} {a : Option Addr} {n m cap : Nat} {xs ys : List Value} (h : RdS w (.slice a n cap) n (xs ++ ys)) (hm : m ≤ n) : RdS w (.slice a m cap) m xs := by
  obtain ⟨a0, c0, he, hc, hr⟩ := h
  injection he with he1 _ he2
  subst he1 he2
  refine ⟨_, _, rfl, by omega, fun hx => ?_⟩
  obtain ⟨g, off, h1, h2⟩ := hr (by simp [hx])
  exact ⟨g, off, h1, fun j u hu => h2 j u (by rw [List.getElem?_append_left (List.getElem?_eq_some_iff.1 hu).1]; exact hu)⟩
theorem row_len {A : Nat → Prop} {w0 w : World} {rs : List Res} (h : Hs A w0 w rs) {r : Res} (hr : r ∈ rs) : match r with | .row _ _ _ n _ => n ≤ 9223372036854775807 | _ => True := by
  have h1 := h.ok r hr
  cases r with
  | blk g t cs => trivial
  | row e size v n xs =>
    rcases h1.1.2 with ⟨_, h2⟩ | ⟨g, cap, cur, _, _, _, h3, h4, _⟩
    · dsimp only; omega
    · unfold maxLen at h4; dsimp only; omega

end Go.Proofs.YtllahgnpjodgmaaDoor
