/- Trees as they lie in memory, behind parse.Parse and behind quernref4.Parse. -/
import Derived.Test.YthodjlhjfaccpaaRq
import Derived.Test.YthodjlhjfaccpaaPparse
import Derived.Test.YthodjlhjfaccpaaSim4
set_option linter.unusedVariables false
namespace Go.Proofs.Ythodjlhjfaccpaa
open Go Go.RowKit Mem Pm Rf

/-- A tree's rows, and the nests'. -/
def treeRes (nodes : List Nd) (funcs nest : List Int) (nd fu ne : Value) (kvs : List Value) : List Res :=
  .row 42 10 nd nodes.length (ndsC (nodes.zip kvs)) :: .row 3 1 fu funcs.length (ints funcs) :: .row 3 1 ne nest.length (ints nest) :: kidRows (nodes.zip kvs)
/-- How a parser ends. -/
def PEnd (x : Except (Int × Int) (List Nd × List Int × List Int)) (w : World) (e : Ending) (w' : World) : Prop := match x with
  | .ok (nodes, funcs, nest) => ∃ nd fu ne kvs, kvs.length = nodes.length ∧ e = .returned (.tuple #[.agg #[nd, fu], ne, .int .i64 0, .int .i64 0]) ∧ Gives w w' (treeRes nodes funcs nest nd fu ne kvs)
  | .error f => e = .returned (.tuple #[.agg #[.slice none 0 0, .slice none 0 0], .slice none 0 0, .int .i64 f.1, .int .i64 f.2]) ∧ Gives w w' []
def outP (o : M PS) : Except (Int × Int) (List Nd × List Int × List Int) := o.map fun s => (s.nodes, s.funcs, s.nest)
def outR (o : Except (Int × Int) RS) : Except (Int × Int) (List Nd × List Int × List Int) := o.map fun s => (s.nodes, s.funcs, s.nest)
theorem same_out {o : M PS} {x : Except (Int × Int) RS} (h : Same o x) : outP o = outR x := by
  cases o with
  | error f => cases x with
    | error g => have h : f = g := h; rw [h]; rfl
    | ok r => exact h.elim
  | ok s => cases x with
    | error g => exact h.elim
    | ok r => obtain ⟨h1, h2, h3⟩ := h; simp only [outP, outR, Except.map, h1, h2, h3]

theorem ap_of_neb {e e' : TypeId} {size size' n n' : Nat} {v v' : Value} {xs xs' : List Value} (h : NeB v v') : Ap (.row e size v n xs) (.row e' size' v' n' xs') := fun g hg hg' => h g hg hg'
theorem gives_tree {w w' : World} {s : PS} {nd fu ne : Value} {kvs : List Value} (hk : Kp (fun k => k < w.heap.size) w w') (h : TreeIn (fun k => k < w.heap.size) w' s nd fu ne kvs) : Gives w w' (treeRes s.nodes s.funcs s.nest nd fu ne kvs) := by
  refine gives_of ⟨hk, fun _ h => h, ?_, ?_⟩
  · intro r hr
    rcases List.mem_cons.1 hr with rfl | hr
    · exact h.nodes
    rcases List.mem_cons.1 hr with rfl | hr
    · exact h.funcs
    rcases List.mem_cons.1 hr with rfl | hr
    · exact h.nest
    · obtain ⟨x, hx, rfl⟩ := List.mem_map.1 hr
      exact h.kids x hx
  · have hap := h.apart
    have hnd : ∀ {v n xs}, Own (fun k => k < w.heap.size) w' 3 1 v n xs → Ap (.row 42 10 nd s.nodes.length (ndsC (s.nodes.zip kvs))) (.row 3 1 v n xs) := fun hh g hg hg' => h.nodes.ne_own hh (by decide) g hg hg'
    have hkv : ∀ x ∈ s.nodes.zip kvs, x.2 ∈ kvs := fun x hx => zip_kv hx
    rw [List.pairwise_cons, List.pairwise_cons] at hap
    obtain ⟨h1, h2, h3⟩ := hap
    refine List.Pairwise.cons ?_ (List.Pairwise.cons ?_ (List.Pairwise.cons ?_ ?_))
    · intro r hr
      rcases List.mem_cons.1 hr with rfl | hr
      · exact hnd h.funcs
      rcases List.mem_cons.1 hr with rfl | hr
      · exact hnd h.nest
      · obtain ⟨x, hx, rfl⟩ := List.mem_map.1 hr
        exact hnd (h.kids x hx)
    · intro r hr
      rcases List.mem_cons.1 hr with rfl | hr
      · exact ap_of_neb (h1 _ (by simp))
      · obtain ⟨x, hx, rfl⟩ := List.mem_map.1 hr
        exact ap_of_neb (h1 _ (by simp [hkv x hx]))
    · intro r hr
      obtain ⟨x, hx, rfl⟩ := List.mem_map.1 hr
      exact ap_of_neb (h2 _ (hkv x hx))
    · unfold kidRows
      rw [List.pairwise_map]
      rw [List.pairwise_iff_getElem] at h3 ⊢
      intro i j hi hj hij
      rw [List.length_zip] at hi hj
      have := h3 i j (by omega) (by omega) hij
      rw [List.getElem_zip, List.getElem_zip]
      exact ap_of_neb this
theorem parse_end (toks : List Tok) (en : Int) (w : World) (ta : Option Addr) (tc : Nat) (ht : Rd (fun k => k < w.heap.size) w ta (toksC toks)) (hc : toks.length ≤ tc) (hn : toks.length ≤ 10000000) :
    Calls Try.prog 10 #[.slice ta toks.length tc, .int .i64 en] w (PEnd (outP (Pm.parse toks en)) w) := by
  refine (parse_c toks en w ta tc ht hc hn).mono ?_
  rintro e w' ⟨hk, h⟩
  cases hp : Pm.parse toks en with
  | error f =>
    rw [hp] at h
    exact ⟨h, gives_of ⟨hk, fun _ h => h, (fun r hr => nomatch hr), List.Pairwise.nil⟩⟩
  | ok s =>
    rw [hp] at h
    obtain ⟨nd, fu, ne, kvs, he, ht⟩ := h
    exact ⟨nd, fu, ne, kvs, ht.kvl, he, gives_tree hk ht⟩
end Go.Proofs.Ythodjlhjfaccpaa
