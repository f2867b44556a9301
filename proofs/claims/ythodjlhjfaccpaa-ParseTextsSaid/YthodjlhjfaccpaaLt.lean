/- quernlaw4's tokens: what the call does. -/
import Derived.Test.YthodjlhjfaccpaaLw
set_option linter.unusedVariables false
namespace Go.Proofs.Ythodjlhjfaccpaa
open Go Go.RowKit Mem Pm

theorem infoTok : (Try.prog.info? 48).map (fun i => (i.zero, i.size, i.bytes)) = some (some (.agg #[.int .i64 0, .int .i64 0, .int .i64 0, .string ⟨#[]⟩]), 4, 40) := by kernel_rfl
/-- The two marks behind the tokens. -/
def marksC : List Value := [.int .i64 (-71), .int .i64 0, .int .i64 0, .string ⟨#[]⟩, .int .i64 (-72), .int .i64 0, .int .i64 0, .string ⟨#[]⟩]
theorem toksC_len (l : List Tok) : (toksC l).length = l.length * 4 := by
  induction l with
  | nil => rfl
  | cons x r ih => unfold toksC at ih ⊢; rw [List.flatMap_cons, List.length_append, ih, List.length_cons]; simp [tokC]; omega
theorem toksC_one (l : List Tok) : ((toksC l).all fun u => u.oneCell') = true := by
  rw [List.all_eq_true]
  intro u hu
  unfold toksC at hu
  obtain ⟨t, _, hu⟩ := List.mem_flatMap.1 hu
  simp only [tokC, List.mem_cons, List.not_mem_nil, or_false] at hu
  rcases hu with rfl | rfl | rfl | rfl <;> rfl

set_option maxRecDepth 100000 in
set_option maxHeartbeats 4000000 in
theorem tokens_c (l : List Tok) (a : Option Addr) (cap : Nat) (w : World) (h : RdS w (.slice a l.length cap) l.length (toksC l)) (hl : l.length ≤ 100000000) :
    Calls Try.prog 16 #[.slice a l.length cap] w fun e w' => ∃ a' cap', e = .returned (.slice a' (l.length + 2) cap') ∧ Gives w w' [.row 48 4 (.slice a' (l.length + 2) cap') (l.length + 2) (toksC l ++ marksC)] := by
  obtain ⟨a0, c0, he, _, hr⟩ := h
  injection he with he1 _ he2
  subst he1 he2
  have hr' : 0 < l.length → ∃ d, a = some d ∧ ∀ j u, (toksC l)[j]? = some u → w.cell? (d.add j) = some u := by
    intro h0
    obtain ⟨g, off, h1, h2⟩ := hr (fun h => by have := toksC_len l; rw [h] at this; simp at this; omega)
    exact ⟨⟨g, off, none⟩, h1, fun j u hu => by rw [Addr.add_lit]; exact h2 j u hu⟩
  obtain ⟨i0, hi0, hz0, hz1, hz2⟩ := info_parts infoTok
  have Hr := Lib.hid hr'
  have H0 := Lib.hid (Hs.start w)
  clear hr hr'
  go_enter Try.func16, Try.ntmps16
  go_wp2_with (at_builtin; go_must (refine Hs.copy rfl _ _ 22 rfl 48 i0 _ 4 40 (by kernel_rfl) hi0 hz0 hz1 hz2 rfl (Nat.succ_pos _) (Nat.le_of_ble_eq_true rfl) a l.length cap (toksC l) rfl rfl (toksC_len l) (toksC_one l) (by omega) Hr.out H0.out ?_))
  intro v1 w1 hh
  obtain ⟨a1, c1, rfl, _, _⟩ := hh.form 0 rfl
  have H1 := Lib.hid (hh.alloc marksC 48)
  clear hh
  go_wp2_with (at_builtin; go_must (refine Hs.pushN rfl _ _ 22 rfl 48 i0 _ 4 40 (by kernel_rfl) hi0 hz0 hz1 hz2 rfl (Nat.succ_pos _) (Nat.le_of_ble_eq_true rfl) 1 (.slice a1 l.length c1) l.length (toksC l) rfl 0 w1.heap.size 2 marksC rfl rfl rfl (by decide) rfl rfl (by omega) H1.out ?_))
  intro v2 w2 hh2
  obtain ⟨a2, c2, rfl, _, _⟩ := hh2.form 1 rfl
  have H2 := Lib.hid hh2.tail
  clear hh2
  go_wp2_with fail
  go_ret
  exact ⟨a2, c2, rfl, gives_of H2.out⟩

theorem rd_of_rdS {w : World} {a : Option Addr} {n cap : Nat} {xs : List Value} (h : RdS w (.slice a n cap) n xs) : Rd (fun k => k < w.heap.size) w a xs := by
  obtain ⟨a0, c0, he, _, hr⟩ := h
  injection he with he1 _ he2
  subst he1 he2
  intro hx
  obtain ⟨g, off, h1, h2⟩ := hr hx
  refine ⟨g, off, h1, ?_, h2⟩
  cases xs with
  | nil => exact absurd rfl hx
  | cons u r => exact block_lt_of_cell (h2 0 u rfl)
theorem RdS.pre {w : World} {a : Option Addr} {n m cap : Nat} {xs ys : List Value} (h : RdS w (.slice a n cap) n (xs ++ ys)) (hm : m ≤ n) : RdS w (.slice a m cap) m xs := by
  obtain ⟨a0, c0, he, hc, hr⟩ := h
  injection he with he1 _ he2
  subst he1 he2
  refine ⟨_, _, rfl, by omega, fun hx => ?_⟩
  obtain ⟨g, off, h1, h2⟩ := hr (by simp [hx])
  exact ⟨g, off, h1, fun j u hu => h2 j u (by rw [List.getElem?_append_left (List.getElem?_eq_some_iff.1 hu).1]; exact hu)⟩
theorem row_len {A : Nat → Prop} {w0 w : World} {rs : List Res} (h : Hs A w0 w rs) {r : Res} (hr : r ∈ rs) : match r with | .row _ _ _ n _ => n ≤ 9223372036854775807 | _ => True := by
  have h1 := h.ok r hr
  cases r with
  | blk g t cs => trivial
  | row e size v n xs =>
    rcases h1.1.2 with ⟨_, h2⟩ | ⟨g, cap, cur, _, _, _, h3, h4, _⟩
    · dsimp only; omega
    · unfold maxLen at h4; dsimp only; omega

/-- A parser's answer, as five values. -/
structure PRes where
  nodes : List Nd
  funcs : List Int
  nest : List Int
  at_ : Int
  code : Int
def pres : Except (Int × Int) (List Nd × List Int × List Int) → PRes
  | .ok (a, b, c) => ⟨a, b, c, 0, 0⟩
  | .error f => ⟨[], [], [], f.1, f.2⟩
/-- How a parser ends, in one form. -/
def PFin (r : PRes) (w : World) (e : Ending) (w' : World) : Prop :=
  ∃ nd fu ne kvs, kvs.length = r.nodes.length ∧ e = .returned (.tuple #[.agg #[nd, fu], ne, .int .i64 r.at_, .int .i64 r.code]) ∧ Gives w w' (treeRes r.nodes r.funcs r.nest nd fu ne kvs)
theorem pfin_of {x : Except (Int × Int) (List Nd × List Int × List Int)} {w w' : World} {e : Ending} (h : PEnd x w e w') : PFin (pres x) w e w' := by
  cases x with
  | ok y =>
    obtain ⟨a, b, c⟩ := y
    exact h
  | error f =>
    obtain ⟨h1, h2⟩ := h
    exact ⟨.slice none 0 0, .slice none 0 0, .slice none 0 0, [], rfl, h1, fun A w0 rs H => (((h2 A w0 rs H).nil 3 1).nil 3 1).nil 42 10⟩
/-- Both parsers, one answer. -/
def ans (l : List Tok) (en : Int) : PRes := pres (outP (Pm.parse l en))
theorem parse_f (l : List Tok) (en : Int) (w : World) (a : Option Addr) (cap : Nat) (h : RdS w (.slice a l.length cap) l.length (toksC l)) (hl : l.length ≤ 1000000) : Calls Try.prog 10 #[.slice a l.length cap, .int .i64 en] w (PFin (ans l en) w) := by
  have hc : l.length ≤ cap := by obtain ⟨_, _, he, hc, _⟩ := h; injection he with _ _ he; omega
  exact (parse_end l en w a cap (rd_of_rdS h) hc (by omega)).mono fun _ _ => pfin_of
theorem refParse_f (l : List Tok) (en : Int) (w : World) (a : Option Addr) (cap : Nat) (h : RdS w (.slice a l.length cap) l.length (toksC l)) (hl : l.length ≤ 1000000) (hnm : ∀ t ∈ l, t.name.size ≤ 9223372036854775807) : Calls Try.prog 13 #[.slice a l.length cap, .int .i64 en] w (PFin (ans l en) w) := by
  have hc : l.length ≤ cap := by obtain ⟨_, _, he, hc, _⟩ := h; injection he with _ _ he; omega
  obtain ⟨n, x, hr, hs⟩ := Rf.same l en hl
  have := refParse_c l en n x hr w a cap (rd_of_rdS h) hc (by omega) hnm
  rw [← same_out hs] at this
  exact this.mono fun _ _ => pfin_of
end Go.Proofs.Ythodjlhjfaccpaa
