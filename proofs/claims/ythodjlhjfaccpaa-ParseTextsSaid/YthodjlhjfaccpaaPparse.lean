/- Parse: what its call does. -/
import Derived.Test.YthodjlhjfaccpaaPcatch
set_option linter.unusedVariables false
namespace Go.Proofs.Ythodjlhjfaccpaa
open Go Go.RowKit Mem Pm

/-- The state at the beginning, nothing to be read yet. -/
def start0 (toks : List Tok) (en : Int) : PS := { Pm.start toks en with todo := [] }
theorem size_alloc (w : World) (o : Obj) : (w.alloc o).heap.size = w.heap.size + 1 := by simp
theorem start_do (toks : List Tok) (en : Int) : (start0 toks en).do_ [.program] = Pm.start toks en := rfl

theorem start_pi {bd gp : Nat} {toks : List Tok} {en : Int} {w : World} {ta : Option Addr} {tc : Nat} (hbd : bd ≤ gp) (hb : Blk w gp 60 [.slice ta toks.length tc, .int .i64 en, .int .i64 0, .slice none 0 0, .slice none 0 0, .slice none 0 0, .slice none 0 0, .slice none 0 0, .int .i64 0, .slice none 0 0])
    (ht : Rd (fun k => k < bd) w ta (toksC toks)) (hc : toks.length ≤ tc) (hn : toks.length ≤ 1000000000) :
    PI bd [] gp (start0 toks en) w ta tc (.slice none 0 0) (.slice none 0 0) (.slice none 0 0) (.slice none 0 0) (.slice none 0 0) (.slice none 0 0) [] where
  blk := hb
  out := fun h => h.elim (fun h => by omega) (fun h => by cases h)
  toks := ht
  cap := hc
  ntok := hn
  at_ := Nat.zero_le _
  todo := Own.nil _ _ _ _
  nodes := Own.nil _ _ _ _
  kvl := rfl
  kids := fun x hx => by cases hx
  funcs := Own.nil _ _ _ _
  loose := Own.nil _ _ _ _
  begun := Own.nil _ _ _ _
  nest := Own.nil _ _ _ _
  apart := by
    refine List.Pairwise.cons (fun v hv => ?_) (List.Pairwise.cons (fun v hv => ?_) (List.Pairwise.cons (fun v hv => nomatch hv) List.Pairwise.nil)) <;> (intro g hg; simp [Value.ownBlock] at hg)

theorem run_sym (x : Sym) (gp : Nat) (w : World) : Sem.run Try.prog (callFunc (symFn x) #[.pointer (some ⟨gp, 0, none⟩)]) w = .ok (.enter (symFn x) #[.pointer (some ⟨gp, 0, none⟩)]) w := by
  cases x <;> kernel_rfl
/-- What holds ahead of each step. -/
def RunInv (bd gp : Nat) (W : World) (toks : List Tok) (en : Int) (m : Nat) (wr : World) : Prop :=
  ∃ s, Inv s ∧ s.toks = toks ∧ run m s = parse toks en ∧ mu s ≤ m ∧ phi s ≤ phi (Pm.start toks en) ∧ PInv bd [] gp s wr ∧ Kp (Out bd []) W wr

/-- A tree and the nests, as they lie behind Parse. -/
structure TreeIn (A : Nat → Prop) (w : World) (s : PS) (nd fu ne : Value) (kvs : List Value) : Prop where
  nodes : Own A w 42 10 nd s.nodes.length (ndsC (s.nodes.zip kvs))
  kvl : kvs.length = s.nodes.length
  kids : ∀ x ∈ s.nodes.zip kvs, Own A w 3 1 x.2 x.1.kids.length (ints x.1.kids)
  funcs : Own A w 3 1 fu s.funcs.length (ints s.funcs)
  nest : Own A w 3 1 ne s.nest.length (ints s.nest)
  apart : (fu :: ne :: kvs).Pairwise NeB
theorem tree_of {bd b0 gp : Nat} {s : PS} {w w' : World} {ta : Option Addr} {tc : Nat} {td nd fu lo be ne : Value} {kvs : List Value} {S : Nat → Prop} (h : PI bd [] gp s w ta tc td nd fu lo be ne kvs) (hc : Ch S w w') (hS : ∀ k, S k → k < bd) (hb : b0 ≤ bd) : TreeIn (fun k => k < b0) w' s nd fu ne kvs :=
  have ho : ∀ {e size n v xs}, Own (Out bd []) w e size v n xs → Own (fun k => k < b0) w' e size v n xs := fun hh => (hh.ch hc fun g hg he => hh.2 g hg (.inl (hS g he))).mono fun k _ hk => .inl (Nat.lt_of_lt_of_le hk hb)
  { nodes := ho h.nodes, kvl := h.kvl, kids := fun x hx => ho (h.kids x hx), funcs := ho h.funcs, nest := ho h.nest, apart := (List.pairwise_cons.1 h.apart).2 }
/-- How Parse ends. -/
def ParsePost (toks : List Tok) (en : Int) (w : World) (e : Ending) (w' : World) : Prop :=
  Kp (fun k => k < w.heap.size) w w' ∧ match parse toks en with
    | .ok s => ∃ nd fu ne kvs, e = .returned (.tuple #[.agg #[nd, fu], ne, .int .i64 0, .int .i64 0]) ∧ TreeIn (fun k => k < w.heap.size) w' s nd fu ne kvs
    | .error f => e = .returned (.tuple #[.agg #[.slice none 0 0, .slice none 0 0], .slice none 0 0, .int .i64 f.1, .int .i64 f.2])

set_option maxRecDepth 100000 in
set_option maxHeartbeats 4000000 in
theorem parse_c (toks : List Tok) (en : Int) (w : World) (ta : Option Addr) (tc : Nat) (ht : Rd (fun k => k < w.heap.size) w ta (toksC toks)) (hc : toks.length ≤ tc) (hn : toks.length ≤ 10000000) :
    Calls Try.prog 10 #[.slice ta toks.length tc, .int .i64 en] w (ParsePost toks en w) := by
  have Ht := Lib.hid ht
  have Hc := Lib.hid hc
  clear ht hc
  go_enter_defers Try.func10, Try.ntmps10
  go_wp2_with fail
  generalize hg0 : w.heap.size = g0
  have e0 := Blk.new w 35 [.slice none 0 0, .slice none 0 0]
  have e1 := Blk.new (w.alloc (.cells #[.slice none 0 0, .slice none 0 0] 35)) 33 [.slice none 0 0]
  have e2 := Blk.new ((w.alloc (.cells #[.slice none 0 0, .slice none 0 0] 35)).alloc (.cells #[.slice none 0 0] 33)) 3 [.int .i64 0]
  have e3 := Blk.new (((w.alloc (.cells #[.slice none 0 0, .slice none 0 0] 35)).alloc (.cells #[.slice none 0 0] 33)).alloc (.cells #[.int .i64 0] 3)) 36 [.int .i64 0]
  have hfr : Fr w ((((w.alloc (.cells #[.slice none 0 0, .slice none 0 0] 35)).alloc (.cells #[.slice none 0 0] 33)).alloc (.cells #[.int .i64 0] 3)).alloc (.cells #[.int .i64 0] 36)) := ((((Ch.refl _ _).alloc _).alloc _).alloc _).alloc _
  replace e0 := ((e0.alloc (.cells #[.slice none 0 0] 33)).alloc (.cells #[.int .i64 0] 3)).alloc (.cells #[.int .i64 0] 36)
  replace e1 := (e1.alloc (.cells #[.int .i64 0] 3)).alloc (.cells #[.int .i64 0] 36)
  replace e2 := e2.alloc (.cells #[.int .i64 0] 36)
  have hz4 : ((((w.alloc (.cells #[.slice none 0 0, .slice none 0 0] 35)).alloc (.cells #[.slice none 0 0] 33)).alloc (.cells #[.int .i64 0] 3)).alloc (.cells #[.int .i64 0] 36)).heap.size = g0 + 1 + 1 + 1 + 1 := by simp [hg0]
  simp only [size_alloc, hg0] at e0 e1 e2 e3
  obtain ⟨W4, hW4⟩ : ∃ W, W = ((((w.alloc (.cells #[.slice none 0 0, .slice none 0 0] 35)).alloc (.cells #[.slice none 0 0] 33)).alloc (.cells #[.int .i64 0] 3)).alloc (.cells #[.int .i64 0] 36)) := ⟨_, rfl⟩
  rw [← hW4] at e0 e1 e2 e3 hfr hz4 ⊢
  clear hW4
  generalize hg1 : g0 + 1 = g1 at e1 e2 e3 hz4 ⊢
  generalize hg2 : g1 + 1 = g2 at e2 e3 hz4 ⊢
  generalize hg3 : g2 + 1 = g3 at e3 hz4 ⊢
  generalize hgp : g3 + 1 = gp at hz4 ⊢
  have hb := Blk.new W4 60 [.slice ta toks.length tc, .int .i64 en, .int .i64 0, .slice none 0 0, .slice none 0 0, .slice none 0 0, .slice none 0 0, .slice none 0 0, .int .i64 0, .slice none 0 0]
  rw [hz4] at hb
  have hrd : Rd (fun k => k < gp) (W4.alloc (.cells #[.slice ta toks.length tc, .int .i64 en, .int .i64 0, .slice none 0 0, .slice none 0 0, .slice none 0 0, .slice none 0 0, .slice none 0 0, .int .i64 0, .slice none 0 0] 60)) ta (toksC toks) := by
    refine Rd.more (Ht.out.kp ?_) (fun k hk => by have : k < w.heap.size := hk; omega)
    exact (Kp.of_ch hfr (fun _ h => h) (fun _ _ => id)).alloc (fun _ h => h) _
  have hpi := start_pi (Nat.le_refl gp) hb hrd Hc.out (by omega) (en := en)
  have S0 : St gp [] gp (W4.alloc (.cells #[.slice ta toks.length tc, .int .i64 en, .int .i64 0, .slice none 0 0, .slice none 0 0, .slice none 0 0, .slice none 0 0, .slice none 0 0, .int .i64 0, .slice none 0 0] 60)) [] 0 (start0 toks en) (W4.alloc (.cells #[.slice ta toks.length tc, .int .i64 en, .int .i64 0, .slice none 0 0, .slice none 0 0, .slice none 0 0, .slice none 0 0, .slice none 0 0, .int .i64 0, .slice none 0 0] 60)) :=
    St.start ⟨_, _, _, _, _, _, _, _, _, hpi⟩ (fun k hk => by cases hk) (Nat.le_refl 0)
  have hB : (W4.alloc (.cells #[.slice ta toks.length tc, .int .i64 en, .int .i64 0, .slice none 0 0, .slice none 0 0, .slice none 0 0, .slice none 0 0, .slice none 0 0, .int .i64 0, .slice none 0 0] 60)).heap.size = gp + 1 := by rw [size_alloc, hz4]
  have hk5 : Kp (Out gp []) W4 (W4.alloc (.cells #[.slice ta toks.length tc, .int .i64 en, .int .i64 0, .slice none 0 0, .slice none 0 0, .slice none 0 0, .slice none 0 0, .slice none 0 0, .int .i64 0, .slice none 0 0] 60)) := (Kp.refl _ _).alloc (fun k hk => hk.elim (fun h => by omega) (fun h => by cases h)) _
  generalize (W4.alloc (.cells #[.slice ta toks.length tc, .int .i64 en, .int .i64 0, .slice none 0 0, .slice none 0 0, .slice none 0 0, .slice none 0 0, .slice none 0 0, .int .i64 0, .slice none 0 0] 60)) = W5 at S0 hB hk5 ⊢
  clear hb hrd hpi
  have E0 := Lib.hid e0
  have E1 := Lib.hid e1
  have E2 := Lib.hid e2
  have E3 := Lib.hid e3
  have Hfr := Lib.hid hfr
  have Hz4 := Lib.hid hz4
  have K5 := Lib.hid hk5
  have Hgp := Lib.hid (show g1 = g0 + 1 ∧ g2 = g0 + 2 ∧ g3 = g0 + 3 ∧ gp = g0 + 4 by omega)
  have Hg0 := Lib.hid hg0
  clear e0 e1 e2 e3 hfr hz4 hk5 hgp hg0 hg1 hg2 hg3
  refine (do_s S0 (by decide) [.program] 1 rfl (by decide) _ hB _ rfl).mono ?_
  rintro e w1 ⟨rfl, hk1, hS1⟩
  have S1 := Lib.hid hS1
  clear hk1 hS1 hB S0
  go_wp2_with fail
  go_loopg [] (mu (Pm.start toks en)) (fun m wr => RunInv gp gp W4 toks en m wr)
  case atStart => exact ⟨Pm.start toks en, start_inv _ _, rfl, rfl, Nat.le_refl _, Nat.le_refl _, S1.out.p.drop (fun k hk => by cases hk), K5.out.trans S1.out.kp⟩
  case round =>
    obtain ⟨s, inv, hst, hrun, hmu, hphi, hp, hkp⟩ := hrel
    cases htd : s.todo with
    | nil =>
      have hok : parse toks en = .ok s := by
        rw [← hrun]
        cases gk with
        | zero => rfl
        | succ m => unfold run; rw [htd]
      have b0 : Blk wr g0 35 [.slice none 0 0, .slice none 0 0] := E0.out.kp hkp (.inl (by have := Hgp.out; omega))
      have b1 : Blk wr (g1) 33 [.slice none 0 0] := E1.out.kp hkp (.inl (by have := Hgp.out; omega))
      have b2 : Blk wr (g2) 3 [.int .i64 0] := E2.out.kp hkp (.inl (by have := Hgp.out; omega))
      have b3 : Blk wr (g3) 36 [.int .i64 0] := E3.out.kp hkp (.inl (by have := Hgp.out; omega))
      have y00 : wr.cell? ⟨g0, 0, none⟩ = some (.slice none 0 0) := b0.cell 0
      have y01 : wr.cell? ⟨g0, 1, none⟩ = some (.slice none 0 0) := b0.cell 1
      have y1 : wr.cell? ⟨g1, 0, none⟩ = some (.slice none 0 0) := b1.cell 0
      have y2 : wr.cell? ⟨g2, 0, none⟩ = some (.int .i64 0) := b2.cell 0
      have y3 : wr.cell? ⟨g3, 0, none⟩ = some (.int .i64 0) := b3.cell 0
      have z00 := b0.frozen 0
      have z01 := b0.frozen 1
      have z1 := b1.frozen 0
      have z2 := b2.frozen 0
      have z3 := b3.frozen 0
      have d01 : g0 ≠ g1 := by have := Hgp.out; omega
      have d02 : g0 ≠ g2 := by have := Hgp.out; omega
      have d03 : g0 ≠ g3 := by have := Hgp.out; omega
      have d12 : g1 ≠ g2 := by have := Hgp.out; omega
      have d13 : g1 ≠ g3 := by have := Hgp.out; omega
      have d23 : g2 ≠ g3 := by have := Hgp.out; omega
      have n0 : g0 ≠ gp := by have := Hgp.out; omega
      have n2 : g2 ≠ gp := by have := Hgp.out; omega
      have n3 : g3 ≠ gp := by have := Hgp.out; omega
      have n1 : g1 ≠ gp := by have := Hgp.out; omega
      obtain ⟨ta', tc', td, nd, fu, lo, be, ne, kvs, hp⟩ := hp
      obtain ⟨at1, cp1, rfl, _, _⟩ := hp.todo.form
      obtain ⟨at2, cp2, rfl, _, _⟩ := hp.nodes.form
      obtain ⟨at3, cp3, rfl, _, _⟩ := hp.funcs.form
      obtain ⟨at4, cp4, rfl, _, _⟩ := hp.nest.form
      have hc := pcells hp.blk
      rw [htd] at hc
      have B0 := Lib.hid b0
      have B1 := Lib.hid b1
      have B2 := Lib.hid b2
      have B3 := Lib.hid b3
      have Hp := Lib.hid hp
      have Hok := Lib.hid hok
      have Hkp := Lib.hid hkp
      clear b0 b1 b2 b3 hp hok hkp hst hrun hmu hphi inv htd
      obtain ⟨_, _, _, _, c4, c5, _, _, _, c9⟩ := hc
      have m0 : gp ≠ g0 := n0.symm
      have m1 : gp ≠ g1 := n1.symm
      have m2 : gp ≠ g2 := by have := Hgp.out; omega
      have m3 : gp ≠ g3 := by have := Hgp.out; omega
      go_wp2_with fail
      go_region_held3 (fun w' => w'.cell? ⟨gp, 4, none⟩ = some (.slice at2 s.nodes.length cp2) ∧ w'.cell? ⟨gp, 5, none⟩ = some (.slice at3 s.funcs.length cp3) ∧ w'.cell? ⟨gp, 9, none⟩ = some (.slice at4 s.nest.length cp4)) (go_keep) (fail)
      have C : Ch (fun k => k = g0 ∨ k = g1 ∨ k = g2 ∨ k = g3) wr _ := ((((((Ch.refl (fun k => k = g0 ∨ k = g1 ∨ k = g2 ∨ k = g3) wr).setCell (p := ⟨g0, 0, none⟩) (.inl rfl) (.slice at2 s.nodes.length cp2)).setCell (p := ⟨g0, 1, none⟩) (.inl rfl) (.slice at3 s.funcs.length cp3)).setCell (p := ⟨g1, 0, none⟩) (.inr (.inl rfl)) (.slice at4 s.nest.length cp4)).setCell (p := ⟨g2, 0, none⟩) (.inr (.inr (.inl rfl))) (.int .i64 0)).setCell (p := ⟨g3, 0, none⟩) (.inr (.inr (.inr rfl))) (.int .i64 0)).drew
      have f0 := (((((B0.out.set_ 0 (.slice at2 s.nodes.length cp2)).set_ 1 (.slice at3 s.funcs.length cp3)).far (p := ⟨g1, 0, none⟩) d01 (.slice at4 s.nest.length cp4)).far (p := ⟨g2, 0, none⟩) d02 (.int .i64 0)).far (p := ⟨g3, 0, none⟩) d03 (.int .i64 0)).drew
      have f1 := (((((B1.out.far (p := ⟨g0, 0, none⟩) d01.symm (.slice at2 s.nodes.length cp2)).far (p := ⟨g0, 1, none⟩) d01.symm (.slice at3 s.funcs.length cp3)).set_ 0 (.slice at4 s.nest.length cp4)).far (p := ⟨g2, 0, none⟩) d12 (.int .i64 0)).far (p := ⟨g3, 0, none⟩) d13 (.int .i64 0)).drew
      have f2 := (((((B2.out.far (p := ⟨g0, 0, none⟩) d02.symm (.slice at2 s.nodes.length cp2)).far (p := ⟨g0, 1, none⟩) d02.symm (.slice at3 s.funcs.length cp3)).far (p := ⟨g1, 0, none⟩) d12.symm (.slice at4 s.nest.length cp4)).set_ 0 (.int .i64 0)).far (p := ⟨g3, 0, none⟩) d23 (.int .i64 0)).drew
      have f3 := (((((B3.out.far (p := ⟨g0, 0, none⟩) d03.symm (.slice at2 s.nodes.length cp2)).far (p := ⟨g0, 1, none⟩) d03.symm (.slice at3 s.funcs.length cp3)).far (p := ⟨g1, 0, none⟩) d13.symm (.slice at4 s.nest.length cp4)).far (p := ⟨g2, 0, none⟩) d23.symm (.int .i64 0)).set_ 0 (.int .i64 0)).drew
      generalize World.drew (World.setCell _ _ _) = Z at C f0 f1 f2 f3 ⊢
      have v0 : Z.cell? ⟨g0, 0, none⟩ = some (.slice at2 s.nodes.length cp2) := f0.cell 0
      have v1 : Z.cell? ⟨g0, 1, none⟩ = some (.slice at3 s.funcs.length cp3) := f0.cell 1
      have v2 : Z.cell? ⟨g1, 0, none⟩ = some (.slice at4 s.nest.length cp4) := f1.cell 0
      have v3 : Z.cell? ⟨g2, 0, none⟩ = some (.int .i64 0) := f2.cell 0
      have v4 : Z.cell? ⟨g3, 0, none⟩ = some (.int .i64 0) := f3.cell 0
      have T := Lib.hid (tree_of (b0 := w.heap.size) Hp.out C (fun k hk => by have := Hgp.out; omega) (by have := Hgp.out; have := Hg0.out; omega))
      have KP : Kp (fun k => k < w.heap.size) w Z := by
        have h1 : Kp (fun k => k < w.heap.size) w W4 := Kp.of_ch Hfr.out (fun _ h => h) (fun _ _ => id)
        have h2 : Kp (fun k => k < w.heap.size) W4 wr := Hkp.out.mono fun k hk => .inl (by have := Hgp.out; have := Hg0.out; omega)
        have h3 : Kp (fun k => k < w.heap.size) wr Z := Kp.of_ch C (fun k hk => Nat.lt_of_lt_of_le hk (h1.trans h2).size) (fun k hk he => by have := Hgp.out; have := Hg0.out; omega)
        exact (h1.trans h2).trans h3
      have HK := Lib.hid KP
      clear f0 f1 f2 f3 C KP c4 c5 c9 y00 y01 y1 y2 y3 z00 z01 z1 z2 z3 B0 B1 B2 B3
      go_wp2_with fail
      refine leaves_cons (f := 19) (args := #[.pointer (some ⟨g0, 0, none⟩), .pointer (some ⟨g1, 0, none⟩), .pointer (some ⟨g2, 0, none⟩), .pointer (some ⟨g3, 0, none⟩)]) (by simp) (by simp [go_sem]) ?_
      refine (catch_idle g0 g1 g2 g3 _).mono ?_
      rintro e u' w'' ⟨rfl, rfl, rfl⟩
      have HF : ParsePost toks en w (.returned (.tuple #[.agg #[.slice at2 s.nodes.length cp2, .slice at3 s.funcs.length cp3], .slice at4 s.nest.length cp4, .int .i64 0, .int .i64 0])) w'' := by
        refine ⟨HK.out, ?_⟩
        rw [Hok.out]
        exact ⟨_, _, _, _, rfl, T.out⟩
      simp [Leaves, settle, results, Try.results10, go_sem, v0, v1, v2, v3, v4]
      exact HF
    | cons x r =>
      have hrl : r.length ≤ 1000000000 := by
        have h1 : s.sz ≤ phi s := by unfold phi; omega
        have h2 : phi (Pm.start toks en) = 1 + 1 + 12 * toks.length := by
          unfold phi rem PS.sz Pm.start
          simp [sumOf, pot, pen, pen0]
        have h3 : s.todo.length ≤ s.sz := by unfold PS.sz; omega
        rw [htd, List.length_cons] at h3
        omega
      have hsz : ({ s with todo := r } : PS).sz + 3 * ({ s with todo := r } : PS).toks.length ≤ 900000000 := by
        have h1 : s.sz ≤ phi s := by unfold phi; omega
        have h2 : phi (Pm.start toks en) = 1 + 1 + 12 * toks.length := by
          unfold phi rem PS.sz Pm.start
          simp [sumOf, pot, pen, pen0]
        have h3 : ({ s with todo := r } : PS).sz ≤ s.sz := by unfold PS.sz; rw [htd, List.length_cons]; dsimp only; omega
        have h4 : ({ s with todo := r } : PS).toks.length = toks.length := congrArg List.length hst
        omega
      obtain ⟨ta', tc', td, nd, fu, lo, be, ne, kvs, hp⟩ := hp
      have hown := hp.todo
      have htl : s.todo.length = r.length + 1 := by rw [htd]; rfl
      rw [htl] at hown
      obtain ⟨at1, cp1, rfl, hcap, hg1⟩ := hown.form
      obtain ⟨gt, rfl, hgt⟩ := hg1 (Nat.succ_pos _)
      have hc := pcells hp.blk
      have z3 := hp.blk.frozen 3
      have hx : (s.todo.reverse.map (symVal gp))[r.length]? = some (symVal gp x) := by rw [htd]; simp
      have cx := hown.cell hgt hx
      have hgg : gt ≠ gp := fun he => hown.ne_blk hp.blk (by decide) (he ▸ hgt)
      have hi0 : (0 : Int) ≤ (r.length : Int) := by omega
      have hi1 : (r.length : Int) < (r.length : Int) + 1 := by omega
      have hi2 : (r.length : Int) ≤ (r.length : Int) + 1 := by omega
      have hi3 : ((r.length : Int) + 1 - 1) = (r.length : Int) := by omega
      have hpos : (0 : Int) < (r.length : Int) + 1 := by omega
      have Hown := Lib.hid hown
      have Hp := Lib.hid hp
      have Hkp := Lib.hid hkp
      have Hrun := Lib.hid (show (({ s with todo := r } : PS).rule x).bind (run (gk - 1)) = parse toks en ∧ 0 < gk by
        have hgk : 0 < gk := by
          have : 0 < wt x := by cases x <;> decide
          unfold mu at hmu
          rw [htd] at hmu
          simp only [sumOf_cons] at hmu
          omega
        obtain ⟨m, rfl⟩ : ∃ m, gk = m + 1 := ⟨gk - 1, by omega⟩
        refine ⟨?_, hgk⟩
        rw [← hrun]
        show _ = (match s.todo with | [] => _ | x :: r => _)
        rw [htd]
        rfl)
      have Hmu := Lib.hid hmu
      have Hphi := Lib.hid hphi
      have Hinv := Lib.hid inv
      have Hst := Lib.hid hst
      have Htd := Lib.hid htd
      have Hsz := Lib.hid hsz
      unfold symVal at cx
      have hcf := run_sym x gp
      clear hp hkp hrun hmu hphi inv hst htd hsz hx hown htl
      go_wp2_with fail
      refine Reg.wp_region_text (by kernel_rfl) (by kernel_rfl) ?_
      go_wp2_with fail
      refine ⟨by kernel_rfl, ?_⟩
      go_wp2_with fail
      refine Reg.wp_region_text (by kernel_rfl) (by kernel_rfl) ?_
      go_wp2_with fail
      refine ⟨by kernel_rfl, ?_⟩
      go_wp2_with fail
      have hch : Ch (fun k => k = gp ∨ (Value.slice (some ⟨gt, 0, none⟩) (r.length + 1) cp1).ownBlock = some k) wr (((wr.setCell ⟨gp, 3, none⟩ (.slice (some ⟨gt, 0, none⟩) r.length cp1)).drew).drew) := ((Ch.setCell (S := fun k => k = gp ∨ (Value.slice (some ⟨gt, 0, none⟩) (r.length + 1) cp1).ownBlock = some k) (p := ⟨gp, 3, none⟩) (Ch.refl _ _) (.inl rfl) _).drew).drew
      have hoc : Own (Out gp []) (((wr.setCell ⟨gp, 3, none⟩ (.slice (some ⟨gt, 0, none⟩) r.length cp1)).drew).drew) 1 1 (.slice (some ⟨gt, 0, none⟩) r.length cp1) r.length (r.reverse.map (symVal gp)) := by
        have h1 := (Hown.out.cut (k := r.length) (Nat.le_succ _)).ch (((Ch.setCell (S := fun k => k = gp) (p := ⟨gp, 3, none⟩) (Ch.refl _ wr) rfl (.slice (some ⟨gt, 0, none⟩) r.length cp1)).drew).drew) (fun g hg he => by
          have : g = gt := by simpa [Value.ownBlock] using hg.symm
          omega)
        rw [Htd.out] at h1
        simpa [List.take_append, List.take_of_length_le] using h1
      have P1 := Hp.out.updTodo (l := r) hch ((Hp.out.blk.set_ 3 (.slice (some ⟨gt, 0, none⟩) r.length cp1)).drew.drew) hoc
      have hk1 : Kp (Out gp []) wr (((wr.setCell ⟨gp, 3, none⟩ (.slice (some ⟨gt, 0, none⟩) r.length cp1)).drew).drew) := ((Kp.refl _ wr).setCell (p := ⟨gp, 3, none⟩) (fun h => h.elim (fun h => by dsimp only at h; omega) (fun h => by cases h)) _).drew.drew
      have HP1 := Lib.hid P1
      have HK1 := Lib.hid hk1
      have hpre := Lib.hid (inv_pre Hinv.out Htd.out)
      clear hch hoc P1 hk1 hc cx z3 hcf
      generalize World.drew (World.drew _) = W6 at HP1 HK1 ⊢
      refine (rule_c ⟨_, _, _, _, _, _, _, _, _, HP1.out⟩ (fun k hk => by cases hk) Hsz.out x hpre.out).mono ?_
      rintro e w2 ⟨hk2, hres⟩
      cases hr : ({ s with todo := r } : PS).rule x with
      | error f =>
        rw [hr] at hres
        have he : e = thrown f := hres
        subst he
        have hpar : parse toks en = .error f := by rw [← Hrun.out.1, hr]; rfl
        have b0 : Blk w2 g0 35 [.slice none 0 0, .slice none 0 0] := E0.out.kp ((Hkp.out.trans HK1.out).trans hk2) (.inl (by have := Hgp.out; omega))
        have b1 : Blk w2 g1 33 [.slice none 0 0] := E1.out.kp ((Hkp.out.trans HK1.out).trans hk2) (.inl (by have := Hgp.out; omega))
        have b2 : Blk w2 g2 3 [.int .i64 0] := E2.out.kp ((Hkp.out.trans HK1.out).trans hk2) (.inl (by have := Hgp.out; omega))
        have b3 : Blk w2 g3 36 [.int .i64 0] := E3.out.kp ((Hkp.out.trans HK1.out).trans hk2) (.inl (by have := Hgp.out; omega))
        have KP : Kp (fun k => k < w.heap.size) w w2 := by
          have h1 : Kp (fun k => k < w.heap.size) w W4 := Kp.of_ch Hfr.out (fun _ h => h) (fun _ _ => id)
          exact h1.trans (((Hkp.out.trans HK1.out).trans hk2).mono fun k hk => .inl (by have := Hgp.out; have := Hg0.out; omega))
        have HK := Lib.hid KP
        have Hpar := Lib.hid hpar
        clear KP hpar hres hk2 hr
        unfold thrown
        refine leaves_cons (f := 19) (args := #[.pointer (some ⟨g0, 0, none⟩), .pointer (some ⟨g1, 0, none⟩), .pointer (some ⟨g2, 0, none⟩), .pointer (some ⟨g3, 0, none⟩)]) (by simp) (by simp [go_sem]) ?_
        refine (catch_fault g0 g1 g2 g3 _ _ _ _ _ f w2 b0 b1 b2 b3).mono ?_
        rintro e u' w3 ⟨rfl, rfl, q0, q1, q2, q3, hch⟩
        have v0 : w3.cell? ⟨g0, 0, none⟩ = some (.slice none 0 0) := q0.cell 0
        have v1 : w3.cell? ⟨g0, 1, none⟩ = some (.slice none 0 0) := q0.cell 1
        have v2 : w3.cell? ⟨g1, 0, none⟩ = some (.slice none 0 0) := q1.cell 0
        have v3 : w3.cell? ⟨g2, 0, none⟩ = some (.int .i64 f.1) := q2.cell 0
        have v4 : w3.cell? ⟨g3, 0, none⟩ = some (.int .i64 f.2) := q3.cell 0
        have HF : ParsePost toks en w (.returned (.tuple #[.agg #[.slice none 0 0, .slice none 0 0], .slice none 0 0, .int .i64 f.1, .int .i64 f.2])) w3 := by
          refine ⟨HK.out.trans (Kp.of_ch hch (fun k hk => Nat.lt_of_lt_of_le hk HK.out.size) (fun k hk he => by have := Hgp.out; have := Hg0.out; omega)), ?_⟩
          rw [Hpar.out]
        clear q0 q1 q2 q3 hch b0 b1 b2 b3
        simp [Leaves, settle, results, Try.results10, go_sem, v0, v1, v2, v3, v4]
        exact HF
      | ok s' =>
        rw [hr] at hres
        have he : e = .returned (.tuple #[]) := hres.1
        have hp' : PInv gp [] gp s' w2 := hres.2
        subst he
        have nx := step_nx Hinv.out Htd.out hr
        have HF : RunInv gp gp W4 toks en (gk - 1) w2 := by
          refine ⟨s', nx.inv, nx.toks.trans Hst.out, ?_, ?_, ?_, hp', (Hkp.out.trans HK1.out).trans hk2⟩
          · rw [← Hrun.out.1, hr]; rfl
          · have h1 := nx.mu; have h2 := Hmu.out; omega
          · have h1 := nx.phi; have h2 := Hphi.out; omega
        have hgk := Hrun.out.2
        have HF' := Lib.hid HF
        clear hres hp' nx HF hk2 hr
        go_wp2_with fail
        go_roundg (gk - 1)
        case measure => omega
        case rel => exact HF'.out
end Go.Proofs.Ythodjlhjfaccpaa
