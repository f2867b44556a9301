/- Parse's deferred function: a fault that was thrown becomes Parse's answer. -/
import Derived.Test.YthodjlhjfaccpaaPrun
import Derived.Defers
import Derived.Recover
import Derived.Deep.RegionHeld3
set_option linter.unusedVariables false
namespace Go.Proofs.Ythodjlhjfaccpaa
open Go Go.RowKit Mem Pm

theorem run_is_fault (v : Value) (w : World) : (Instr.typeAssert (.iface 62 v) 20 62 true).run Try.prog w = .ok (.tuple #[v, .bool true]) w := by
  have hb : (match Try.prog.underlying 62 with | some (.struct _) => true | _ => false) = true := by kernel_rfl
  have hu : ∃ d, Try.prog.underlying 62 = some (.struct d) := by
    generalize Try.prog.underlying 62 = o at hb
    cases o with
    | none => cases hb
    | some t => cases t <;> first | exact ⟨_, rfl⟩ | cases hb
  obtain ⟨d, hu⟩ := hu
  simp [Instr.typeAssert, run_underlying hu]

set_option maxRecDepth 100000 in
set_option maxHeartbeats 4000000 in
theorem catch_fault (g0 g1 g2 g3 : Nat) (c00 c01 c1 c2 c3 : Value) (f : Int × Int) (w : World) (h0 : Blk w g0 35 [c00, c01]) (h1 : Blk w g1 33 [c1]) (h2 : Blk w g2 3 [c2]) (h3 : Blk w g3 36 [c3]) :
    CallsD Try.prog 19 #[.pointer (some ⟨g0, 0, none⟩), .pointer (some ⟨g1, 0, none⟩), .pointer (some ⟨g2, 0, none⟩), .pointer (some ⟨g3, 0, none⟩)] (.panicking [{ v := .iface 62 (.agg #[.int .i64 f.1, .int .i64 f.2]), recovered := false }]) w fun e u' w' =>
      e = .returned (.tuple #[]) ∧ u' = .panicking [{ v := .iface 62 (.agg #[.int .i64 f.1, .int .i64 f.2]), recovered := true }] ∧
        Blk w' g0 35 [.slice none 0 0, .slice none 0 0] ∧ Blk w' g1 33 [.slice none 0 0] ∧ Blk w' g2 3 [.int .i64 f.1] ∧ Blk w' g3 36 [.int .i64 f.2] ∧ Ch (fun k => k = g0 ∨ k = g1 ∨ k = g2 ∨ k = g3) w w' := by
  refine callsD_of_wpS Try.func19 rfl fun c₀ cs hu => ?_
  apply wpS_seq
  apply wpS_region
  simp [wpOpsS, go_sem, recoverD, hu, Try.ntmps19, Exit.thenS]
  refine wpS_of_wp ?_
  rw [show (Array.replicate 14 undef : Array Value) = #[undef, undef, undef, undef, undef, undef, undef, undef, undef, undef, undef, undef, undef, undef] from rfl]
  simp only [List.setIfInBounds_toArray, List.set_cons_zero, List.set_cons_succ, List.append_toArray, List.cons_append, List.nil_append]
  have hta := run_is_fault
  go_wp2_with fail
  have hB : Blk (w.alloc (.cells #[.int .i64 f.1, .int .i64 f.2] 62)) w.heap.size 62 [.int .i64 f.1, .int .i64 f.2] := Blk.new _ _ _
  have hf := (Ch.refl (fun k => k = g0 ∨ k = g1 ∨ k = g2 ∨ k = g3) w).alloc (.cells #[.int .i64 f.1, .int .i64 f.2] 62)
  have b0 := h0.alloc (.cells #[.int .i64 f.1, .int .i64 f.2] 62)
  have b1 := h1.alloc (.cells #[.int .i64 f.1, .int .i64 f.2] 62)
  have b2 := h2.alloc (.cells #[.int .i64 f.1, .int .i64 f.2] 62)
  have b3 := h3.alloc (.cells #[.int .i64 f.1, .int .i64 f.2] 62)
  have l0 := h0.lt
  have l1 := h1.lt
  have l2 := h2.lt
  have l3 := h3.lt
  have n01 : g0 ≠ g1 := h0.ne_ h1 (by decide)
  have n02 : g0 ≠ g2 := h0.ne_ h2 (by decide)
  have n03 : g0 ≠ g3 := h0.ne_ h3 (by decide)
  have n12 : g1 ≠ g2 := h1.ne_ h2 (by decide)
  have n13 : g1 ≠ g3 := h1.ne_ h3 (by decide)
  have n23 : g2 ≠ g3 := h2.ne_ h3 (by decide)
  have m0 : g0 ≠ w.heap.size := by omega
  have m1 : g1 ≠ w.heap.size := by omega
  have m2 : g2 ≠ w.heap.size := by omega
  have m3 : g3 ≠ w.heap.size := by omega
  generalize hgb : w.heap.size = gb at hB m0 m1 m2 m3 ⊢
  obtain ⟨W, hW⟩ : ∃ W, W = w.alloc (.cells #[.int .i64 f.1, .int .i64 f.2] 62) := ⟨_, rfl⟩
  rw [← hW] at hB b0 b1 b2 b3 hf ⊢
  clear hW h0 h1 h2 h3 l0 l1 l2 l3
  have x0 : W.cell? ⟨gb, 0, none⟩ = some (.int .i64 f.1) := hB.cell 0
  have x1 : W.cell? ⟨gb, 1, none⟩ = some (.int .i64 f.2) := hB.cell 1
  have y00 : W.cell? ⟨g0, 0, none⟩ = some c00 := b0.cell 0
  have y01 : W.cell? ⟨g0, 1, none⟩ = some c01 := b0.cell 1
  have y1 : W.cell? ⟨g1, 0, none⟩ = some c1 := b1.cell 0
  have y2 : W.cell? ⟨g2, 0, none⟩ = some c2 := b2.cell 0
  have y3 : W.cell? ⟨g3, 0, none⟩ = some c3 := b3.cell 0
  have z00 := b0.frozen 0
  have z01 := b0.frozen 1
  have z1 := b1.frozen 0
  have z2 := b2.frozen 0
  have z3 := b3.frozen 0
  have H0 := Lib.hid b0
  have H1 := Lib.hid b1
  have H2 := Lib.hid b2
  have H3 := Lib.hid b3
  have Hf := Lib.hid hf
  clear hB b0 b1 b2 b3 hf hgb
  go_region_held3 (fun w' => w'.cell? ⟨gb, 0, none⟩ = some (.int .i64 f.1) ∧ w'.cell? ⟨gb, 1, none⟩ = some (.int .i64 f.2)) (go_keep) (fail)
  simp only [Exit.inBlock]
  show bodyPostS _ _ _ _ _ _ _ _ _
  have f0 := (((((H0.out.set_ 0 (.slice none 0 0)).set_ 1 (.slice none 0 0)).far (p := ⟨g1, 0, none⟩) n01 (.slice none 0 0)).far (p := ⟨g2, 0, none⟩) n02 (.int .i64 f.1)).far (p := ⟨g3, 0, none⟩) n03 (.int .i64 f.2)).drew
  have f1 := (((((H1.out.far (p := ⟨g0, 0, none⟩) n01.symm (.slice none 0 0)).far (p := ⟨g0, 1, none⟩) n01.symm (.slice none 0 0)).set_ 0 (.slice none 0 0)).far (p := ⟨g2, 0, none⟩) n12 (.int .i64 f.1)).far (p := ⟨g3, 0, none⟩) n13 (.int .i64 f.2)).drew
  have f2 := (((((H2.out.far (p := ⟨g0, 0, none⟩) n02.symm (.slice none 0 0)).far (p := ⟨g0, 1, none⟩) n02.symm (.slice none 0 0)).far (p := ⟨g1, 0, none⟩) n12.symm (.slice none 0 0)).set_ 0 (.int .i64 f.1)).far (p := ⟨g3, 0, none⟩) n23 (.int .i64 f.2)).drew
  have f3 := (((((H3.out.far (p := ⟨g0, 0, none⟩) n03.symm (.slice none 0 0)).far (p := ⟨g0, 1, none⟩) n03.symm (.slice none 0 0)).far (p := ⟨g1, 0, none⟩) n13.symm (.slice none 0 0)).far (p := ⟨g2, 0, none⟩) n23.symm (.int .i64 f.1)).set_ 0 (.int .i64 f.2)).drew
  have f4 := (((((Hf.out.setCell (p := ⟨g0, 0, none⟩) (.inl rfl) (.slice none 0 0)).setCell (p := ⟨g0, 1, none⟩) (.inl rfl) (.slice none 0 0)).setCell (p := ⟨g1, 0, none⟩) (.inr (.inl rfl)) (.slice none 0 0)).setCell (p := ⟨g2, 0, none⟩) (.inr (.inr (.inl rfl))) (.int .i64 f.1)).setCell (p := ⟨g3, 0, none⟩) (.inr (.inr (.inr rfl))) (.int .i64 f.2)).drew
  generalize World.drew (World.setCell _ _ _) = Z at f0 f1 f2 f3 f4 ⊢
  clear H0 H1 H2 H3 Hf x0 x1 y00 y01 y1 y2 y3 z00 z01 z1 z2 z3 hta n01 n02 n03 n12 n13 n23 m0 m1 m2 m3
  have F := Lib.hid (And.intro (show Blk Z g0 35 [.slice none 0 0, .slice none 0 0] from f0) (And.intro (show Blk Z g1 33 [.slice none 0 0] from f1) (And.intro (show Blk Z g2 3 [.int .i64 f.1] from f2) (And.intro (show Blk Z g3 36 [.int .i64 f.2] from f3) f4))))
  clear f0 f1 f2 f3 f4
  cases c₀
  simp_all [bodyPostS, results, Try.results19]
  exact F.out

set_option maxRecDepth 100000 in
set_option maxHeartbeats 4000000 in
theorem catch_idle (g0 g1 g2 g3 : Nat) (w : World) :
    CallsD Try.prog 19 #[.pointer (some ⟨g0, 0, none⟩), .pointer (some ⟨g1, 0, none⟩), .pointer (some ⟨g2, 0, none⟩), .pointer (some ⟨g3, 0, none⟩)] .returning w fun e u' w' =>
      e = .returned (.tuple #[]) ∧ u' = .returning ∧ w' = w := by
  refine callsD_of_wpS Try.func19 rfl fun c₀ cs hu => ?_
  apply wpS_seq
  apply wpS_region
  simp [wpOpsS, go_sem, recoverD, hu, Try.ntmps19, Exit.thenS]
  refine wpS_of_wp ?_
  rw [show (Array.replicate 14 undef : Array Value) = #[undef, undef, undef, undef, undef, undef, undef, undef, undef, undef, undef, undef, undef, undef] from rfl]
  simp only [List.setIfInBounds_toArray, List.set_cons_zero, List.set_cons_succ, List.append_toArray, List.cons_append, List.nil_append]
  go_wp2_with fail
  cases c₀
  simp_all [bodyPostS, results, Try.results19]
end Go.Proofs.Ythodjlhjfaccpaa
