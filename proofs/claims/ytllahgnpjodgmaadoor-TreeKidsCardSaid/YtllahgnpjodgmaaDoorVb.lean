/- quernlaw3.sample. -/
import Derived.Test.YtllahgnpjodgmaaDoorUh
import Derived.Test.YtllahgnpjodgmaaDoorVa
set_option linter.unusedVariables false
namespace Go.Proofs.YtllahgnpjodgmaaDoor
open Go Go.RowKit Mem Pm
def sampleN : List Nd := [⟨20, 0, 0, 0, 0, 0, 0, 1, ⟨#[]⟩, []⟩, ⟨20, 0, 0, 0, 0, 0, 0, 2, ⟨#[]⟩, []⟩, ⟨31, 0, 0, 0, 0, 0, 2, 0, ⟨#[]⟩, [0, 1]⟩, ⟨5, 0, 0, 0, 0, 0, 0, 0, ⟨#[120]⟩, [2]⟩, ⟨3, 0, 0, 0, 0, 0, 0, 0, ⟨#[]⟩, [3]⟩, ⟨1, 0, 0, 0, 0, 0, 0, 0, ⟨#[109, 97, 105, 110]⟩, [4]⟩]
def sampleM : List Nd := [⟨20, 0, 0, 0, 0, 0, 1, 1, ⟨#[]⟩, []⟩, ⟨20, 0, 0, 0, 0, 0, 0, 2, ⟨#[]⟩, []⟩, ⟨31, 0, 0, 0, 0, 0, 2, 0, ⟨#[]⟩, [0, 1]⟩, ⟨5, 0, 0, 0, 0, 0, 0, 0, ⟨#[120]⟩, [2]⟩, ⟨3, 0, 0, 0, 0, 0, 0, 0, ⟨#[]⟩, [3]⟩, ⟨1, 0, 0, 0, 0, 0, 0, 0, ⟨#[109, 97, 105, 110]⟩, [4]⟩]
def sampleS : List UInt8 := [102, 117, 110, 99, 32, 109, 97, 105, 110, 40, 41, 32, 123, 10, 9, 120, 32, 61, 32, 49, 32, 45, 32, 50, 59, 10, 125, 10]
theorem sample_check : Tm.check sampleN [5] = true := by kernel_rfl
theorem sample_not : Tm.check sampleM [5] = false := by kernel_rfl
theorem sample_print : Tm.print sampleN [5] = sampleS := by kernel_rfl
def sl (g n : Nat) : Value := .slice (some ⟨g, 0, none⟩) n n
def sampleC (b : Nat) : List Value := ndsC (sampleN.zip [.slice none 0 0, .slice none 0 0, sl (b + 1) 2, sl (b + 2) 1, sl (b + 3) 1, sl (b + 4) 1])
theorem treeTy : ∃ x, Tryd.prog.underlying 25 = some (.struct x) := by
  have hb : (match Tryd.prog.underlying 25 with | some (.struct _) => true | _ => false) = true := by kernel_rfl
  generalize Tryd.prog.underlying 25 = o at hb
  cases o with
  | none => cases hb
  | some t => cases t <;> first | exact ⟨_, rfl⟩ | cases hb
set_option maxRecDepth 100000 in
set_option maxHeartbeats 16000000 in
theorem sample_c (w : World) : Calls Tryd.prog 25 #[] w fun e w' => ∃ b, e = .returned (.agg #[sl (b + 5) 6, sl (b + 6) 1]) ∧
    Gives w w' [.blk (b + 6) 3 [.int .i64 5], .blk (b + 5) 45 (sampleC b), .blk (b + 4) 3 [.int .i64 4], .blk (b + 3) 3 [.int .i64 3], .blk (b + 2) 3 [.int .i64 2], .blk (b + 1) 3 [.int .i64 0, .int .i64 1]] := by
  obtain ⟨b, hb⟩ : ∃ b, b = w.heap.size := ⟨_, rfl⟩
  have h := (((((((Hs.start w).alloc [sl (b + 5) 6, sl (b + 6) 1] 25).alloc [.int .i64 0, .int .i64 1] 3).alloc [.int .i64 2] 3).alloc [.int .i64 3] 3).alloc [.int .i64 4] 3).alloc (sampleC b) 45).alloc [.int .i64 5] 3
  simp only [size_alloc'] at h
  rw [← hb] at h
  have h' : Hs (fun k => k < b) w _ [.blk (b + 6) 3 [.int .i64 5], .blk (b + 5) 45 (sampleC b), .blk (b + 4) 3 [.int .i64 4], .blk (b + 3) 3 [.int .i64 3], .blk (b + 2) 3 [.int .i64 2], .blk (b + 1) 3 [.int .i64 0, .int .i64 1], .blk b 25 [sl (b + 5) 6, sl (b + 6) 1]] := h
  rw [hb] at h'
  obtain ⟨x, hu⟩ := treeTy
  clear h
  have H := Lib.hid h'
  have HU := Lib.hid hu
  clear h' hu hb
  go_enter Tryd.func25, Tryd.ntmps25
  go_wp2_with fail
  refine bodyPost_ret (results_cell_row (p := 0) (ty := 25) rfl _ _ w.heap.size 25 #[sl (w.heap.size + 5) 6, sl (w.heap.size + 6) 1] (0, 0) _ rfl ((H.out.get (i := 6) rfl).1) HU.out rfl (by kernel_rfl)) rfl ⟨w.heap.size, rfl, gives_of ?_⟩
  exact H.out.sub (List.sublist_append_left [_, _, _, _, _, _] [_])
end Go.Proofs.YtllahgnpjodgmaaDoor
