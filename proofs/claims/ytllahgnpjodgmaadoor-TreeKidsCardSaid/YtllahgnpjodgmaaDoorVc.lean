/- quernlaw3.alive. -/
import Derived.Test.YtllahgnpjodgmaaDoorVb
import Derived.Laws.BytesArg
set_option linter.unusedVariables false
namespace Go.Proofs.YtllahgnpjodgmaaDoor
open Go Go.RowKit Mem Pm
theorem rdS_blk {A : Nat → Prop} {w0 w : World} {rs : List Res} (h : Hs A w0 w rs) (i : Nat) {g n : Nat} {t : TypeId} {cs : List Value} (hi : rs[i]? = some (.blk g t cs)) : RdS w (sl g n) n cs :=
  ⟨_, _, rfl, Nat.le_refl _, fun _ => ⟨g, 0, rfl, fun j u hu => by rw [Nat.zero_add]; exact h.cell i hi j hu⟩⟩
def sampleRes (b : Nat) (cs : List Value) : List Res := [.blk (b + 6) 3 [.int .i64 5], .blk (b + 5) 45 cs, .blk (b + 4) 3 [.int .i64 4], .blk (b + 3) 3 [.int .i64 3], .blk (b + 2) 3 [.int .i64 2], .blk (b + 1) 3 [.int .i64 0, .int .i64 1]]
theorem sample_rd {A : Nat → Prop} {w0 w : World} {b : Nat} {rs : List Res} (l : List Nd) (hl : l = sampleN ∨ l = sampleM) (h : Hs A w0 w (sampleRes b (ndsC (l.zip [.slice none 0 0, .slice none 0 0, sl (b + 1) 2, sl (b + 2) 1, sl (b + 3) 1, sl (b + 4) 1])) ++ rs)) :
    TreeRd w l [5] (sl (b + 5) 6) (sl (b + 6) 1) := by
  have hn : RdS w (.slice none 0 0) 0 [] := ⟨_, _, rfl, Nat.le_refl _, fun h => absurd rfl h⟩
  rcases hl with rfl | rfl
  · refine ⟨⟨[.slice none 0 0, .slice none 0 0, sl (b + 1) 2, sl (b + 2) 1, sl (b + 3) 1, sl (b + 4) 1], rfl, rdS_blk h 1 rfl, ?_⟩, rdS_blk h 0 rfl⟩
    intro x hx
    simp only [sampleN, List.zip_cons_cons, List.zip_nil_left, List.mem_cons, List.not_mem_nil, or_false] at hx
    rcases hx with rfl | rfl | rfl | rfl | rfl | rfl
    · exact hn
    · exact hn
    · exact rdS_blk h 5 rfl
    · exact rdS_blk h 4 rfl
    · exact rdS_blk h 3 rfl
    · exact rdS_blk h 2 rfl
  · refine ⟨⟨[.slice none 0 0, .slice none 0 0, sl (b + 1) 2, sl (b + 2) 1, sl (b + 3) 1, sl (b + 4) 1], rfl, rdS_blk h 1 rfl, ?_⟩, rdS_blk h 0 rfl⟩
    intro x hx
    simp only [sampleM, List.zip_cons_cons, List.zip_nil_left, List.mem_cons, List.not_mem_nil, or_false] at hx
    rcases hx with rfl | rfl | rfl | rfl | rfl | rfl
    · exact hn
    · exact hn
    · exact rdS_blk h 5 rfl
    · exact rdS_blk h 4 rfl
    · exact rdS_blk h 3 rfl
    · exact rdS_blk h 2 rfl
theorem sample_small (l : List Nd) (hl : l = sampleN ∨ l = sampleM) : Small l [5] := by
  rcases hl with rfl | rfl
  · exact ⟨by decide, by decide, by decide⟩
  · exact ⟨by decide, by decide, by decide⟩
set_option maxRecDepth 100000 in
set_option maxHeartbeats 16000000 in
theorem alive_c (w : World) (htab : Tab w) : Calls Tryd.prog 12 #[] w fun e w' => e = .returned (.bool true) ∧ Fr w w' := by
  have HTab := Lib.hid htab
  clear htab
  go_enter Tryd.func12, Tryd.ntmps12
  go_wp2_with fail
  refine (sample_c _).mono ?_
  rintro e w1 ⟨b, rfl, hg⟩
  have H1 := Lib.hid ((hg _ _ _ (Hs.start w)).alloc [sl (b + 5) 6, sl (b + 6) 1] 25)
  clear hg
  have H2 := Lib.hid (H1.out.mid (l := sampleRes b (sampleC b)) (m := []))
  have T2 := Lib.hid (sample_rd (A := fun k => k < w.heap.size) sampleN (.inl rfl) H2.out)
  have HP := Lib.hid (tab_fr HTab.out (fr_of_kp H2.out.kp))
  have b0 := H2.out.cell 6 rfl 0 rfl
  have b1 := H2.out.cell 6 rfl 1 rfl
  clear H1
  unfold sl at b0 b1 ⊢
  go_wp2_with fail
  refine (print_c sampleN [5] _ _ _ T2.out (sample_small _ (.inl rfl)) HP.out (by decide) (by decide) (fun _ => by rw [sample_print]; decide)).mono ?_
  rintro e w2 (⟨hno, _⟩ | ⟨_, v, rfl, hg⟩)
  · exact absurd hno (by rw [sample_check]; simp)
  rw [sample_print] at hg
  have H3 := Lib.hid ((hg _ _ _ H2.out).mid (l := sampleRes b (sampleC b) ++ [.blk w1.heap.size 25 [sl (b + 5) 6, sl (b + 6) 1]]) (m := []))
  have T3 := Lib.hid (sample_rd (A := fun k => k < w.heap.size) sampleN (.inl rfl) H3.out)
  clear hg HP T2 H2 b0 b1
  have b0 := H3.out.cell 6 rfl 0 rfl
  have b1 := H3.out.cell 6 rfl 1 rfl
  unfold sl at b0 b1
  go_wp2_with fail
  refine (check_c sampleN [5] _ _ _ T3.out (sample_small _ (.inl rfl))).mono ?_
  rintro e w3 ⟨rfl, hf⟩
  rw [sample_check]
  have H4 := Lib.hid (H3.out.ch0 hf)
  have H5 := Lib.hid (H4.out.set_ 1 rfl 6 (.int .i64 1))
  have T5 := Lib.hid (sample_rd (A := fun k => k < w.heap.size) (w0 := w) (w := w3.setCell ⟨b + 5, 6, none⟩ (.int .i64 1)) (rs := [.blk w1.heap.size 25 [sl (b + 5) 6, sl (b + 6) 1], .row 5 1 v sampleS.length (bytesC sampleS)]) sampleM (.inr rfl) H5.out)
  replace b0 := fr_cell hf b0
  replace b1 := fr_cell hf b1
  have c6 := H4.out.cell 1 rfl 6 (u := .int .i64 0) rfl
  have z6 := H4.out.froz 1 rfl 6
  have hne : w1.heap.size ≠ b + 5 := by have := H4.out.ne (i := 6) (j := 1) rfl rfl (by decide); intro h; exact this w1.heap.size rfl (by rw [h]; rfl)
  have hne2 : b + 5 ≠ w1.heap.size := fun h => hne h.symm
  clear hf T3 H3 H4
  have i0 : (0 : Int) < 6 := by decide
  go_wp2_with fail
  refine (check_c sampleM [5] _ _ _ T5.out (sample_small _ (.inr rfl))).mono ?_
  rintro e w4 ⟨rfl, hf⟩
  rw [sample_not]
  have H6 := Lib.hid (H5.out.ch0 hf)
  have HFr := Lib.hid (fr_of_kp H6.out.kp)
  obtain ⟨av, cv, rfl, _, hgv⟩ := H6.out.form 7 rfl
  obtain ⟨gv, rfl, _⟩ := hgv (by decide)
  have hcv : ∀ i, i < 28 → w4.cell? ⟨gv, 0 + i, none⟩ = some (.int .u8 ((sampleS.map fun c => (c.toNat : Int)).getD i 0)) := by
    intro i hi
    rw [Nat.zero_add]
    obtain ⟨g', he, hc⟩ := H6.out.rdRow 7 rfl (by decide)
    injection he with he
    injection he with he1 _
    subst he1
    refine hc i _ ?_
    have hl : i < sampleS.length := hi
    unfold bytesC
    rw [List.getElem?_map, List.getElem?_eq_getElem hl, List.getD_eq_getElem?_getD, List.getElem?_map, List.getElem?_eq_getElem hl]
    rfl
  have hcon := run_convert_bytes_arg w4 30 5 (P := Tryd.prog) (by kernel_rfl) (by kernel_rfl) gv 0 28 cv (sampleS.map fun c => (c.toNat : Int)) rfl hcv 9 (by kernel_rfl)
  have hstr : strOfNums (sampleS.map fun c => (c.toNat : Int)) = ⟨#[102, 117, 110, 99, 32, 109, 97, 105, 110, 40, 41, 32, 123, 10, 9, 120, 32, 61, 32, 49, 32, 45, 32, 50, 59, 10, 125, 10]⟩ := by kernel_rfl
  rw [hstr] at hcon
  clear hf H5 T5 H6 hcv b0 b1 hstr
  have hl28 : sampleS.length = 28 := rfl
  rw [hl28]
  have e0 : errT true = 0 := rfl
  have e3 : errT false = 30 := rfl
  rw [e0, e3]
  go_wp2_with (first | (go_at_call 18; refine (num_c _ _).mono ?_; rintro e w' ⟨rfl, rfl⟩))
  go_ret
  exact ⟨rfl, HFr.out⟩
end Go.Proofs.YtllahgnpjodgmaaDoor
