/- The printer's sign, value and put. -/
import Derived.Test.YtllahgnpjodgmaaDoorQ11
set_option linter.unusedVariables false
namespace Go.Proofs.YtllahgnpjodgmaaDoor
open Go Go.RowKit Mem Pm
open Tm (Part)
set_option maxRecDepth 100000 in
set_option maxHeartbeats 4000000 in
theorem sign_c (k : Int) (h0 : 0 ≤ k) (h : k ≤ 22) (w : World) : Calls Tryd.prog 83 #[.int .i64 k] w fun e w' => e = .returned (.string (ba (Tm.sign k))) ∧ Fr w w' := by
  have hcell := sgA_get h0 h
  have HC := Lib.hid hcell
  clear hcell
  generalize ba (Tm.sign k) = R at HC ⊢
  have h23 : k < 23 := by omega
  go_enter Tryd.func83, Tryd.ntmps83
  go_upto_region 1 with fail
  go_step
  apply built_to rfl 93 _ (by rfl) sgA ?_ ?_
  · kernel_rfl
  go_step
  go_step
  rename_i K2 hK2
  refine hK2 _ _ ?_
  show wpList _ _ _ _ _ (w.alloc (.cells sgN 93))
  refine wpList_store_row rfl 93 (.tmp 3) (.tmp 4) rfl w.heap.size sgA rfl rfl 93 sgN (heap_alloc_new _ _) (by kernel_rfl) rfl (by kernel_rfl) (wpList_nil ?_)
  obtain ⟨hfa, hwc⟩ := arr_new w sgN sgA 93
  have HF := Lib.hid hfa
  have hc := (hwc k.toNat).trans HC.out
  generalize (w.alloc _).setRow _ _ = W1 at HF hc ⊢
  generalize w.heap.size = g1 at hc ⊢
  clear hfa hwc HC
  go_wp2_with fail
  go_ret
  exact ⟨rfl, HF.out⟩
set_option maxRecDepth 100000 in
set_option maxHeartbeats 4000000 in
theorem value_c (k : Int) (b : Bool) (w : World) : Calls Tryd.prog 82 #[.int .i64 k, .bool b] w fun e w' => ∃ v, e = .returned v ∧ Gives w w' [.row 67 4 v (Tm.value k b).length (partsC (Tm.value k b))] := by
  cases b with
  | true =>
    go_enter Tryd.func82, Tryd.ntmps82
    go_wp2_with fail
    refine (say_c _ _).mono ?_
    rintro e w1 ⟨rfl, hf1⟩
    go_wp2_with fail
    refine (say_c _ _).mono ?_
    rintro e w2 ⟨rfl, hf2⟩
    have H := Lib.hid (((Hs.start w).ch0 (hf1.trans hf2)).alloc (partsC (Tm.value k true)) 67)
    clear hf1 hf2
    go_wp2_with fail
    go_ret
    refine ⟨_, rfl, gives_of ?_⟩
    exact H.out.asRow 0 rfl 4 3 rfl (by decide)
  | false =>
    have H := Lib.hid ((Hs.start w).alloc (partsC (Tm.value k false)) 67)
    go_enter Tryd.func82, Tryd.ntmps82
    go_wp2_with fail
    go_ret
    refine ⟨_, rfl, gives_of ?_⟩
    exact H.out.asRow 0 rfl 4 1 rfl (by decide)
/-- What the printer holds: its block, its list. -/
def PS (A : Nat → Prop) (w0 w : World) (p : Nat) (nd fu out : Value) (R : List Part) (rest : List Res) : Prop :=
  ∃ todo, Hs A w0 w (.blk p 64 [nd, fu, todo, out] :: .row 67 4 todo R.length (partsC R) :: rest)
set_option maxRecDepth 100000 in
set_option maxHeartbeats 8000000 in
theorem put_c {A : Nat → Prop} {w0 : World} (w : World) (p : Nat) (nd fu todo out js : Value) (R l : List Part) (rest : List Res)
    (H : Hs A w0 w (.row 67 4 js l.length (partsC l) :: .blk p 64 [nd, fu, todo, out] :: .row 67 4 todo R.length (partsC R) :: rest)) (hb : R.length + l.length ≤ 1000000000) :
    Calls Tryd.prog 31 #[.pointer (some ⟨p, 0, none⟩), js] w fun e w' => e = .returned (.tuple #[]) ∧ PS A w0 w' p nd fu out (R ++ l.reverse) rest := by
  obtain ⟨i0, hi0, hz0, hz1, hz2⟩ := info_parts infoJob
  obtain ⟨aj, cj, rfl, hcj, _⟩ := H.form 0 rfl
  have H0 := Lib.hid H
  have hlb : l.length ≤ 1000000000 := by omega
  clear H
  go_enter Tryd.func31, Tryd.ntmps31
  go_wp2_with fail
  go_loopg [4] l.length (fun m v4 wr => m ≤ l.length ∧ (∃ iv : Int, v4 = .int .i64 iv ∧ iv = (m : Int) - 1) ∧ ∃ td, Hs A w0 wr (.row 67 4 (.slice aj l.length cj) l.length (partsC l) :: .blk p 64 [nd, fu, td, out] :: .row 67 4 td (R.length + (l.length - m)) (partsC (R ++ (l.drop m).reverse)) :: rest))
  case atStart => exact ⟨Nat.le_refl _, ⟨_, rfl, rfl⟩, _, by rw [Nat.sub_self, Nat.add_zero, List.drop_length, List.reverse_nil, List.append_nil]; exact H0.out⟩
  case round =>
  obtain ⟨hm, ⟨iv, rfl, hiv⟩, td, hh⟩ := hrel
  cases gk with
  | zero =>
    have hiv' : iv = -1 := by omega
    subst hiv'
    have Hh := Lib.hid hh
    clear hh hiv
    go_wp2_with fail
    go_end0
    refine ⟨rfl, td, ?_⟩
    have := Hh.out.tail
    rw [List.drop_zero, Nat.sub_zero] at this
    rw [List.length_append, List.length_reverse]
    exact this
  | succ m =>
    have hx : l[m]? = some l[m] := List.getElem?_eq_getElem hm
    have hne : partsC l ≠ [] := fun h => by have := partsC_get hx 0 (by omega); rw [h] at this; cases this
    obtain ⟨g, rfl, hg⟩ := hh.rdRow 0 rfl hne
    have c0 : wr.cell? ⟨g, m * 4, none⟩ = _ := hg _ _ ((partsC_get hx 0 (by omega)).trans rfl)
    have c1 := hg _ _ ((partsC_get hx 1 (by omega)).trans rfl)
    have c2 := hg _ _ ((partsC_get hx 2 (by omega)).trans rfl)
    have c3 := hg _ _ ((partsC_get hx 3 (by omega)).trans rfl)
    have b2 := hh.cell 1 rfl 2 rfl
    have hdr : l.drop m = l[m] :: l.drop (m + 1) := List.drop_eq_getElem_cons hm
    have HDr := Lib.hid hdr
    have Hh := Lib.hid hh
    have hmi : (m : Int) < (l.length : Int) := by omega
    have hm0 : (0 : Int) ≤ (m : Int) := by omega
    have hiv' : iv = (m : Int) := by omega
    subst hiv'
    clear hx hne hg hdr hh hiv
    generalize l[m] = pt at c0 c1 c2 c3 HDr
    have Hn := Lib.hid (Hh.out.drew.alloc [.string pt.tx, .bool pt.isL, .int .i64 pt.num, .int .i64 pt.tabs] 67)
    have hrb : R.length + (l.length - (m + 1)) ≤ 1000000000 := by omega
    go_upto_region 3 with fail
    refine Reg.wp_region_text (by kernel_rfl) (by kernel_rfl) ?_
    go_wp2_with (at_builtin; go_must (refine Hs.push rfl _ _ 62 rfl 67 i0 _ 4 40 (by kernel_rfl) hi0 hz0 hz1 hz2 rfl (Nat.succ_pos _) (Nat.le_of_ble_eq_true rfl) 3 td (R.length + (l.length - (m + 1))) (partsC (R ++ (l.drop (m + 1)).reverse)) rfl 0 wr.heap.size [.string pt.tx, .bool pt.isL, .int .i64 pt.num, .int .i64 pt.tabs] rfl rfl rfl rfl rfl hrb Hn.out ?_))
    intro v1 w1 hh1
    have hz := hh1.froz 2 rfl 2
    have b3 := hh1.cell 2 rfl 2 rfl
    obtain ⟨ay, cy, rfl, _, _⟩ := hh1.form 3 rfl
    have H1 := Lib.hid ((hh1.tail).set_ 1 rfl 2 (.slice ay (R.length + (l.length - (m + 1)) + 1) cy))
    clear hh1 Hn c0 c1 c2 c3 b2
    go_wp2_with fail
    refine ⟨by kernel_rfl, ?_⟩
    go_wp2_with fail
    go_roundg m
    case measure => omega
    case rel =>
      refine ⟨by omega, ⟨_, rfl, by omega⟩, .slice ay (R.length + (l.length - (m + 1)) + 1) cy, ?_⟩
      have h := H1.out
      rw [HDr.out, List.reverse_cons, ← List.append_assoc, partsC_app (R ++ _) [pt], show R.length + (l.length - m) = R.length + (l.length - (m + 1)) + 1 by omega]
      exact h
end Go.Proofs.YtllahgnpjodgmaaDoor
