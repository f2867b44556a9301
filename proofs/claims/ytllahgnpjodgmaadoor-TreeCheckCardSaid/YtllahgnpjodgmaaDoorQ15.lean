/- The printer's blocks. -/
import Derived.Test.YtllahgnpjodgmaaDoorQ14
set_option linter.unusedVariables false
namespace Go.Proofs.YtllahgnpjodgmaaDoor
open Go Go.RowKit Mem Pm
open Tm (Part)
def lines (l : List Int) (t : Nat) : List Part := l.flatMap (fun k => [.ln (t + 1), .k k (t + 1)])
theorem lines_len (l : List Int) (t : Nat) : (lines l t).length = 2 * l.length := by
  unfold lines
  induction l with
  | nil => rfl
  | cons a l ih => rw [List.flatMap_cons, List.length_append, ih, List.length_cons]; simp; omega
theorem lines_take {ks : List Int} {j : Nat} {k : Int} (t : Nat) (h : ks[j]? = some k) : lines (ks.take (j + 1)) t = lines (ks.take j) t ++ [.ln (t + 1), .k k (t + 1)] := by
  rw [List.take_add_one, h]
  unfold lines
  rw [List.flatMap_append]; rfl
set_option maxRecDepth 100000 in
set_option maxHeartbeats 16000000 in
theorem block_c {w0 : World} (w : World) (p : Nat) (nd fu todo out : Value) (R : List Part) (rest : List Res) (n : Nd) (kv : Value) (t : Nat)
    (H : Hs (fun k => k < w0.heap.size) w0 w (.blk p 64 [nd, fu, todo, out] :: .row 67 4 todo R.length (partsC R) :: rest)) (hr : RdS w0 kv n.kids.length (ints n.kids)) (hb : R.length + 2 * n.kids.length + 6 ≤ 1000000000) (ht : t ≤ 1000000000) :
    Calls Tryd.prog 46 #[.pointer (some ⟨p, 0, none⟩), ndV n kv, .int .i64 (t : Int)] w fun e w' => e = .returned (.tuple #[]) ∧ PS (fun k => k < w0.heap.size) w0 w' p nd fu out (R ++ (Tm.block n t).reverse) rest := by
  obtain ⟨k, a1, a2, a3, a4, a5, a6, a7, nm, ks⟩ := n
  dsimp only at hr hb
  obtain ⟨i0, hi0, hz0, hz1, hz2⟩ := info_parts infoJob
  obtain ⟨ak, ck, rfl, hck⟩ : ∃ ak ck, kv = .slice ak ks.length ck ∧ ks.length ≤ ck := by obtain ⟨a, c, h1, h2, _⟩ := hr; exact ⟨a, c, h1, h2⟩
  have H1 := Lib.hid (H.alloc' (.cells #[.int .i64 k, .int .i64 a1, .int .i64 a2, .int .i64 a3, .int .i64 a4, .int .i64 a5, .int .i64 a6, .int .i64 a7, .string nm, .slice ak ks.length ck] 45))
  have HR := Lib.hid hr
  have hE : Tm.block (⟨k, a1, a2, a3, a4, a5, a6, a7, nm, ks⟩ : Nd) t = (.s [123] :: lines ks t) ++ [.ln t, .s [125]] := rfl
  rw [hE]
  have hbk : ks.length ≤ 1000000000 := by omega
  have HB := Lib.hid hb
  have x9 := (Blk.new w 45 [.int .i64 k, .int .i64 a1, .int .i64 a2, .int .i64 a3, .int .i64 a4, .int .i64 a5, .int .i64 a6, .int .i64 a7, .string nm, .slice ak ks.length ck]).cell 9
  have ht1 : (t : Int) ≤ 1000000000 := by omega
  have ht0 : (0 : Int) ≤ (t : Int) := by omega
  clear H hr hE hb
  unfold ndV
  dsimp only
  go_enter Tryd.func46, Tryd.ntmps46
  go_wp2_with (first | (go_at_call 69; refine (say_c _ _).mono ?_; rintro e w' ⟨rfl, hf⟩; replace H1 := Lib.hid (H1.out.ch0 hf); replace x9 := fr_cell hf x9; have hlt9 := block_lt_of_cell x9; clear hf))
  rename_i w1
  have H2 := Lib.hid ((H1.out.alloc [.string ⟨#[123]⟩, .bool false, .int .i64 0, .int .i64 0] 67).asRow 0 rfl 4 1 rfl (by decide))
  clear H1
  go_loopg [6, 14] ks.length (fun m v6 v14 wr => ∃ j : Nat, j + m = ks.length ∧ v14 = .int .i64 (j : Int) ∧
    Hs (fun k => k < w0.heap.size) w0 wr (.row 67 4 v6 (Part.s [123] :: lines (ks.take j) t).length (partsC (Part.s [123] :: lines (ks.take j) t)) :: .blk p 64 [nd, fu, todo, out] :: .row 67 4 todo R.length (partsC R) :: rest))
  case atStart => exact ⟨0, by omega, rfl, row_eq H2.out rfl⟩
  case round =>
  obtain ⟨j, hj, rfl, hh⟩ := hrel
  have H1 := Lib.hid hh
  have HFr := Lib.hid (fr_of_kp hh.kp)
  have hlen : (Part.s [123] :: lines (ks.take j) t).length ≤ 2 * j + 1 := by
    have := lines_len (ks.take j) t
    rw [List.length_take] at this
    simp only [List.length_cons]; omega
  have hlenb : (Part.s [123] :: lines (ks.take j) t).length + 2 ≤ 1000000001 := by have := HB.out; by_cases h : j ≤ ks.length <;> omega
  clear hh H2
  by_cases hjl : j < ks.length
  case pos =>
    have hji : (j : Int) < (ks.length : Int) := by omega
    have hj0 : (0 : Int) ≤ (j : Int) := by omega
    have hx : ks[j]? = some ks[j] := List.getElem?_eq_getElem hjl
    obtain ⟨g, off, rfl, cx⟩ := rdS_int (HR.out.fr HFr.out) hx
    have hjt := lines_take t hx
    have HJt := Lib.hid hjt
    clear hx hjt
    generalize ks[j] = kk at cx HJt
    obtain ⟨L, hL⟩ : ∃ L, L = Part.s [123] :: lines (ks.take j) t := ⟨_, rfl⟩
    rw [← hL] at H1 hlenb hlen
    have HL := Lib.hid hL
    clear hL
    go_wp2_with (first
      | (go_at_call 71; refine (margin_c _ _).mono ?_; rintro e w' ⟨rfl, hf⟩; replace H1 := Lib.hid (H1.out.ch0 hf); clear hf)
      | (at_builtin; go_must (refine Hs.pushN rfl _ _ 62 rfl 67 i0 _ 4 40 (by kernel_rfl) hi0 hz0 hz1 hz2 rfl (Nat.succ_pos _) (Nat.le_of_ble_eq_true rfl) 1 _ L.length (partsC L) rfl 0 _ 2 [.string ⟨#[]⟩, .bool true, .int .i64 0, .int .i64 ((t : Int) + 1), .string ⟨#[]⟩, .bool false, .int .i64 kk, .int .i64 ((t : Int) + 1)] rfl rfl rfl (by decide) rfl rfl hlenb (H1.out.alloc [.string ⟨#[]⟩, .bool true, .int .i64 0, .int .i64 ((t : Int) + 1), .string ⟨#[]⟩, .bool false, .int .i64 kk, .int .i64 ((t : Int) + 1)] 67) ?_)))
    intro v1 w2 hh1
    have H4 := Lib.hid hh1.tail
    clear hh1 H1
    go_wp2_with fail
    go_roundg (gk - 1)
    case measure => omega
    case rel =>
      refine ⟨j + 1, by omega, by go_num, ?_⟩
      have h := H4.out
      have hcons : Part.s [123] :: lines (ks.take (j + 1)) t = L ++ [.ln (t + 1), .k kk (t + 1)] := by
        rw [HJt.out, HL.out]; simp
      rw [hcons, partsC_app, List.length_append]
      exact h
  case neg =>
    have hji : ¬ (j : Int) < (ks.length : Int) := by omega
    have htk : ks.take j = ks := List.take_of_length_le (by omega)
    rw [htk] at H1 hlen hlenb
    obtain ⟨L, hL⟩ : ∃ L, L = Part.s [123] :: lines ks t := ⟨_, rfl⟩
    rw [← hL] at H1 hlenb hlen
    have HL := Lib.hid hL
    clear hL htk
    go_wp2_with (first
      | (go_at_call 71; refine (margin_c _ _).mono ?_; rintro e w' ⟨rfl, hf⟩; replace H1 := Lib.hid (H1.out.ch0 hf); clear hf)
      | (go_at_call 69; refine (say_c _ _).mono ?_; rintro e w' ⟨rfl, hf⟩; replace H1 := Lib.hid (H1.out.ch0 hf); clear hf)
      | (at_builtin; go_must (refine Hs.pushN rfl _ _ 62 rfl 67 i0 _ 4 40 (by kernel_rfl) hi0 hz0 hz1 hz2 rfl (Nat.succ_pos _) (Nat.le_of_ble_eq_true rfl) 1 _ L.length (partsC L) rfl 0 _ 2 [.string ⟨#[]⟩, .bool true, .int .i64 0, .int .i64 (t : Int), .string ⟨#[125]⟩, .bool false, .int .i64 0, .int .i64 0] rfl rfl rfl (by decide) rfl rfl hlenb (H1.out.alloc [.string ⟨#[]⟩, .bool true, .int .i64 0, .int .i64 (t : Int), .string ⟨#[125]⟩, .bool false, .int .i64 0, .int .i64 0] 67) ?_)))
    intro v1 w2 hh1
    have H4 := Lib.hid (show Hs (fun k => k < w0.heap.size) w0 w2 (.row 67 4 v1 (L ++ [Part.ln t, Part.s [125]]).length (partsC (L ++ [Part.ln t, Part.s [125]])) :: .blk p 64 [nd, fu, todo, out] :: .row 67 4 todo R.length (partsC R) :: rest) by
      rw [partsC_app, List.length_append]; exact hh1.tail)
    clear hh1 H1
    go_wp2_with fail
    refine (put_c _ p nd fu todo out _ R (L ++ [Part.ln t, Part.s [125]]) rest H4.out (by have := HB.out; simp only [List.length_append, List.length_cons, List.length_nil]; omega)).mono ?_
    rintro e w3 ⟨rfl, hp⟩
    have HP := Lib.hid hp
    clear hp
    go_wp2_with fail
    first | go_end0 | refine bodyPost_ret (results_none rfl _ _ _) rfl ?_
    refine ⟨rfl, ?_⟩
    have h := HP.out
    rw [HL.out] at h
    exact h
end Go.Proofs.YtllahgnpjodgmaaDoor
