/- The printer's statements. -/
import Derived.Test.YtllahgnpjodgmaaDoorTG
import Derived.Deep.RegionHeld3
set_option linter.unusedVariables false
namespace Go.Proofs.YtllahgnpjodgmaaDoor
open Go Go.RowKit Mem Pm
open Tm (Part)
theorem ba_app (a b : List UInt8) : ba (a ++ b) = ba a ++ ba b := by
  apply ByteArray.ext
  simp [ba]
theorem bsize (l : Array UInt8) : (⟨l⟩ : ByteArray).size = l.size := rfl
theorem cat_run (a b : ByteArray) (h : a.size + b.size ≤ 9223372036854775807) : ∀ w, (Op.stringOp .add a b).run Tryd.prog w = .ok (.string (a ++ b)) w := fun w => run_string_add_sum _ _ _ h
theorem tyName_size (t : Int) : (ba (Tm.typeName t)).size ≤ 5 := by
  unfold Tm.typeName
  split
  · exact Nat.le_of_ble_eq_true rfl
  · split <;> exact Nat.le_of_ble_eq_true rfl
/-- What the statements' closure sees. -/
structure At (w : World) (b4 b5 : Nat) (kv : Value) (ks : List Int) (t : Int) : Prop where
  c9 : w.cell? ⟨b4, 9, none⟩ = some kv
  ct : w.cell? ⟨b5, 0, none⟩ = some (.int .i64 t)
  kr : RdS w kv ks.length (ints ks)
theorem At.fr {w w' : World} {b4 b5 : Nat} {kv : Value} {ks : List Int} {t : Int} (h : At w b4 b5 kv ks t) (hf : Fr w w') : At w' b4 b5 kv ks t := ⟨fr_cell hf h.c9, fr_cell hf h.ct, h.kr.fr hf⟩
set_option maxRecDepth 100000 in
set_option maxHeartbeats 4000000 in
theorem at_c {w : World} {b4 b5 : Nat} {kv : Value} {ks : List Int} {t k : Int} (h : At w b4 b5 kv ks t) (i : Nat) (hi : ks[i]? = some k) :
    Calls Tryd.prog 72 #[.int .i64 (i : Int), .pointer (some ⟨b4, 0, none⟩), .pointer (some ⟨b5, 0, none⟩)] w fun e w' => e = .returned (.agg #[.string ⟨#[]⟩, .bool false, .int .i64 k, .int .i64 t]) ∧ Fr w w' := by
  obtain ⟨ak, ck, rfl, _, _⟩ := h.kr
  obtain ⟨g, off, rfl, cx⟩ := rdS_int h.kr hi
  have hlt : i < ks.length := (List.getElem?_eq_some_iff.1 hi).1
  have hi2 : (i : Int) < (ks.length : Int) := by omega
  have hi3 : (0 : Int) ≤ (i : Int) := by omega
  have c9 := h.c9
  have ct := h.ct
  have hb4 := block_lt_of_cell c9
  have hb5 := block_lt_of_cell ct
  have hg := block_lt_of_cell cx
  clear h hi
  obtain ⟨x, hu⟩ := jobTy
  have HU := Lib.hid hu
  clear hu
  go_enter Tryd.func72, Tryd.ntmps72
  go_upto_region 1 with fail
  refine Reg.wp_region_text (by kernel_rfl) (by kernel_rfl) ?_
  go_wp2_with fail
  refine ⟨by kernel_rfl, ?_⟩
  go_wp2_with fail
  refine bodyPost_ret (results_cell_row (p := 4) (ty := 67) rfl _ _ w.heap.size 67 #[.string ⟨#[]⟩, .bool false, .int .i64 k, .int .i64 t] (0, 0) _ rfl ?_ HU.out rfl (by kernel_rfl)) rfl ⟨rfl, ?_⟩
  · exact heap_alloc_new w (.cells #[.string ⟨#[]⟩, .bool false, .int .i64 k, .int .i64 t] 67)
  · exact ((Ch.refl _ _).alloc _).drew
theorem PS.drop {A : Nat → Prop} {w0 w : World} {p : Nat} {nd fu out : Value} {R : List Part} {r : Res} {rest : List Res} (h : PS A w0 w p nd fu out R (r :: rest)) : PS A w0 w p nd fu out R rest := by
  obtain ⟨todo, h⟩ := h
  exact ⟨todo, h.sub (((List.sublist_cons_self _ _).cons_cons _).cons_cons _)⟩
/-- Jobs out of a literal are put on the list. -/
theorem put_lit {A : Nat → Prop} {w0 : World} (w : World) (p : Nat) (nd fu todo out : Value) (R : List Part) (rest : List Res) (L : List Part) (cs : List Value) (hcs : cs = partsC L) (m : Nat) (hm : L.length = m)
    (H : Hs A w0 w (.blk p 64 [nd, fu, todo, out] :: .row 67 4 todo R.length (partsC R) :: rest)) (hb : R.length + 6 ≤ 1000000000) (hm6 : m ≤ 6) :
    Calls Tryd.prog 31 #[.pointer (some ⟨p, 0, none⟩), .slice (some ⟨w.heap.size, 0, none⟩) m m] (w.alloc (.cells cs.toArray 67)) fun e w' => e = .returned (.tuple #[]) ∧ PS A w0 w' p nd fu out (R ++ L.reverse) rest := by
  subst hcs hm
  refine put_c _ p nd fu todo out _ R L rest ?_ (by omega)
  exact (H.alloc (partsC L) 67).asRow 0 rfl 4 L.length (partsC_len L) (by unfold maxLen; omega)
set_option maxRecDepth 100000 in
set_option maxHeartbeats 16000000 in
theorem stmt_4_0 {A : Nat → Prop} {w0 : World} (w : World) (p : Nat) (nd fu todo out : Value) (R : List Part) (rest : List Res) (a1 a2 a3 a4 a5 a6 a7 : Int) (nm : ByteArray) (kv : Value) (t : Nat)
    (H : Hs A w0 w (.blk p 64 [nd, fu, todo, out] :: .row 67 4 todo R.length (partsC R) :: rest)) (hr : RdS w kv 0 (ints [])) (hb : R.length + 6 ≤ 1000000000) (hnm : nm.size ≤ 64) :
    Calls Tryd.prog 48 #[.pointer (some ⟨p, 0, none⟩), ndV (⟨4, a1, a2, a3, a4, a5, a6, a7, nm, []⟩ : Nd) kv, .int .i64 (t : Int)] w fun e w' => e = .returned (.tuple #[]) ∧ PS A w0 w' p nd fu out (R ++ (Tm.statement (⟨4, a1, a2, a3, a4, a5, a6, a7, nm, []⟩ : Nd) t).reverse) rest := by
  obtain ⟨ak, ck, rfl, _, _⟩ : ∃ ak ck, kv = .slice ak 0 ck ∧ 0 ≤ ck ∧ True := by obtain ⟨a, c, h1, h2, _⟩ := hr; exact ⟨a, c, h1, h2, trivial⟩
  have h0 : Fr w ((w.alloc (.cells #[.int .i64 4, .int .i64 a1, .int .i64 a2, .int .i64 a3, .int .i64 a4, .int .i64 a5, .int .i64 a6, .int .i64 a7, .string nm, .slice ak 0 ck] 45)).alloc (.cells #[.int .i64 (t : Int)] 3)) := ((Ch.refl _ _).alloc _).alloc _
  have HA : Hid (At _ w.heap.size (w.heap.size + 1) (.slice ak 0 ck) [] (t : Int)) :=
    Lib.hid ⟨((Blk.new w 45 [.int .i64 4, .int .i64 a1, .int .i64 a2, .int .i64 a3, .int .i64 a4, .int .i64 a5, .int .i64 a6, .int .i64 a7, .string nm, .slice ak 0 ck]).ch ((Ch.refl (fun _ => False) _).alloc (.cells #[.int .i64 (t : Int)] 3)) id).cell 9,
      (by have := (Blk.new (w.alloc (.cells #[.int .i64 4, .int .i64 a1, .int .i64 a2, .int .i64 a3, .int .i64 a4, .int .i64 a5, .int .i64 a6, .int .i64 a7, .string nm, .slice ak 0 ck] 45)) 3 [.int .i64 (t : Int)]).cell 0; rw [size_alloc'] at this; exact this), hr.fr h0⟩
  have H1 := Lib.hid ((H.alloc [.int .i64 4, .int .i64 a1, .int .i64 a2, .int .i64 a3, .int .i64 a4, .int .i64 a5, .int .i64 a6, .int .i64 a7, .string nm, .slice ak 0 ck] 45).alloc' (.cells #[.int .i64 (t : Int)] 3))
  have x8 := (((Blk.new w 45 [.int .i64 4, .int .i64 a1, .int .i64 a2, .int .i64 a3, .int .i64 a4, .int .i64 a5, .int .i64 a6, .int .i64 a7, .string nm, .slice ak 0 ck]).ch ((Ch.refl (fun _ => False) _).alloc (.cells #[.int .i64 (t : Int)] 3)) id).ch (Ch.refl (fun _ => False) _).drew id).cell 8
  have x4 := (((Blk.new w 45 [.int .i64 4, .int .i64 a1, .int .i64 a2, .int .i64 a3, .int .i64 a4, .int .i64 a5, .int .i64 a6, .int .i64 a7, .string nm, .slice ak 0 ck]).ch ((Ch.refl (fun _ => False) _).alloc (.cells #[.int .i64 (t : Int)] 3)) id).ch (Ch.refl (fun _ => False) _).drew id).cell 4
  clear H hr h0
  have hty := tyName_size a4
  have s0 : ∀ w, (Op.stringOp .add ⟨#[118, 97, 114, 32]⟩ nm).run Tryd.prog w = .ok (.string (⟨#[118, 97, 114, 32]⟩ ++ nm)) w := cat_run _ _ (by simp only [bsize, List.size_toArray, List.length_cons, List.length_nil]; omega)
  have s1 : ∀ w, (Op.stringOp .add (⟨#[118, 97, 114, 32]⟩ ++ nm) ⟨#[32]⟩).run Tryd.prog w = .ok (.string ((⟨#[118, 97, 114, 32]⟩ ++ nm) ++ ⟨#[32]⟩)) w := cat_run _ _ (by simp only [ByteArray.size_append, bsize, List.size_toArray, List.length_cons, List.length_nil]; omega)
  have s2 : ∀ w, (Op.stringOp .add (⟨#[118, 97, 114, 32]⟩ ++ nm ++ ⟨#[32]⟩) (ba (Tm.typeName a4))).run Tryd.prog w = .ok (.string ((⟨#[118, 97, 114, 32]⟩ ++ nm ++ ⟨#[32]⟩) ++ (ba (Tm.typeName a4)))) w := cat_run _ _ (by simp only [ByteArray.size_append, bsize, List.size_toArray, List.length_cons, List.length_nil]; omega)
  have s3 : ∀ w, (Op.stringOp .add (⟨#[118, 97, 114, 32]⟩ ++ nm ++ ⟨#[32]⟩ ++ ba (Tm.typeName a4)) ⟨#[59]⟩).run Tryd.prog w = .ok (.string ((⟨#[118, 97, 114, 32]⟩ ++ nm ++ ⟨#[32]⟩ ++ ba (Tm.typeName a4)) ++ ⟨#[59]⟩)) w := cat_run _ _ (by simp only [ByteArray.size_append, bsize, List.size_toArray, List.length_cons, List.length_nil]; omega)
  unfold ndV
  dsimp only
  go_enter Tryd.func48, Tryd.ntmps48
  go_upto_region 5 with fail
  replace HA := Lib.hid (HA.out.fr (Ch.refl _ _).drew)
  replace H1 := Lib.hid (show Hs A w0 _ (.blk p 64 [nd, fu, todo, out] :: .row 67 4 todo R.length (partsC R) :: .blk w.heap.size 45 [.int .i64 4, .int .i64 a1, .int .i64 a2, .int .i64 a3, .int .i64 a4, .int .i64 a5, .int .i64 a6, .int .i64 a7, .string nm, .slice ak 0 ck] :: rest) from (H1.out.drew.mid (l := [.blk p 64 [nd, fu, todo, out], .row 67 4 todo R.length (partsC R)])))
  have es : ba ([118, 97, 114, 32] ++ Tm.nm (⟨4, a1, a2, a3, a4, a5, a6, a7, nm, []⟩ : Nd) ++ [32] ++ Tm.typeName a4 ++ [59]) = ⟨#[118, 97, 114, 32]⟩ ++ nm ++ ⟨#[32]⟩ ++ ba (Tm.typeName a4) ++ ba [59] := by rw [ba_app, ba_app, ba_app, ba_app, ba_nm]; rfl
  have Es := Lib.hid es
  clear es
  go_region_held3 (fun w' => w'.cell? ⟨w.heap.size, 8, none⟩ = some (.string nm) ∧ w'.cell? ⟨w.heap.size, 4, none⟩ = some (.int .i64 a4)) (go_keep) (first | (go_at_call 70; refine (typeName_c _ _).mono ?_; rintro e w' ⟨rfl, rfl⟩) | (go_at_call 69; refine (say_c _ _).mono ?_; rintro e w' ⟨rfl, hf⟩; replace HA := Lib.hid (HA.out.fr hf); replace H1 := Lib.hid (H1.out.ch0 hf); replace x8 := fr_cell hf x8; replace x4 := fr_cell hf x4; clear hf) | (go_at_call 72; refine (at_c HA.out _ rfl).mono ?_; rintro e w' ⟨rfl, hf⟩; replace HA := Lib.hid (HA.out.fr hf); replace H1 := Lib.hid (H1.out.ch0 hf); replace x8 := fr_cell hf x8; replace x4 := fr_cell hf x4; clear hf) | (go_at_call 31; refine (put_lit _ p nd fu todo out R _ (Tm.statement (⟨4, a1, a2, a3, a4, a5, a6, a7, nm, []⟩ : Nd) t) _ (by rw [show partsC (Tm.statement (⟨4, a1, a2, a3, a4, a5, a6, a7, nm, []⟩ : Nd) t) = [.string (ba ([118, 97, 114, 32] ++ Tm.nm (⟨4, a1, a2, a3, a4, a5, a6, a7, nm, []⟩ : Nd) ++ [32] ++ Tm.typeName a4 ++ [59])), .bool false, .int .i64 0, .int .i64 0] from rfl, Es.out]; rfl) 1 rfl H1.out hb (by decide)).mono ?_; rintro e w2 ⟨rfl, hp⟩; have HP := Lib.hid hp; clear hp; obtain ⟨td2, hq⟩ := HP.out; replace x8 := hq.cell 2 rfl 8 rfl; replace x4 := hq.cell 2 rfl 4 rfl; clear hq))
  go_wp2_with fail
  first | go_end0 | refine bodyPost_ret (results_none rfl _ _ _) rfl ?_
  exact ⟨rfl, HP.out.drop⟩
set_option maxRecDepth 100000 in
set_option maxHeartbeats 16000000 in
theorem stmt_4_1 {A : Nat → Prop} {w0 : World} (w : World) (p : Nat) (nd fu todo out : Value) (R : List Part) (rest : List Res) (a1 a2 a3 a4 a5 a6 a7 : Int) (nm : ByteArray) (k0 : Int) (kv : Value) (t : Nat)
    (H : Hs A w0 w (.blk p 64 [nd, fu, todo, out] :: .row 67 4 todo R.length (partsC R) :: rest)) (hr : RdS w kv 1 (ints [k0])) (hb : R.length + 6 ≤ 1000000000) (hnm : nm.size ≤ 64) :
    Calls Tryd.prog 48 #[.pointer (some ⟨p, 0, none⟩), ndV (⟨4, a1, a2, a3, a4, a5, a6, a7, nm, [k0]⟩ : Nd) kv, .int .i64 (t : Int)] w fun e w' => e = .returned (.tuple #[]) ∧ PS A w0 w' p nd fu out (R ++ (Tm.statement (⟨4, a1, a2, a3, a4, a5, a6, a7, nm, [k0]⟩ : Nd) t).reverse) rest := by
  obtain ⟨ak, ck, rfl, _, _⟩ : ∃ ak ck, kv = .slice ak 1 ck ∧ 1 ≤ ck ∧ True := by obtain ⟨a, c, h1, h2, _⟩ := hr; exact ⟨a, c, h1, h2, trivial⟩
  have h0 : Fr w ((w.alloc (.cells #[.int .i64 4, .int .i64 a1, .int .i64 a2, .int .i64 a3, .int .i64 a4, .int .i64 a5, .int .i64 a6, .int .i64 a7, .string nm, .slice ak 1 ck] 45)).alloc (.cells #[.int .i64 (t : Int)] 3)) := ((Ch.refl _ _).alloc _).alloc _
  have HA : Hid (At _ w.heap.size (w.heap.size + 1) (.slice ak 1 ck) [k0] (t : Int)) :=
    Lib.hid ⟨((Blk.new w 45 [.int .i64 4, .int .i64 a1, .int .i64 a2, .int .i64 a3, .int .i64 a4, .int .i64 a5, .int .i64 a6, .int .i64 a7, .string nm, .slice ak 1 ck]).ch ((Ch.refl (fun _ => False) _).alloc (.cells #[.int .i64 (t : Int)] 3)) id).cell 9,
      (by have := (Blk.new (w.alloc (.cells #[.int .i64 4, .int .i64 a1, .int .i64 a2, .int .i64 a3, .int .i64 a4, .int .i64 a5, .int .i64 a6, .int .i64 a7, .string nm, .slice ak 1 ck] 45)) 3 [.int .i64 (t : Int)]).cell 0; rw [size_alloc'] at this; exact this), hr.fr h0⟩
  have H1 := Lib.hid ((H.alloc [.int .i64 4, .int .i64 a1, .int .i64 a2, .int .i64 a3, .int .i64 a4, .int .i64 a5, .int .i64 a6, .int .i64 a7, .string nm, .slice ak 1 ck] 45).alloc' (.cells #[.int .i64 (t : Int)] 3))
  have x8 := (((Blk.new w 45 [.int .i64 4, .int .i64 a1, .int .i64 a2, .int .i64 a3, .int .i64 a4, .int .i64 a5, .int .i64 a6, .int .i64 a7, .string nm, .slice ak 1 ck]).ch ((Ch.refl (fun _ => False) _).alloc (.cells #[.int .i64 (t : Int)] 3)) id).ch (Ch.refl (fun _ => False) _).drew id).cell 8
  have x4 := (((Blk.new w 45 [.int .i64 4, .int .i64 a1, .int .i64 a2, .int .i64 a3, .int .i64 a4, .int .i64 a5, .int .i64 a6, .int .i64 a7, .string nm, .slice ak 1 ck]).ch ((Ch.refl (fun _ => False) _).alloc (.cells #[.int .i64 (t : Int)] 3)) id).ch (Ch.refl (fun _ => False) _).drew id).cell 4
  clear H hr h0
  have hty := tyName_size a4
  have s0 : ∀ w, (Op.stringOp .add ⟨#[118, 97, 114, 32]⟩ nm).run Tryd.prog w = .ok (.string (⟨#[118, 97, 114, 32]⟩ ++ nm)) w := cat_run _ _ (by simp only [bsize, List.size_toArray, List.length_cons, List.length_nil]; omega)
  have s1 : ∀ w, (Op.stringOp .add (⟨#[118, 97, 114, 32]⟩ ++ nm) ⟨#[32]⟩).run Tryd.prog w = .ok (.string ((⟨#[118, 97, 114, 32]⟩ ++ nm) ++ ⟨#[32]⟩)) w := cat_run _ _ (by simp only [ByteArray.size_append, bsize, List.size_toArray, List.length_cons, List.length_nil]; omega)
  have s2 : ∀ w, (Op.stringOp .add (⟨#[118, 97, 114, 32]⟩ ++ nm ++ ⟨#[32]⟩) (ba (Tm.typeName a4))).run Tryd.prog w = .ok (.string ((⟨#[118, 97, 114, 32]⟩ ++ nm ++ ⟨#[32]⟩) ++ (ba (Tm.typeName a4)))) w := cat_run _ _ (by simp only [ByteArray.size_append, bsize, List.size_toArray, List.length_cons, List.length_nil]; omega)
  have s3 : ∀ w, (Op.stringOp .add (⟨#[118, 97, 114, 32]⟩ ++ nm ++ ⟨#[32]⟩ ++ ba (Tm.typeName a4)) ⟨#[32, 61, 32]⟩).run Tryd.prog w = .ok (.string ((⟨#[118, 97, 114, 32]⟩ ++ nm ++ ⟨#[32]⟩ ++ ba (Tm.typeName a4)) ++ ⟨#[32, 61, 32]⟩)) w := cat_run _ _ (by simp only [ByteArray.size_append, bsize, List.size_toArray, List.length_cons, List.length_nil]; omega)
  unfold ndV
  dsimp only
  go_enter Tryd.func48, Tryd.ntmps48
  go_upto_region 6 with fail
  replace HA := Lib.hid (HA.out.fr (Ch.refl _ _).drew)
  replace H1 := Lib.hid (show Hs A w0 _ (.blk p 64 [nd, fu, todo, out] :: .row 67 4 todo R.length (partsC R) :: .blk w.heap.size 45 [.int .i64 4, .int .i64 a1, .int .i64 a2, .int .i64 a3, .int .i64 a4, .int .i64 a5, .int .i64 a6, .int .i64 a7, .string nm, .slice ak 1 ck] :: rest) from (H1.out.drew.mid (l := [.blk p 64 [nd, fu, todo, out], .row 67 4 todo R.length (partsC R)])))
  have es : ba ([118, 97, 114, 32] ++ Tm.nm (⟨4, a1, a2, a3, a4, a5, a6, a7, nm, [k0]⟩ : Nd) ++ [32] ++ Tm.typeName a4 ++ [32, 61, 32]) = ⟨#[118, 97, 114, 32]⟩ ++ nm ++ ⟨#[32]⟩ ++ ba (Tm.typeName a4) ++ ba [32, 61, 32] := by rw [ba_app, ba_app, ba_app, ba_app, ba_nm]; rfl
  have Es := Lib.hid es
  clear es
  go_region_held3 (fun w' => w'.cell? ⟨w.heap.size, 8, none⟩ = some (.string nm) ∧ w'.cell? ⟨w.heap.size, 4, none⟩ = some (.int .i64 a4)) (go_keep) (first | (go_at_call 70; refine (typeName_c _ _).mono ?_; rintro e w' ⟨rfl, rfl⟩) | (go_at_call 69; refine (say_c _ _).mono ?_; rintro e w' ⟨rfl, hf⟩; replace HA := Lib.hid (HA.out.fr hf); replace H1 := Lib.hid (H1.out.ch0 hf); replace x8 := fr_cell hf x8; replace x4 := fr_cell hf x4; clear hf) | (go_at_call 72; refine (at_c HA.out _ rfl).mono ?_; rintro e w' ⟨rfl, hf⟩; replace HA := Lib.hid (HA.out.fr hf); replace H1 := Lib.hid (H1.out.ch0 hf); replace x8 := fr_cell hf x8; replace x4 := fr_cell hf x4; clear hf) | (go_at_call 31; refine (put_lit _ p nd fu todo out R _ (Tm.statement (⟨4, a1, a2, a3, a4, a5, a6, a7, nm, [k0]⟩ : Nd) t) _ (by rw [show partsC (Tm.statement (⟨4, a1, a2, a3, a4, a5, a6, a7, nm, [k0]⟩ : Nd) t) = [.string (ba ([118, 97, 114, 32] ++ Tm.nm (⟨4, a1, a2, a3, a4, a5, a6, a7, nm, [k0]⟩ : Nd) ++ [32] ++ Tm.typeName a4 ++ [32, 61, 32])), .bool false, .int .i64 0, .int .i64 0, .string ⟨#[]⟩, .bool false, .int .i64 k0, .int .i64 (t : Int), .string (ba [59]), .bool false, .int .i64 0, .int .i64 0] from rfl, Es.out]; rfl) 3 rfl H1.out hb (by decide)).mono ?_; rintro e w2 ⟨rfl, hp⟩; have HP := Lib.hid hp; clear hp; obtain ⟨td2, hq⟩ := HP.out; replace x8 := hq.cell 2 rfl 8 rfl; replace x4 := hq.cell 2 rfl 4 rfl; clear hq))
  go_wp2_with fail
  first | go_end0 | refine bodyPost_ret (results_none rfl _ _ _) rfl ?_
  exact ⟨rfl, HP.out.drop⟩
set_option maxRecDepth 100000 in
set_option maxHeartbeats 16000000 in
theorem stmt_5_1 {A : Nat → Prop} {w0 : World} (w : World) (p : Nat) (nd fu todo out : Value) (R : List Part) (rest : List Res) (a1 a2 a3 a4 a5 a6 a7 : Int) (nm : ByteArray) (k0 : Int) (kv : Value) (t : Nat)
    (H : Hs A w0 w (.blk p 64 [nd, fu, todo, out] :: .row 67 4 todo R.length (partsC R) :: rest)) (hr : RdS w kv 1 (ints [k0])) (hb : R.length + 6 ≤ 1000000000) (hnm : nm.size ≤ 64) :
    Calls Tryd.prog 48 #[.pointer (some ⟨p, 0, none⟩), ndV (⟨5, a1, a2, a3, a4, a5, a6, a7, nm, [k0]⟩ : Nd) kv, .int .i64 (t : Int)] w fun e w' => e = .returned (.tuple #[]) ∧ PS A w0 w' p nd fu out (R ++ (Tm.statement (⟨5, a1, a2, a3, a4, a5, a6, a7, nm, [k0]⟩ : Nd) t).reverse) rest := by
  obtain ⟨ak, ck, rfl, _, _⟩ : ∃ ak ck, kv = .slice ak 1 ck ∧ 1 ≤ ck ∧ True := by obtain ⟨a, c, h1, h2, _⟩ := hr; exact ⟨a, c, h1, h2, trivial⟩
  have h0 : Fr w ((w.alloc (.cells #[.int .i64 5, .int .i64 a1, .int .i64 a2, .int .i64 a3, .int .i64 a4, .int .i64 a5, .int .i64 a6, .int .i64 a7, .string nm, .slice ak 1 ck] 45)).alloc (.cells #[.int .i64 (t : Int)] 3)) := ((Ch.refl _ _).alloc _).alloc _
  have HA : Hid (At _ w.heap.size (w.heap.size + 1) (.slice ak 1 ck) [k0] (t : Int)) :=
    Lib.hid ⟨((Blk.new w 45 [.int .i64 5, .int .i64 a1, .int .i64 a2, .int .i64 a3, .int .i64 a4, .int .i64 a5, .int .i64 a6, .int .i64 a7, .string nm, .slice ak 1 ck]).ch ((Ch.refl (fun _ => False) _).alloc (.cells #[.int .i64 (t : Int)] 3)) id).cell 9,
      (by have := (Blk.new (w.alloc (.cells #[.int .i64 5, .int .i64 a1, .int .i64 a2, .int .i64 a3, .int .i64 a4, .int .i64 a5, .int .i64 a6, .int .i64 a7, .string nm, .slice ak 1 ck] 45)) 3 [.int .i64 (t : Int)]).cell 0; rw [size_alloc'] at this; exact this), hr.fr h0⟩
  have H1 := Lib.hid (H.ch0 h0)
  clear H hr h0
  have s0 : ∀ w, (Op.stringOp .add nm ⟨#[32, 61, 32]⟩).run Tryd.prog w = .ok (.string (nm ++ ⟨#[32, 61, 32]⟩)) w := cat_run _ _ (by simp only [bsize, List.size_toArray, List.length_cons, List.length_nil]; omega)
  unfold ndV
  dsimp only
  go_enter Tryd.func48, Tryd.ntmps48
  go_wp2_with (first
    | (go_at_call 69; refine (say_c _ _).mono ?_; rintro e w' ⟨rfl, hf⟩; replace HA := Lib.hid (HA.out.fr hf); replace H1 := Lib.hid (H1.out.ch0 hf); clear hf)
    | (go_at_call 72; refine (at_c HA.out _ rfl).mono ?_; rintro e w' ⟨rfl, hf⟩; replace HA := Lib.hid (HA.out.fr hf); replace H1 := Lib.hid (H1.out.ch0 hf); clear hf))
  refine (put_lit _ p nd fu todo out R rest (Tm.statement (⟨5, a1, a2, a3, a4, a5, a6, a7, nm, [k0]⟩ : Nd) t) _ (by simp only [Tm.statement]; simp [partsC, Part.C, Part.tx, Part.isL, Part.num, Part.tabs, ba_app, ba_nm]; repeat' (first | rfl | apply And.intro)) 3 rfl H1.out hb (by decide)).mono ?_
  rintro e w2 ⟨rfl, hp⟩
  have HP := Lib.hid hp
  clear hp
  go_wp2_with fail
  first | go_end0 | refine bodyPost_ret (results_none rfl _ _ _) rfl ?_
  exact ⟨rfl, HP.out⟩
set_option maxRecDepth 100000 in
set_option maxHeartbeats 16000000 in
theorem stmt_6_2 {A : Nat → Prop} {w0 : World} (w : World) (p : Nat) (nd fu todo out : Value) (R : List Part) (rest : List Res) (a1 a2 a3 a4 a5 a6 a7 : Int) (nm : ByteArray) (k0 k1 : Int) (kv : Value) (t : Nat)
    (H : Hs A w0 w (.blk p 64 [nd, fu, todo, out] :: .row 67 4 todo R.length (partsC R) :: rest)) (hr : RdS w kv 2 (ints [k0, k1])) (hb : R.length + 6 ≤ 1000000000) (hnm : nm.size ≤ 64) :
    Calls Tryd.prog 48 #[.pointer (some ⟨p, 0, none⟩), ndV (⟨6, a1, a2, a3, a4, a5, a6, a7, nm, [k0, k1]⟩ : Nd) kv, .int .i64 (t : Int)] w fun e w' => e = .returned (.tuple #[]) ∧ PS A w0 w' p nd fu out (R ++ (Tm.statement (⟨6, a1, a2, a3, a4, a5, a6, a7, nm, [k0, k1]⟩ : Nd) t).reverse) rest := by
  obtain ⟨ak, ck, rfl, _, _⟩ : ∃ ak ck, kv = .slice ak 2 ck ∧ 2 ≤ ck ∧ True := by obtain ⟨a, c, h1, h2, _⟩ := hr; exact ⟨a, c, h1, h2, trivial⟩
  have h0 : Fr w ((w.alloc (.cells #[.int .i64 6, .int .i64 a1, .int .i64 a2, .int .i64 a3, .int .i64 a4, .int .i64 a5, .int .i64 a6, .int .i64 a7, .string nm, .slice ak 2 ck] 45)).alloc (.cells #[.int .i64 (t : Int)] 3)) := ((Ch.refl _ _).alloc _).alloc _
  have HA : Hid (At _ w.heap.size (w.heap.size + 1) (.slice ak 2 ck) [k0, k1] (t : Int)) :=
    Lib.hid ⟨((Blk.new w 45 [.int .i64 6, .int .i64 a1, .int .i64 a2, .int .i64 a3, .int .i64 a4, .int .i64 a5, .int .i64 a6, .int .i64 a7, .string nm, .slice ak 2 ck]).ch ((Ch.refl (fun _ => False) _).alloc (.cells #[.int .i64 (t : Int)] 3)) id).cell 9,
      (by have := (Blk.new (w.alloc (.cells #[.int .i64 6, .int .i64 a1, .int .i64 a2, .int .i64 a3, .int .i64 a4, .int .i64 a5, .int .i64 a6, .int .i64 a7, .string nm, .slice ak 2 ck] 45)) 3 [.int .i64 (t : Int)]).cell 0; rw [size_alloc'] at this; exact this), hr.fr h0⟩
  have H1 := Lib.hid (H.ch0 h0)
  clear H hr h0
  have s0 : ∀ w, (Op.stringOp .add nm ⟨#[91]⟩).run Tryd.prog w = .ok (.string (nm ++ ⟨#[91]⟩)) w := cat_run _ _ (by simp only [bsize, List.size_toArray, List.length_cons, List.length_nil]; omega)
  unfold ndV
  dsimp only
  go_enter Tryd.func48, Tryd.ntmps48
  go_wp2_with (first
    | (go_at_call 69; refine (say_c _ _).mono ?_; rintro e w' ⟨rfl, hf⟩; replace HA := Lib.hid (HA.out.fr hf); replace H1 := Lib.hid (H1.out.ch0 hf); clear hf)
    | (go_at_call 72; refine (at_c HA.out _ rfl).mono ?_; rintro e w' ⟨rfl, hf⟩; replace HA := Lib.hid (HA.out.fr hf); replace H1 := Lib.hid (H1.out.ch0 hf); clear hf))
  refine (put_lit _ p nd fu todo out R rest (Tm.statement (⟨6, a1, a2, a3, a4, a5, a6, a7, nm, [k0, k1]⟩ : Nd) t) _ (by simp only [Tm.statement]; simp [partsC, Part.C, Part.tx, Part.isL, Part.num, Part.tabs, ba_app, ba_nm]; repeat' (first | rfl | apply And.intro)) 5 rfl H1.out hb (by decide)).mono ?_
  rintro e w2 ⟨rfl, hp⟩
  have HP := Lib.hid hp
  clear hp
  go_wp2_with fail
  first | go_end0 | refine bodyPost_ret (results_none rfl _ _ _) rfl ?_
  exact ⟨rfl, HP.out⟩
set_option maxRecDepth 100000 in
set_option maxHeartbeats 16000000 in
theorem stmt_7_1 {A : Nat → Prop} {w0 : World} (w : World) (p : Nat) (nd fu todo out : Value) (R : List Part) (rest : List Res) (a1 a2 a3 a4 a5 a6 a7 : Int) (nm : ByteArray) (k0 : Int) (kv : Value) (t : Nat)
    (H : Hs A w0 w (.blk p 64 [nd, fu, todo, out] :: .row 67 4 todo R.length (partsC R) :: rest)) (hr : RdS w kv 1 (ints [k0])) (hb : R.length + 6 ≤ 1000000000) :
    Calls Tryd.prog 48 #[.pointer (some ⟨p, 0, none⟩), ndV (⟨7, a1, a2, a3, a4, a5, a6, a7, nm, [k0]⟩ : Nd) kv, .int .i64 (t : Int)] w fun e w' => e = .returned (.tuple #[]) ∧ PS A w0 w' p nd fu out (R ++ (Tm.statement (⟨7, a1, a2, a3, a4, a5, a6, a7, nm, [k0]⟩ : Nd) t).reverse) rest := by
  obtain ⟨ak, ck, rfl, _, _⟩ : ∃ ak ck, kv = .slice ak 1 ck ∧ 1 ≤ ck ∧ True := by obtain ⟨a, c, h1, h2, _⟩ := hr; exact ⟨a, c, h1, h2, trivial⟩
  have h0 : Fr w ((w.alloc (.cells #[.int .i64 7, .int .i64 a1, .int .i64 a2, .int .i64 a3, .int .i64 a4, .int .i64 a5, .int .i64 a6, .int .i64 a7, .string nm, .slice ak 1 ck] 45)).alloc (.cells #[.int .i64 (t : Int)] 3)) := ((Ch.refl _ _).alloc _).alloc _
  have HA : Hid (At _ w.heap.size (w.heap.size + 1) (.slice ak 1 ck) [k0] (t : Int)) :=
    Lib.hid ⟨((Blk.new w 45 [.int .i64 7, .int .i64 a1, .int .i64 a2, .int .i64 a3, .int .i64 a4, .int .i64 a5, .int .i64 a6, .int .i64 a7, .string nm, .slice ak 1 ck]).ch ((Ch.refl (fun _ => False) _).alloc (.cells #[.int .i64 (t : Int)] 3)) id).cell 9,
      (by have := (Blk.new (w.alloc (.cells #[.int .i64 7, .int .i64 a1, .int .i64 a2, .int .i64 a3, .int .i64 a4, .int .i64 a5, .int .i64 a6, .int .i64 a7, .string nm, .slice ak 1 ck] 45)) 3 [.int .i64 (t : Int)]).cell 0; rw [size_alloc'] at this; exact this), hr.fr h0⟩
  have H1 := Lib.hid (H.ch0 h0)
  clear H hr h0
  unfold ndV
  dsimp only
  go_enter Tryd.func48, Tryd.ntmps48
  go_wp2_with (first
    | (go_at_call 69; refine (say_c _ _).mono ?_; rintro e w' ⟨rfl, hf⟩; replace HA := Lib.hid (HA.out.fr hf); replace H1 := Lib.hid (H1.out.ch0 hf); clear hf)
    | (go_at_call 72; refine (at_c HA.out _ rfl).mono ?_; rintro e w' ⟨rfl, hf⟩; replace HA := Lib.hid (HA.out.fr hf); replace H1 := Lib.hid (H1.out.ch0 hf); clear hf))
  refine (put_lit _ p nd fu todo out R rest (Tm.statement (⟨7, a1, a2, a3, a4, a5, a6, a7, nm, [k0]⟩ : Nd) t) _ rfl 2 rfl H1.out hb (by decide)).mono ?_
  rintro e w2 ⟨rfl, hp⟩
  have HP := Lib.hid hp
  clear hp
  go_wp2_with fail
  first | go_end0 | refine bodyPost_ret (results_none rfl _ _ _) rfl ?_
  exact ⟨rfl, HP.out⟩
set_option maxRecDepth 100000 in
set_option maxHeartbeats 16000000 in
theorem stmt_8_1 {A : Nat → Prop} {w0 : World} (w : World) (p : Nat) (nd fu todo out : Value) (R : List Part) (rest : List Res) (a1 a2 a3 a4 a5 a6 a7 : Int) (nm : ByteArray) (k0 : Int) (kv : Value) (t : Nat)
    (H : Hs A w0 w (.blk p 64 [nd, fu, todo, out] :: .row 67 4 todo R.length (partsC R) :: rest)) (hr : RdS w kv 1 (ints [k0])) (hb : R.length + 6 ≤ 1000000000) :
    Calls Tryd.prog 48 #[.pointer (some ⟨p, 0, none⟩), ndV (⟨8, a1, a2, a3, a4, a5, a6, a7, nm, [k0]⟩ : Nd) kv, .int .i64 (t : Int)] w fun e w' => e = .returned (.tuple #[]) ∧ PS A w0 w' p nd fu out (R ++ (Tm.statement (⟨8, a1, a2, a3, a4, a5, a6, a7, nm, [k0]⟩ : Nd) t).reverse) rest := by
  obtain ⟨ak, ck, rfl, _, _⟩ : ∃ ak ck, kv = .slice ak 1 ck ∧ 1 ≤ ck ∧ True := by obtain ⟨a, c, h1, h2, _⟩ := hr; exact ⟨a, c, h1, h2, trivial⟩
  have h0 : Fr w ((w.alloc (.cells #[.int .i64 8, .int .i64 a1, .int .i64 a2, .int .i64 a3, .int .i64 a4, .int .i64 a5, .int .i64 a6, .int .i64 a7, .string nm, .slice ak 1 ck] 45)).alloc (.cells #[.int .i64 (t : Int)] 3)) := ((Ch.refl _ _).alloc _).alloc _
  have HA : Hid (At _ w.heap.size (w.heap.size + 1) (.slice ak 1 ck) [k0] (t : Int)) :=
    Lib.hid ⟨((Blk.new w 45 [.int .i64 8, .int .i64 a1, .int .i64 a2, .int .i64 a3, .int .i64 a4, .int .i64 a5, .int .i64 a6, .int .i64 a7, .string nm, .slice ak 1 ck]).ch ((Ch.refl (fun _ => False) _).alloc (.cells #[.int .i64 (t : Int)] 3)) id).cell 9,
      (by have := (Blk.new (w.alloc (.cells #[.int .i64 8, .int .i64 a1, .int .i64 a2, .int .i64 a3, .int .i64 a4, .int .i64 a5, .int .i64 a6, .int .i64 a7, .string nm, .slice ak 1 ck] 45)) 3 [.int .i64 (t : Int)]).cell 0; rw [size_alloc'] at this; exact this), hr.fr h0⟩
  have H1 := Lib.hid (H.ch0 h0)
  clear H hr h0
  unfold ndV
  dsimp only
  go_enter Tryd.func48, Tryd.ntmps48
  go_wp2_with (first
    | (go_at_call 69; refine (say_c _ _).mono ?_; rintro e w' ⟨rfl, hf⟩; replace HA := Lib.hid (HA.out.fr hf); replace H1 := Lib.hid (H1.out.ch0 hf); clear hf)
    | (go_at_call 72; refine (at_c HA.out _ rfl).mono ?_; rintro e w' ⟨rfl, hf⟩; replace HA := Lib.hid (HA.out.fr hf); replace H1 := Lib.hid (H1.out.ch0 hf); clear hf))
  refine (put_lit _ p nd fu todo out R rest (Tm.statement (⟨8, a1, a2, a3, a4, a5, a6, a7, nm, [k0]⟩ : Nd) t) _ rfl 3 rfl H1.out hb (by decide)).mono ?_
  rintro e w2 ⟨rfl, hp⟩
  have HP := Lib.hid hp
  clear hp
  go_wp2_with fail
  first | go_end0 | refine bodyPost_ret (results_none rfl _ _ _) rfl ?_
  exact ⟨rfl, HP.out⟩
set_option maxRecDepth 100000 in
set_option maxHeartbeats 16000000 in
theorem stmt_9_1 {A : Nat → Prop} {w0 : World} (w : World) (p : Nat) (nd fu todo out : Value) (R : List Part) (rest : List Res) (a1 a2 a3 a4 a5 a6 a7 : Int) (nm : ByteArray) (k0 : Int) (kv : Value) (t : Nat)
    (H : Hs A w0 w (.blk p 64 [nd, fu, todo, out] :: .row 67 4 todo R.length (partsC R) :: rest)) (hr : RdS w kv 1 (ints [k0])) (hb : R.length + 6 ≤ 1000000000) :
    Calls Tryd.prog 48 #[.pointer (some ⟨p, 0, none⟩), ndV (⟨9, a1, a2, a3, a4, a5, a6, a7, nm, [k0]⟩ : Nd) kv, .int .i64 (t : Int)] w fun e w' => e = .returned (.tuple #[]) ∧ PS A w0 w' p nd fu out (R ++ (Tm.statement (⟨9, a1, a2, a3, a4, a5, a6, a7, nm, [k0]⟩ : Nd) t).reverse) rest := by
  obtain ⟨ak, ck, rfl, _, _⟩ : ∃ ak ck, kv = .slice ak 1 ck ∧ 1 ≤ ck ∧ True := by obtain ⟨a, c, h1, h2, _⟩ := hr; exact ⟨a, c, h1, h2, trivial⟩
  have h0 : Fr w ((w.alloc (.cells #[.int .i64 9, .int .i64 a1, .int .i64 a2, .int .i64 a3, .int .i64 a4, .int .i64 a5, .int .i64 a6, .int .i64 a7, .string nm, .slice ak 1 ck] 45)).alloc (.cells #[.int .i64 (t : Int)] 3)) := ((Ch.refl _ _).alloc _).alloc _
  have HA : Hid (At _ w.heap.size (w.heap.size + 1) (.slice ak 1 ck) [k0] (t : Int)) :=
    Lib.hid ⟨((Blk.new w 45 [.int .i64 9, .int .i64 a1, .int .i64 a2, .int .i64 a3, .int .i64 a4, .int .i64 a5, .int .i64 a6, .int .i64 a7, .string nm, .slice ak 1 ck]).ch ((Ch.refl (fun _ => False) _).alloc (.cells #[.int .i64 (t : Int)] 3)) id).cell 9,
      (by have := (Blk.new (w.alloc (.cells #[.int .i64 9, .int .i64 a1, .int .i64 a2, .int .i64 a3, .int .i64 a4, .int .i64 a5, .int .i64 a6, .int .i64 a7, .string nm, .slice ak 1 ck] 45)) 3 [.int .i64 (t : Int)]).cell 0; rw [size_alloc'] at this; exact this), hr.fr h0⟩
  have H1 := Lib.hid (H.ch0 h0)
  clear H hr h0
  unfold ndV
  dsimp only
  go_enter Tryd.func48, Tryd.ntmps48
  go_wp2_with (first
    | (go_at_call 69; refine (say_c _ _).mono ?_; rintro e w' ⟨rfl, hf⟩; replace HA := Lib.hid (HA.out.fr hf); replace H1 := Lib.hid (H1.out.ch0 hf); clear hf)
    | (go_at_call 72; refine (at_c HA.out _ rfl).mono ?_; rintro e w' ⟨rfl, hf⟩; replace HA := Lib.hid (HA.out.fr hf); replace H1 := Lib.hid (H1.out.ch0 hf); clear hf))
  refine (put_lit _ p nd fu todo out R rest (Tm.statement (⟨9, a1, a2, a3, a4, a5, a6, a7, nm, [k0]⟩ : Nd) t) _ rfl 3 rfl H1.out hb (by decide)).mono ?_
  rintro e w2 ⟨rfl, hp⟩
  have HP := Lib.hid hp
  clear hp
  go_wp2_with fail
  first | go_end0 | refine bodyPost_ret (results_none rfl _ _ _) rfl ?_
  exact ⟨rfl, HP.out⟩
set_option maxRecDepth 100000 in
set_option maxHeartbeats 16000000 in
theorem stmt_13_0 {A : Nat → Prop} {w0 : World} (w : World) (p : Nat) (nd fu todo out : Value) (R : List Part) (rest : List Res) (a1 a2 a3 a4 a5 a6 a7 : Int) (nm : ByteArray) (kv : Value) (t : Nat)
    (H : Hs A w0 w (.blk p 64 [nd, fu, todo, out] :: .row 67 4 todo R.length (partsC R) :: rest)) (hr : RdS w kv 0 (ints [])) (hb : R.length + 6 ≤ 1000000000) :
    Calls Tryd.prog 48 #[.pointer (some ⟨p, 0, none⟩), ndV (⟨13, a1, a2, a3, a4, a5, a6, a7, nm, []⟩ : Nd) kv, .int .i64 (t : Int)] w fun e w' => e = .returned (.tuple #[]) ∧ PS A w0 w' p nd fu out (R ++ (Tm.statement (⟨13, a1, a2, a3, a4, a5, a6, a7, nm, []⟩ : Nd) t).reverse) rest := by
  obtain ⟨ak, ck, rfl, _, _⟩ : ∃ ak ck, kv = .slice ak 0 ck ∧ 0 ≤ ck ∧ True := by obtain ⟨a, c, h1, h2, _⟩ := hr; exact ⟨a, c, h1, h2, trivial⟩
  have h0 : Fr w ((w.alloc (.cells #[.int .i64 13, .int .i64 a1, .int .i64 a2, .int .i64 a3, .int .i64 a4, .int .i64 a5, .int .i64 a6, .int .i64 a7, .string nm, .slice ak 0 ck] 45)).alloc (.cells #[.int .i64 (t : Int)] 3)) := ((Ch.refl _ _).alloc _).alloc _
  have HA : Hid (At _ w.heap.size (w.heap.size + 1) (.slice ak 0 ck) [] (t : Int)) :=
    Lib.hid ⟨((Blk.new w 45 [.int .i64 13, .int .i64 a1, .int .i64 a2, .int .i64 a3, .int .i64 a4, .int .i64 a5, .int .i64 a6, .int .i64 a7, .string nm, .slice ak 0 ck]).ch ((Ch.refl (fun _ => False) _).alloc (.cells #[.int .i64 (t : Int)] 3)) id).cell 9,
      (by have := (Blk.new (w.alloc (.cells #[.int .i64 13, .int .i64 a1, .int .i64 a2, .int .i64 a3, .int .i64 a4, .int .i64 a5, .int .i64 a6, .int .i64 a7, .string nm, .slice ak 0 ck] 45)) 3 [.int .i64 (t : Int)]).cell 0; rw [size_alloc'] at this; exact this), hr.fr h0⟩
  have H1 := Lib.hid (H.ch0 h0)
  clear H hr h0
  unfold ndV
  dsimp only
  go_enter Tryd.func48, Tryd.ntmps48
  go_wp2_with (first
    | (go_at_call 69; refine (say_c _ _).mono ?_; rintro e w' ⟨rfl, hf⟩; replace HA := Lib.hid (HA.out.fr hf); replace H1 := Lib.hid (H1.out.ch0 hf); clear hf)
    | (go_at_call 72; refine (at_c HA.out _ rfl).mono ?_; rintro e w' ⟨rfl, hf⟩; replace HA := Lib.hid (HA.out.fr hf); replace H1 := Lib.hid (H1.out.ch0 hf); clear hf))
  refine (put_lit _ p nd fu todo out R rest (Tm.statement (⟨13, a1, a2, a3, a4, a5, a6, a7, nm, []⟩ : Nd) t) _ rfl 1 rfl H1.out hb (by decide)).mono ?_
  rintro e w2 ⟨rfl, hp⟩
  have HP := Lib.hid hp
  clear hp
  go_wp2_with fail
  first | go_end0 | refine bodyPost_ret (results_none rfl _ _ _) rfl ?_
  exact ⟨rfl, HP.out⟩
set_option maxRecDepth 100000 in
set_option maxHeartbeats 16000000 in
theorem stmt_14_0 {A : Nat → Prop} {w0 : World} (w : World) (p : Nat) (nd fu todo out : Value) (R : List Part) (rest : List Res) (a1 a2 a3 a4 a5 a6 a7 : Int) (nm : ByteArray) (kv : Value) (t : Nat)
    (H : Hs A w0 w (.blk p 64 [nd, fu, todo, out] :: .row 67 4 todo R.length (partsC R) :: rest)) (hr : RdS w kv 0 (ints [])) (hb : R.length + 6 ≤ 1000000000) :
    Calls Tryd.prog 48 #[.pointer (some ⟨p, 0, none⟩), ndV (⟨14, a1, a2, a3, a4, a5, a6, a7, nm, []⟩ : Nd) kv, .int .i64 (t : Int)] w fun e w' => e = .returned (.tuple #[]) ∧ PS A w0 w' p nd fu out (R ++ (Tm.statement (⟨14, a1, a2, a3, a4, a5, a6, a7, nm, []⟩ : Nd) t).reverse) rest := by
  obtain ⟨ak, ck, rfl, _, _⟩ : ∃ ak ck, kv = .slice ak 0 ck ∧ 0 ≤ ck ∧ True := by obtain ⟨a, c, h1, h2, _⟩ := hr; exact ⟨a, c, h1, h2, trivial⟩
  have h0 : Fr w ((w.alloc (.cells #[.int .i64 14, .int .i64 a1, .int .i64 a2, .int .i64 a3, .int .i64 a4, .int .i64 a5, .int .i64 a6, .int .i64 a7, .string nm, .slice ak 0 ck] 45)).alloc (.cells #[.int .i64 (t : Int)] 3)) := ((Ch.refl _ _).alloc _).alloc _
  have HA : Hid (At _ w.heap.size (w.heap.size + 1) (.slice ak 0 ck) [] (t : Int)) :=
    Lib.hid ⟨((Blk.new w 45 [.int .i64 14, .int .i64 a1, .int .i64 a2, .int .i64 a3, .int .i64 a4, .int .i64 a5, .int .i64 a6, .int .i64 a7, .string nm, .slice ak 0 ck]).ch ((Ch.refl (fun _ => False) _).alloc (.cells #[.int .i64 (t : Int)] 3)) id).cell 9,
      (by have := (Blk.new (w.alloc (.cells #[.int .i64 14, .int .i64 a1, .int .i64 a2, .int .i64 a3, .int .i64 a4, .int .i64 a5, .int .i64 a6, .int .i64 a7, .string nm, .slice ak 0 ck] 45)) 3 [.int .i64 (t : Int)]).cell 0; rw [size_alloc'] at this; exact this), hr.fr h0⟩
  have H1 := Lib.hid (H.ch0 h0)
  clear H hr h0
  unfold ndV
  dsimp only
  go_enter Tryd.func48, Tryd.ntmps48
  go_wp2_with (first
    | (go_at_call 69; refine (say_c _ _).mono ?_; rintro e w' ⟨rfl, hf⟩; replace HA := Lib.hid (HA.out.fr hf); replace H1 := Lib.hid (H1.out.ch0 hf); clear hf)
    | (go_at_call 72; refine (at_c HA.out _ rfl).mono ?_; rintro e w' ⟨rfl, hf⟩; replace HA := Lib.hid (HA.out.fr hf); replace H1 := Lib.hid (H1.out.ch0 hf); clear hf))
  refine (put_lit _ p nd fu todo out R rest (Tm.statement (⟨14, a1, a2, a3, a4, a5, a6, a7, nm, []⟩ : Nd) t) _ rfl 1 rfl H1.out hb (by decide)).mono ?_
  rintro e w2 ⟨rfl, hp⟩
  have HP := Lib.hid hp
  clear hp
  go_wp2_with fail
  first | go_end0 | refine bodyPost_ret (results_none rfl _ _ _) rfl ?_
  exact ⟨rfl, HP.out⟩
set_option maxRecDepth 100000 in
set_option maxHeartbeats 16000000 in
theorem stmt_12_0 {A : Nat → Prop} {w0 : World} (w : World) (p : Nat) (nd fu todo out : Value) (R : List Part) (rest : List Res) (a1 a2 a3 a4 a5 a6 a7 : Int) (nm : ByteArray) (kv : Value) (t : Nat)
    (H : Hs A w0 w (.blk p 64 [nd, fu, todo, out] :: .row 67 4 todo R.length (partsC R) :: rest)) (hr : RdS w kv 0 (ints [])) (hb : R.length + 6 ≤ 1000000000) :
    Calls Tryd.prog 48 #[.pointer (some ⟨p, 0, none⟩), ndV (⟨12, a1, a2, a3, a4, a5, a6, a7, nm, []⟩ : Nd) kv, .int .i64 (t : Int)] w fun e w' => e = .returned (.tuple #[]) ∧ PS A w0 w' p nd fu out (R ++ (Tm.statement (⟨12, a1, a2, a3, a4, a5, a6, a7, nm, []⟩ : Nd) t).reverse) rest := by
  obtain ⟨ak, ck, rfl, _, _⟩ : ∃ ak ck, kv = .slice ak 0 ck ∧ 0 ≤ ck ∧ True := by obtain ⟨a, c, h1, h2, _⟩ := hr; exact ⟨a, c, h1, h2, trivial⟩
  have h0 : Fr w ((w.alloc (.cells #[.int .i64 12, .int .i64 a1, .int .i64 a2, .int .i64 a3, .int .i64 a4, .int .i64 a5, .int .i64 a6, .int .i64 a7, .string nm, .slice ak 0 ck] 45)).alloc (.cells #[.int .i64 (t : Int)] 3)) := ((Ch.refl _ _).alloc _).alloc _
  have HA : Hid (At _ w.heap.size (w.heap.size + 1) (.slice ak 0 ck) [] (t : Int)) :=
    Lib.hid ⟨((Blk.new w 45 [.int .i64 12, .int .i64 a1, .int .i64 a2, .int .i64 a3, .int .i64 a4, .int .i64 a5, .int .i64 a6, .int .i64 a7, .string nm, .slice ak 0 ck]).ch ((Ch.refl (fun _ => False) _).alloc (.cells #[.int .i64 (t : Int)] 3)) id).cell 9,
      (by have := (Blk.new (w.alloc (.cells #[.int .i64 12, .int .i64 a1, .int .i64 a2, .int .i64 a3, .int .i64 a4, .int .i64 a5, .int .i64 a6, .int .i64 a7, .string nm, .slice ak 0 ck] 45)) 3 [.int .i64 (t : Int)]).cell 0; rw [size_alloc'] at this; exact this), hr.fr h0⟩
  have H1 := Lib.hid (H.ch0 h0)
  clear H hr h0
  unfold ndV
  dsimp only
  go_enter Tryd.func48, Tryd.ntmps48
  go_wp2_with (first
    | (go_at_call 69; refine (say_c _ _).mono ?_; rintro e w' ⟨rfl, hf⟩; replace HA := Lib.hid (HA.out.fr hf); replace H1 := Lib.hid (H1.out.ch0 hf); clear hf)
    | (go_at_call 72; refine (at_c HA.out _ rfl).mono ?_; rintro e w' ⟨rfl, hf⟩; replace HA := Lib.hid (HA.out.fr hf); replace H1 := Lib.hid (H1.out.ch0 hf); clear hf))
  refine (put_lit _ p nd fu todo out R rest (Tm.statement (⟨12, a1, a2, a3, a4, a5, a6, a7, nm, []⟩ : Nd) t) _ rfl 1 rfl H1.out hb (by decide)).mono ?_
  rintro e w2 ⟨rfl, hp⟩
  have HP := Lib.hid hp
  clear hp
  go_wp2_with fail
  first | go_end0 | refine bodyPost_ret (results_none rfl _ _ _) rfl ?_
  exact ⟨rfl, HP.out⟩
set_option maxRecDepth 100000 in
set_option maxHeartbeats 16000000 in
theorem stmt_12_1 {A : Nat → Prop} {w0 : World} (w : World) (p : Nat) (nd fu todo out : Value) (R : List Part) (rest : List Res) (a1 a2 a3 a4 a5 a6 a7 : Int) (nm : ByteArray) (k0 : Int) (kv : Value) (t : Nat)
    (H : Hs A w0 w (.blk p 64 [nd, fu, todo, out] :: .row 67 4 todo R.length (partsC R) :: rest)) (hr : RdS w kv 1 (ints [k0])) (hb : R.length + 6 ≤ 1000000000) :
    Calls Tryd.prog 48 #[.pointer (some ⟨p, 0, none⟩), ndV (⟨12, a1, a2, a3, a4, a5, a6, a7, nm, [k0]⟩ : Nd) kv, .int .i64 (t : Int)] w fun e w' => e = .returned (.tuple #[]) ∧ PS A w0 w' p nd fu out (R ++ (Tm.statement (⟨12, a1, a2, a3, a4, a5, a6, a7, nm, [k0]⟩ : Nd) t).reverse) rest := by
  obtain ⟨ak, ck, rfl, _, _⟩ : ∃ ak ck, kv = .slice ak 1 ck ∧ 1 ≤ ck ∧ True := by obtain ⟨a, c, h1, h2, _⟩ := hr; exact ⟨a, c, h1, h2, trivial⟩
  have h0 : Fr w ((w.alloc (.cells #[.int .i64 12, .int .i64 a1, .int .i64 a2, .int .i64 a3, .int .i64 a4, .int .i64 a5, .int .i64 a6, .int .i64 a7, .string nm, .slice ak 1 ck] 45)).alloc (.cells #[.int .i64 (t : Int)] 3)) := ((Ch.refl _ _).alloc _).alloc _
  have HA : Hid (At _ w.heap.size (w.heap.size + 1) (.slice ak 1 ck) [k0] (t : Int)) :=
    Lib.hid ⟨((Blk.new w 45 [.int .i64 12, .int .i64 a1, .int .i64 a2, .int .i64 a3, .int .i64 a4, .int .i64 a5, .int .i64 a6, .int .i64 a7, .string nm, .slice ak 1 ck]).ch ((Ch.refl (fun _ => False) _).alloc (.cells #[.int .i64 (t : Int)] 3)) id).cell 9,
      (by have := (Blk.new (w.alloc (.cells #[.int .i64 12, .int .i64 a1, .int .i64 a2, .int .i64 a3, .int .i64 a4, .int .i64 a5, .int .i64 a6, .int .i64 a7, .string nm, .slice ak 1 ck] 45)) 3 [.int .i64 (t : Int)]).cell 0; rw [size_alloc'] at this; exact this), hr.fr h0⟩
  have H1 := Lib.hid (H.ch0 h0)
  clear H hr h0
  unfold ndV
  dsimp only
  go_enter Tryd.func48, Tryd.ntmps48
  go_wp2_with (first
    | (go_at_call 69; refine (say_c _ _).mono ?_; rintro e w' ⟨rfl, hf⟩; replace HA := Lib.hid (HA.out.fr hf); replace H1 := Lib.hid (H1.out.ch0 hf); clear hf)
    | (go_at_call 72; refine (at_c HA.out _ rfl).mono ?_; rintro e w' ⟨rfl, hf⟩; replace HA := Lib.hid (HA.out.fr hf); replace H1 := Lib.hid (H1.out.ch0 hf); clear hf))
  refine (put_lit _ p nd fu todo out R rest (Tm.statement (⟨12, a1, a2, a3, a4, a5, a6, a7, nm, [k0]⟩ : Nd) t) _ rfl 3 rfl H1.out hb (by decide)).mono ?_
  rintro e w2 ⟨rfl, hp⟩
  have HP := Lib.hid hp
  clear hp
  go_wp2_with fail
  first | go_end0 | refine bodyPost_ret (results_none rfl _ _ _) rfl ?_
  exact ⟨rfl, HP.out⟩
set_option maxRecDepth 100000 in
set_option maxHeartbeats 16000000 in
theorem stmt_10_3 {A : Nat → Prop} {w0 : World} (w : World) (p : Nat) (nd fu todo out : Value) (R : List Part) (rest : List Res) (a1 a2 a3 a4 a5 a6 a7 : Int) (nm : ByteArray) (k0 k1 k2 : Int) (kv : Value) (t : Nat)
    (H : Hs A w0 w (.blk p 64 [nd, fu, todo, out] :: .row 67 4 todo R.length (partsC R) :: rest)) (hr : RdS w kv 3 (ints [k0, k1, k2])) (hb : R.length + 6 ≤ 1000000000) :
    Calls Tryd.prog 48 #[.pointer (some ⟨p, 0, none⟩), ndV (⟨10, a1, a2, a3, a4, a5, a6, a7, nm, [k0, k1, k2]⟩ : Nd) kv, .int .i64 (t : Int)] w fun e w' => e = .returned (.tuple #[]) ∧ PS A w0 w' p nd fu out (R ++ (Tm.statement (⟨10, a1, a2, a3, a4, a5, a6, a7, nm, [k0, k1, k2]⟩ : Nd) t).reverse) rest := by
  obtain ⟨ak, ck, rfl, _, _⟩ : ∃ ak ck, kv = .slice ak 3 ck ∧ 3 ≤ ck ∧ True := by obtain ⟨a, c, h1, h2, _⟩ := hr; exact ⟨a, c, h1, h2, trivial⟩
  have h0 : Fr w ((w.alloc (.cells #[.int .i64 10, .int .i64 a1, .int .i64 a2, .int .i64 a3, .int .i64 a4, .int .i64 a5, .int .i64 a6, .int .i64 a7, .string nm, .slice ak 3 ck] 45)).alloc (.cells #[.int .i64 (t : Int)] 3)) := ((Ch.refl _ _).alloc _).alloc _
  have HA : Hid (At _ w.heap.size (w.heap.size + 1) (.slice ak 3 ck) [k0, k1, k2] (t : Int)) :=
    Lib.hid ⟨((Blk.new w 45 [.int .i64 10, .int .i64 a1, .int .i64 a2, .int .i64 a3, .int .i64 a4, .int .i64 a5, .int .i64 a6, .int .i64 a7, .string nm, .slice ak 3 ck]).ch ((Ch.refl (fun _ => False) _).alloc (.cells #[.int .i64 (t : Int)] 3)) id).cell 9,
      (by have := (Blk.new (w.alloc (.cells #[.int .i64 10, .int .i64 a1, .int .i64 a2, .int .i64 a3, .int .i64 a4, .int .i64 a5, .int .i64 a6, .int .i64 a7, .string nm, .slice ak 3 ck] 45)) 3 [.int .i64 (t : Int)]).cell 0; rw [size_alloc'] at this; exact this), hr.fr h0⟩
  have H1 := Lib.hid (H.ch0 h0)
  clear H hr h0
  unfold ndV
  dsimp only
  go_enter Tryd.func48, Tryd.ntmps48
  go_wp2_with (first
    | (go_at_call 69; refine (say_c _ _).mono ?_; rintro e w' ⟨rfl, hf⟩; replace HA := Lib.hid (HA.out.fr hf); replace H1 := Lib.hid (H1.out.ch0 hf); clear hf)
    | (go_at_call 72; refine (at_c HA.out _ rfl).mono ?_; rintro e w' ⟨rfl, hf⟩; replace HA := Lib.hid (HA.out.fr hf); replace H1 := Lib.hid (H1.out.ch0 hf); clear hf))
  refine (put_lit _ p nd fu todo out R rest (Tm.statement (⟨10, a1, a2, a3, a4, a5, a6, a7, nm, [k0, k1, k2]⟩ : Nd) t) _ rfl 6 rfl H1.out hb (by decide)).mono ?_
  rintro e w2 ⟨rfl, hp⟩
  have HP := Lib.hid hp
  clear hp
  go_wp2_with fail
  first | go_end0 | refine bodyPost_ret (results_none rfl _ _ _) rfl ?_
  exact ⟨rfl, HP.out⟩
set_option maxRecDepth 100000 in
set_option maxHeartbeats 16000000 in
theorem stmt_10_2 {A : Nat → Prop} {w0 : World} (w : World) (p : Nat) (nd fu todo out : Value) (R : List Part) (rest : List Res) (a1 a2 a3 a4 a5 a6 a7 : Int) (nm : ByteArray) (k0 k1 : Int) (kv : Value) (t : Nat)
    (H : Hs A w0 w (.blk p 64 [nd, fu, todo, out] :: .row 67 4 todo R.length (partsC R) :: rest)) (hr : RdS w kv 2 (ints [k0, k1])) (hb : R.length + 6 ≤ 1000000000) :
    Calls Tryd.prog 48 #[.pointer (some ⟨p, 0, none⟩), ndV (⟨10, a1, a2, a3, a4, a5, a6, a7, nm, [k0, k1]⟩ : Nd) kv, .int .i64 (t : Int)] w fun e w' => e = .returned (.tuple #[]) ∧ PS A w0 w' p nd fu out (R ++ (Tm.statement (⟨10, a1, a2, a3, a4, a5, a6, a7, nm, [k0, k1]⟩ : Nd) t).reverse) rest := by
  obtain ⟨ak, ck, rfl, _, _⟩ : ∃ ak ck, kv = .slice ak 2 ck ∧ 2 ≤ ck ∧ True := by obtain ⟨a, c, h1, h2, _⟩ := hr; exact ⟨a, c, h1, h2, trivial⟩
  have h0 : Fr w ((w.alloc (.cells #[.int .i64 10, .int .i64 a1, .int .i64 a2, .int .i64 a3, .int .i64 a4, .int .i64 a5, .int .i64 a6, .int .i64 a7, .string nm, .slice ak 2 ck] 45)).alloc (.cells #[.int .i64 (t : Int)] 3)) := ((Ch.refl _ _).alloc _).alloc _
  have HA : Hid (At _ w.heap.size (w.heap.size + 1) (.slice ak 2 ck) [k0, k1] (t : Int)) :=
    Lib.hid ⟨((Blk.new w 45 [.int .i64 10, .int .i64 a1, .int .i64 a2, .int .i64 a3, .int .i64 a4, .int .i64 a5, .int .i64 a6, .int .i64 a7, .string nm, .slice ak 2 ck]).ch ((Ch.refl (fun _ => False) _).alloc (.cells #[.int .i64 (t : Int)] 3)) id).cell 9,
      (by have := (Blk.new (w.alloc (.cells #[.int .i64 10, .int .i64 a1, .int .i64 a2, .int .i64 a3, .int .i64 a4, .int .i64 a5, .int .i64 a6, .int .i64 a7, .string nm, .slice ak 2 ck] 45)) 3 [.int .i64 (t : Int)]).cell 0; rw [size_alloc'] at this; exact this), hr.fr h0⟩
  have H1 := Lib.hid (H.ch0 h0)
  clear H hr h0
  unfold ndV
  dsimp only
  go_enter Tryd.func48, Tryd.ntmps48
  go_wp2_with (first
    | (go_at_call 69; refine (say_c _ _).mono ?_; rintro e w' ⟨rfl, hf⟩; replace HA := Lib.hid (HA.out.fr hf); replace H1 := Lib.hid (H1.out.ch0 hf); clear hf)
    | (go_at_call 72; refine (at_c HA.out _ rfl).mono ?_; rintro e w' ⟨rfl, hf⟩; replace HA := Lib.hid (HA.out.fr hf); replace H1 := Lib.hid (H1.out.ch0 hf); clear hf))
  refine (put_lit _ p nd fu todo out R rest (Tm.statement (⟨10, a1, a2, a3, a4, a5, a6, a7, nm, [k0, k1]⟩ : Nd) t) _ rfl 4 rfl H1.out hb (by decide)).mono ?_
  rintro e w2 ⟨rfl, hp⟩
  have HP := Lib.hid hp
  clear hp
  go_wp2_with fail
  first | go_end0 | refine bodyPost_ret (results_none rfl _ _ _) rfl ?_
  exact ⟨rfl, HP.out⟩
set_option maxRecDepth 100000 in
set_option maxHeartbeats 16000000 in
theorem stmt_11_1 {A : Nat → Prop} {w0 : World} (w : World) (p : Nat) (nd fu todo out : Value) (R : List Part) (rest : List Res) (a1 a2 a3 a4 a5 a6 a7 : Int) (nm : ByteArray) (k0 : Int) (kv : Value) (t : Nat)
    (H : Hs A w0 w (.blk p 64 [nd, fu, todo, out] :: .row 67 4 todo R.length (partsC R) :: rest)) (hr : RdS w kv 1 (ints [k0])) (hb : R.length + 6 ≤ 1000000000) :
    Calls Tryd.prog 48 #[.pointer (some ⟨p, 0, none⟩), ndV (⟨11, a1, a2, a3, a4, a5, a6, a7, nm, [k0]⟩ : Nd) kv, .int .i64 (t : Int)] w fun e w' => e = .returned (.tuple #[]) ∧ PS A w0 w' p nd fu out (R ++ (Tm.statement (⟨11, a1, a2, a3, a4, a5, a6, a7, nm, [k0]⟩ : Nd) t).reverse) rest := by
  obtain ⟨ak, ck, rfl, _, _⟩ : ∃ ak ck, kv = .slice ak 1 ck ∧ 1 ≤ ck ∧ True := by obtain ⟨a, c, h1, h2, _⟩ := hr; exact ⟨a, c, h1, h2, trivial⟩
  have h0 : Fr w ((w.alloc (.cells #[.int .i64 11, .int .i64 a1, .int .i64 a2, .int .i64 a3, .int .i64 a4, .int .i64 a5, .int .i64 a6, .int .i64 a7, .string nm, .slice ak 1 ck] 45)).alloc (.cells #[.int .i64 (t : Int)] 3)) := ((Ch.refl _ _).alloc _).alloc _
  have HA : Hid (At _ w.heap.size (w.heap.size + 1) (.slice ak 1 ck) [k0] (t : Int)) :=
    Lib.hid ⟨((Blk.new w 45 [.int .i64 11, .int .i64 a1, .int .i64 a2, .int .i64 a3, .int .i64 a4, .int .i64 a5, .int .i64 a6, .int .i64 a7, .string nm, .slice ak 1 ck]).ch ((Ch.refl (fun _ => False) _).alloc (.cells #[.int .i64 (t : Int)] 3)) id).cell 9,
      (by have := (Blk.new (w.alloc (.cells #[.int .i64 11, .int .i64 a1, .int .i64 a2, .int .i64 a3, .int .i64 a4, .int .i64 a5, .int .i64 a6, .int .i64 a7, .string nm, .slice ak 1 ck] 45)) 3 [.int .i64 (t : Int)]).cell 0; rw [size_alloc'] at this; exact this), hr.fr h0⟩
  have H1 := Lib.hid (H.ch0 h0)
  clear H hr h0
  unfold ndV
  dsimp only
  go_enter Tryd.func48, Tryd.ntmps48
  go_wp2_with (first
    | (go_at_call 69; refine (say_c _ _).mono ?_; rintro e w' ⟨rfl, hf⟩; replace HA := Lib.hid (HA.out.fr hf); replace H1 := Lib.hid (H1.out.ch0 hf); clear hf)
    | (go_at_call 72; refine (at_c HA.out _ rfl).mono ?_; rintro e w' ⟨rfl, hf⟩; replace HA := Lib.hid (HA.out.fr hf); replace H1 := Lib.hid (H1.out.ch0 hf); clear hf))
  refine (put_lit _ p nd fu todo out R rest (Tm.statement (⟨11, a1, a2, a3, a4, a5, a6, a7, nm, [k0]⟩ : Nd) t) _ rfl 2 rfl H1.out hb (by decide)).mono ?_
  rintro e w2 ⟨rfl, hp⟩
  have HP := Lib.hid hp
  clear hp
  go_wp2_with fail
  first | go_end0 | refine bodyPost_ret (results_none rfl _ _ _) rfl ?_
  exact ⟨rfl, HP.out⟩
set_option maxRecDepth 100000 in
set_option maxHeartbeats 16000000 in
theorem stmt_11_2 {A : Nat → Prop} {w0 : World} (w : World) (p : Nat) (nd fu todo out : Value) (R : List Part) (rest : List Res) (a1 a2 a3 a4 a5 a6 a7 : Int) (nm : ByteArray) (k0 k1 : Int) (kv : Value) (t : Nat)
    (H : Hs A w0 w (.blk p 64 [nd, fu, todo, out] :: .row 67 4 todo R.length (partsC R) :: rest)) (hr : RdS w kv 2 (ints [k0, k1])) (hb : R.length + 6 ≤ 1000000000) :
    Calls Tryd.prog 48 #[.pointer (some ⟨p, 0, none⟩), ndV (⟨11, a1, a2, a3, a4, a5, a6, a7, nm, [k0, k1]⟩ : Nd) kv, .int .i64 (t : Int)] w fun e w' => e = .returned (.tuple #[]) ∧ PS A w0 w' p nd fu out (R ++ (Tm.statement (⟨11, a1, a2, a3, a4, a5, a6, a7, nm, [k0, k1]⟩ : Nd) t).reverse) rest := by
  obtain ⟨ak, ck, rfl, _, _⟩ : ∃ ak ck, kv = .slice ak 2 ck ∧ 2 ≤ ck ∧ True := by obtain ⟨a, c, h1, h2, _⟩ := hr; exact ⟨a, c, h1, h2, trivial⟩
  have h0 : Fr w ((w.alloc (.cells #[.int .i64 11, .int .i64 a1, .int .i64 a2, .int .i64 a3, .int .i64 a4, .int .i64 a5, .int .i64 a6, .int .i64 a7, .string nm, .slice ak 2 ck] 45)).alloc (.cells #[.int .i64 (t : Int)] 3)) := ((Ch.refl _ _).alloc _).alloc _
  have HA : Hid (At _ w.heap.size (w.heap.size + 1) (.slice ak 2 ck) [k0, k1] (t : Int)) :=
    Lib.hid ⟨((Blk.new w 45 [.int .i64 11, .int .i64 a1, .int .i64 a2, .int .i64 a3, .int .i64 a4, .int .i64 a5, .int .i64 a6, .int .i64 a7, .string nm, .slice ak 2 ck]).ch ((Ch.refl (fun _ => False) _).alloc (.cells #[.int .i64 (t : Int)] 3)) id).cell 9,
      (by have := (Blk.new (w.alloc (.cells #[.int .i64 11, .int .i64 a1, .int .i64 a2, .int .i64 a3, .int .i64 a4, .int .i64 a5, .int .i64 a6, .int .i64 a7, .string nm, .slice ak 2 ck] 45)) 3 [.int .i64 (t : Int)]).cell 0; rw [size_alloc'] at this; exact this), hr.fr h0⟩
  have H1 := Lib.hid (H.ch0 h0)
  clear H hr h0
  unfold ndV
  dsimp only
  go_enter Tryd.func48, Tryd.ntmps48
  go_wp2_with (first
    | (go_at_call 69; refine (say_c _ _).mono ?_; rintro e w' ⟨rfl, hf⟩; replace HA := Lib.hid (HA.out.fr hf); replace H1 := Lib.hid (H1.out.ch0 hf); clear hf)
    | (go_at_call 72; refine (at_c HA.out _ rfl).mono ?_; rintro e w' ⟨rfl, hf⟩; replace HA := Lib.hid (HA.out.fr hf); replace H1 := Lib.hid (H1.out.ch0 hf); clear hf))
  refine (put_lit _ p nd fu todo out R rest (Tm.statement (⟨11, a1, a2, a3, a4, a5, a6, a7, nm, [k0, k1]⟩ : Nd) t) _ rfl 4 rfl H1.out hb (by decide)).mono ?_
  rintro e w2 ⟨rfl, hp⟩
  have HP := Lib.hid hp
  clear hp
  go_wp2_with fail
  first | go_end0 | refine bodyPost_ret (results_none rfl _ _ _) rfl ?_
  exact ⟨rfl, HP.out⟩
theorem statement_c {A : Nat → Prop} {w0 : World} (w : World) (p : Nat) (nd fu todo out : Value) (R : List Part) (rest : List Res) (n : Nd) (kv : Value) (t : Nat) (f : Int → Int)
    (H : Hs A w0 w (.blk p 64 [nd, fu, todo, out] :: .row 67 4 todo R.length (partsC R) :: rest)) (hr : RdS w kv n.kids.length (ints n.kids)) (hb : R.length + 6 ≤ 1000000000) (hnm : n.name.size ≤ 64)
    (hs : Tm.isS n.kind = true) (h3 : n.kind ≠ 3) (hk : Tm.kidsOk n.kind (n.kids.map f) = true) :
    Calls Tryd.prog 48 #[.pointer (some ⟨p, 0, none⟩), ndV n kv, .int .i64 (t : Int)] w fun e w' => e = .returned (.tuple #[]) ∧ PS A w0 w' p nd fu out (R ++ (Tm.statement n t).reverse) rest := by
  obtain ⟨k, a1, a2, a3, a4, a5, a6, a7, nm, ks⟩ := n
  dsimp only at hr hnm hs h3 hk
  have hk' : k = 4 ∨ k = 5 ∨ k = 6 ∨ k = 7 ∨ k = 8 ∨ k = 9 ∨ k = 10 ∨ k = 11 ∨ k = 12 ∨ k = 13 ∨ k = 14 := by
    unfold Tm.isS at hs
    simp only [Bool.and_eq_true, decide_eq_true_eq] at hs
    omega
  rcases hk' with rfl | rfl | rfl | rfl | rfl | rfl | rfl | rfl | rfl | rfl | rfl
  · match ks, hk, hr with
    | [], _, hr => exact stmt_4_0 w p nd fu todo out R rest a1 a2 a3 a4 a5 a6 a7 nm  kv t H hr hb hnm
    | [k0], _, hr => exact stmt_4_1 w p nd fu todo out R rest a1 a2 a3 a4 a5 a6 a7 nm k0 kv t H hr hb hnm
    | [k0, k1], hk, _ => exact absurd hk (by simp [Tm.kidsOk])
    | [k0, k1, k2], hk, _ => exact absurd hk (by simp [Tm.kidsOk])
    | _ :: _ :: _ :: _ :: _, hk, _ => exact absurd hk (by simp [Tm.kidsOk])
  · match ks, hk, hr with
    | [], hk, _ => exact absurd hk (by simp [Tm.kidsOk])
    | [k0], _, hr => exact stmt_5_1 w p nd fu todo out R rest a1 a2 a3 a4 a5 a6 a7 nm k0 kv t H hr hb hnm
    | [k0, k1], hk, _ => exact absurd hk (by simp [Tm.kidsOk])
    | [k0, k1, k2], hk, _ => exact absurd hk (by simp [Tm.kidsOk])
    | _ :: _ :: _ :: _ :: _, hk, _ => exact absurd hk (by simp [Tm.kidsOk])
  · match ks, hk, hr with
    | [], hk, _ => exact absurd hk (by simp [Tm.kidsOk])
    | [k0], hk, _ => exact absurd hk (by simp [Tm.kidsOk])
    | [k0, k1], _, hr => exact stmt_6_2 w p nd fu todo out R rest a1 a2 a3 a4 a5 a6 a7 nm k0 k1 kv t H hr hb hnm
    | [k0, k1, k2], hk, _ => exact absurd hk (by simp [Tm.kidsOk])
    | _ :: _ :: _ :: _ :: _, hk, _ => exact absurd hk (by simp [Tm.kidsOk])
  · match ks, hk, hr with
    | [], hk, _ => exact absurd hk (by simp [Tm.kidsOk])
    | [k0], _, hr => exact stmt_7_1 w p nd fu todo out R rest a1 a2 a3 a4 a5 a6 a7 nm k0 kv t H hr hb
    | [k0, k1], hk, _ => exact absurd hk (by simp [Tm.kidsOk])
    | [k0, k1, k2], hk, _ => exact absurd hk (by simp [Tm.kidsOk])
    | _ :: _ :: _ :: _ :: _, hk, _ => exact absurd hk (by simp [Tm.kidsOk])
  · match ks, hk, hr with
    | [], hk, _ => exact absurd hk (by simp [Tm.kidsOk])
    | [k0], _, hr => exact stmt_8_1 w p nd fu todo out R rest a1 a2 a3 a4 a5 a6 a7 nm k0 kv t H hr hb
    | [k0, k1], hk, _ => exact absurd hk (by simp [Tm.kidsOk])
    | [k0, k1, k2], hk, _ => exact absurd hk (by simp [Tm.kidsOk])
    | _ :: _ :: _ :: _ :: _, hk, _ => exact absurd hk (by simp [Tm.kidsOk])
  · match ks, hk, hr with
    | [], hk, _ => exact absurd hk (by simp [Tm.kidsOk])
    | [k0], _, hr => exact stmt_9_1 w p nd fu todo out R rest a1 a2 a3 a4 a5 a6 a7 nm k0 kv t H hr hb
    | [k0, k1], hk, _ => exact absurd hk (by simp [Tm.kidsOk])
    | [k0, k1, k2], hk, _ => exact absurd hk (by simp [Tm.kidsOk])
    | _ :: _ :: _ :: _ :: _, hk, _ => exact absurd hk (by simp [Tm.kidsOk])
  · match ks, hk, hr with
    | [], hk, _ => exact absurd hk (by simp [Tm.kidsOk])
    | [k0], hk, _ => exact absurd hk (by simp [Tm.kidsOk])
    | [k0, k1], _, hr => exact stmt_10_2 w p nd fu todo out R rest a1 a2 a3 a4 a5 a6 a7 nm k0 k1 kv t H hr hb
    | [k0, k1, k2], _, hr => exact stmt_10_3 w p nd fu todo out R rest a1 a2 a3 a4 a5 a6 a7 nm k0 k1 k2 kv t H hr hb
    | _ :: _ :: _ :: _ :: _, hk, _ => exact absurd hk (by simp [Tm.kidsOk])
  · match ks, hk, hr with
    | [], hk, _ => exact absurd hk (by simp [Tm.kidsOk])
    | [k0], _, hr => exact stmt_11_1 w p nd fu todo out R rest a1 a2 a3 a4 a5 a6 a7 nm k0 kv t H hr hb
    | [k0, k1], _, hr => exact stmt_11_2 w p nd fu todo out R rest a1 a2 a3 a4 a5 a6 a7 nm k0 k1 kv t H hr hb
    | [k0, k1, k2], hk, _ => exact absurd hk (by simp [Tm.kidsOk])
    | _ :: _ :: _ :: _ :: _, hk, _ => exact absurd hk (by simp [Tm.kidsOk])
  · match ks, hk, hr with
    | [], _, hr => exact stmt_12_0 w p nd fu todo out R rest a1 a2 a3 a4 a5 a6 a7 nm  kv t H hr hb
    | [k0], _, hr => exact stmt_12_1 w p nd fu todo out R rest a1 a2 a3 a4 a5 a6 a7 nm k0 kv t H hr hb
    | [k0, k1], hk, _ => exact absurd hk (by simp [Tm.kidsOk])
    | [k0, k1, k2], hk, _ => exact absurd hk (by simp [Tm.kidsOk])
    | _ :: _ :: _ :: _ :: _, hk, _ => exact absurd hk (by simp [Tm.kidsOk])
  · match ks, hk, hr with
    | [], _, hr => exact stmt_13_0 w p nd fu todo out R rest a1 a2 a3 a4 a5 a6 a7 nm  kv t H hr hb
    | [k0], hk, _ => exact absurd hk (by simp [Tm.kidsOk])
    | [k0, k1], hk, _ => exact absurd hk (by simp [Tm.kidsOk])
    | [k0, k1, k2], hk, _ => exact absurd hk (by simp [Tm.kidsOk])
    | _ :: _ :: _ :: _ :: _, hk, _ => exact absurd hk (by simp [Tm.kidsOk])
  · match ks, hk, hr with
    | [], _, hr => exact stmt_14_0 w p nd fu todo out R rest a1 a2 a3 a4 a5 a6 a7 nm  kv t H hr hb
    | [k0], hk, _ => exact absurd hk (by simp [Tm.kidsOk])
    | [k0, k1], hk, _ => exact absurd hk (by simp [Tm.kidsOk])
    | [k0, k1, k2], hk, _ => exact absurd hk (by simp [Tm.kidsOk])
    | _ :: _ :: _ :: _ :: _, hk, _ => exact absurd hk (by simp [Tm.kidsOk])
end Go.Proofs.YtllahgnpjodgmaaDoor
