/- strconv.Itoa at this program: the library's contract, laid. (This text was written by the kit's own tool out of the program's numbers; for another seat: wip/tools/lay.sh.)
The printer's expressions and nodes.
The program's text of a tree is the document's. No program here. -/
import Derived.Shelf.Strconv.Itoa3
import Derived.Test.YtllahgnpjodgmaaDoorQ2
import Derived.Test.YtllahgnpjodgmaaDoorQ17
import Derived.BarOnce
import Derived.Test.YtllahgnpjodgmaaDoorQ11
set_option linter.unusedVariables false
namespace Go.Proofs.YtllahgnpjodgmaaDoor
open Go Go.Shelf
def itoaRen : Go.Shelf.Ren := ⟨fun | 171 => 73 | 243 => 80 | 246 => 85 | 283 => 86 | 284 => 87 | 285 => 88 | 286 => 89 | 129 => 91 | 317 => 90 | 318 => 92 | 319 => 93 | 320 => 94 | 337 => 95 | 338 => 96 | n => n, fun | 3 => 3 | 9 => 9 | 2 => 2 | 4 => 4 | 171 => 100 | 0 => 0 | 53 => 101 | 37 => 30 | 5 => 5 | 173 => 104 | 212 => 108 | 51 => 109 | 20 => 20 | 213 => 110 | 46 => 111 | 232 => 114 | 233 => 115 | n => n, fun | 17 => 0 | 18 => 1 | 19 => 2 | n => n⟩
theorem itoaLays : Go.Proofs.LaysM.n171 Tryd.prog itoaRen := {
  mixed := by kernel_rfl
  f129 := Tryd.func91.trans (congrArg some (by kernel_rfl))
  f171 := Tryd.func73.trans (congrArg some (by kernel_rfl))
  f243 := Tryd.func80.trans (congrArg some (by kernel_rfl))
  f246 := Tryd.func85.trans (congrArg some (by kernel_rfl))
  f283 := Tryd.func86.trans (congrArg some (by kernel_rfl))
  f284 := Tryd.func87.trans (congrArg some (by kernel_rfl))
  f285 := Tryd.func88.trans (congrArg some (by kernel_rfl))
  f286 := Tryd.func89.trans (congrArg some (by kernel_rfl))
  f317 := Tryd.func90.trans (congrArg some (by kernel_rfl))
  f318 := Tryd.func92.trans (congrArg some (by kernel_rfl))
  f319 := Tryd.func93.trans (congrArg some (by kernel_rfl))
  f320 := Tryd.func94.trans (congrArg some (by kernel_rfl))
  f337 := Tryd.func95.trans (congrArg some (by kernel_rfl))
  f338 := Tryd.func96.trans (congrArg some (by kernel_rfl))
  t0 := Tryd.underlying0
  a0 := Tryd.isAgg0
  z0 := Tryd.sizeOf0
  v0 := Tryd.zeroValue0
  t2 := Tryd.underlying2
  a2 := Tryd.isAgg2
  z2 := Tryd.sizeOf2
  v2 := Tryd.zeroValue2
  t3 := Tryd.underlying3
  a3 := Tryd.isAgg3
  z3 := Tryd.sizeOf3
  v3 := Tryd.zeroValue3
  t4 := Tryd.underlying4
  a4 := Tryd.isAgg4
  z4 := Tryd.sizeOf4
  v4 := Tryd.zeroValue4
  t5 := Tryd.underlying5
  a5 := Tryd.isAgg5
  z5 := Tryd.sizeOf5
  v5 := Tryd.zeroValue5
  t9 := Tryd.underlying9
  a9 := Tryd.isAgg9
  z9 := Tryd.sizeOf9
  v9 := Tryd.zeroValue9
  t20 := Tryd.underlying20
  a20 := Tryd.isAgg20
  z20 := Tryd.sizeOf20
  v20 := Tryd.zeroValue20
  t37 := Tryd.underlying30
  a37 := Tryd.isAgg30
  z37 := Tryd.sizeOf30
  v37 := Tryd.zeroValue30
  t46 := Tryd.underlying111
  a46 := Tryd.isAgg111
  z46 := Tryd.sizeOf111
  v46 := Tryd.zeroValue111
  t51 := Tryd.underlying109
  a51 := Tryd.isAgg109
  z51 := Tryd.sizeOf109
  v51 := Tryd.zeroValue109
  t53 := Tryd.underlying101
  a53 := Tryd.isAgg101
  z53 := Tryd.sizeOf101
  v53 := Tryd.zeroValue101
  t171 := Tryd.underlying100
  a171 := Tryd.isAgg100
  z171 := Tryd.sizeOf100
  v171 := Tryd.zeroValue100
  t173 := Tryd.underlying104
  a173 := Tryd.isAgg104
  z173 := Tryd.sizeOf104
  v173 := Tryd.zeroValue104
  t212 := Tryd.underlying108
  a212 := Tryd.isAgg108
  z212 := Tryd.sizeOf108
  v212 := Tryd.zeroValue108
  t213 := Tryd.underlying110
  a213 := Tryd.isAgg110
  z213 := Tryd.sizeOf110
  t232 := Tryd.underlying114
  a232 := Tryd.isAgg114
  z232 := Tryd.sizeOf114
  v232 := Tryd.zeroValue114
  t233 := Tryd.underlying115
  a233 := Tryd.isAgg115
  z233 := Tryd.sizeOf115
  v233 := Tryd.zeroValue115
  g17 := by kernel_rfl
  g18 := by kernel_rfl
  g19 := by kernel_rfl
  i0 := by kernel_rfl
  i2 := by kernel_rfl
  i3 := by kernel_rfl
  i4 := by kernel_rfl
  i5 := by kernel_rfl
  i9 := by kernel_rfl
  i20 := by kernel_rfl
  i37 := by kernel_rfl
  i46 := by kernel_rfl
  i51 := by kernel_rfl
  i53 := by kernel_rfl
  i171 := by kernel_rfl
  i173 := by kernel_rfl
  i212 := by kernel_rfl
  i232 := by kernel_rfl
  i233 := by kernel_rfl
  m17 := by kernel_rfl
  m18 := by kernel_rfl
  m19 := by kernel_rfl }
open Mem
theorem itoa_c (n : Int) (h0 : -9223372036854775808 ≤ n) (h1 : n ≤ 9223372036854775807) (w : World) (htab : Lib.TabIs Tryd.prog w "internal/strconv.uint64pow10" .u64 Lib.pow10Tab) :
    Calls Tryd.prog 73 #[.int .i64 n] w fun e w' => e = .returned (.string ⟨(Lib.itoa n).toArray⟩) ∧ Fr w w' := by
  refine (Go.Proofs.Any.strconv_Itoa itoaLays n h0 h1 w htab).mono ?_
  rintro e w' ⟨rfl, k, os, rfl⟩
  refine ⟨rfl, (Ch.refl _ _).drewN k |>.trans ⟨rfl, rfl, rfl, ?_, fun j hj _ => ?_⟩⟩
  · show (w.drewN k).heap.size ≤ ((w.drewN k).heap ++ os).size
    rw [Array.size_append]; omega
  · show ((w.drewN k).heap ++ os)[j]? = (w.drewN k).heap[j]?
    exact Array.getElem?_append_left hj
end Go.Proofs.YtllahgnpjodgmaaDoor

set_option linter.unusedVariables false
namespace Go.Proofs.YtllahgnpjodgmaaDoor
open Go Go.RowKit Mem Pm
open Tm (Part)
/-- The library's table of powers of ten lies in memory. -/
abbrev Tab (w : World) : Prop := Lib.TabIs Tryd.prog w "internal/strconv.uint64pow10" .u64 Lib.pow10Tab
theorem tab_fr {w w' : World} (h : Tab w) (hf : Fr w w') : Tab w' := by
  unfold Tab Lib.TabIs World.var? at h ⊢
  cases hg : Tryd.prog.globalNamed "internal/strconv.uint64pow10" with
  | none => rw [hg] at h; cases h
  | some g =>
    rw [hg] at h
    simp only [Option.bind_some] at h ⊢
    have hlt : g < w.heap.size := by
      rcases Nat.lt_or_ge g w.heap.size with h1 | h1
      · exact h1
      · rw [Array.getElem?_eq_none h1] at h; cases h
    rw [hf.block g hlt id]
    exact h
/-- What a tree is, as far as printing goes. -/
structure Good (nodes : List Nd) : Prop where
  kids : Kids nodes
  val : ∀ n ∈ nodes, n.value ≤ 9223372036854775807
  ok : ∀ n ∈ nodes, Tm.fields n = true ∧ Tm.kidsOk n.kind (n.kids.map (Tm.kindOf nodes)) = true
theorem fields_op30 {n : Nd} (h : Tm.fields n = true) (hk : n.kind = 30) : 20 ≤ n.op ∧ n.op ≤ 22 := by
  unfold Tm.fields at h
  simp only [hk, Bool.and_eq_true] at h
  have := h.1.1.1.2
  simpa using this
theorem fields_op31 {n : Nd} (h : Tm.fields n = true) (hk : n.kind = 31) : 1 ≤ n.op ∧ n.op ≤ 19 := by
  unfold Tm.fields at h
  simp only [hk, Bool.and_eq_true] at h
  have := h.1.1.1.2
  simpa using this
theorem fields_v20 {n : Nd} (h : Tm.fields n = true) (hk : n.kind = 20) : 0 ≤ n.value := by
  unfold Tm.fields at h
  simp only [hk, Bool.and_eq_true] at h
  have := h.1.1.2
  simpa using this
set_option maxRecDepth 100000 in
set_option maxHeartbeats 16000000 in
theorem expr_20 {w0 : World} (w : World) (p : Nat) (nd fu todo out : Value) (R : List Part) (rest : List Res) (nodes : List Nd) (a1 a2 a3 a4 a5 a6 a7 : Int) (nm : ByteArray) (ks : List Int) (kv : Value) (htab : Tab w0) (hv : 0 ≤ a7 ∧ a7 ≤ 9223372036854775807)
    (H : Hs (fun k => k < w0.heap.size) w0 w (.blk p 64 [nd, fu, todo, out] :: .row 67 4 todo R.length (partsC R) :: rest)) (hb : R.length + 6 ≤ 1000000000) :
    Calls Tryd.prog 49 #[.pointer (some ⟨p, 0, none⟩), ndV (⟨20, a1, a2, a3, a4, a5, a6, a7, nm, ks⟩ : Nd) kv] w fun e w' => e = .returned (.tuple #[]) ∧ PS (fun k => k < w0.heap.size) w0 w' p nd fu out (R ++ (Tm.expression nodes (⟨20, a1, a2, a3, a4, a5, a6, a7, nm, ks⟩ : Nd)).reverse) rest := by
  have H1 := Lib.hid (H.alloc' (.cells #[.int .i64 20, .int .i64 a1, .int .i64 a2, .int .i64 a3, .int .i64 a4, .int .i64 a5, .int .i64 a6, .int .i64 a7, .string nm, kv] 45))
  have HTab := Lib.hid htab
  clear H htab
  unfold ndV
  dsimp only
  go_enter Tryd.func49, Tryd.ntmps49
  go_wp2_with (first | (go_at_call 69; refine (say_c _ _).mono ?_; rintro e w' ⟨rfl, hf⟩; replace H1 := Lib.hid (H1.out.ch0 hf); clear hf) | (go_at_call 73; refine (itoa_c a7 (by omega) (by omega) _ (tab_fr HTab.out (fr_of_kp H1.out.kp))).mono ?_; rintro e w' ⟨rfl, hf⟩; replace H1 := Lib.hid (H1.out.ch0 hf); clear hf))
  refine (put_lit _ p nd fu todo out R rest (Tm.expression nodes (⟨20, a1, a2, a3, a4, a5, a6, a7, nm, ks⟩ : Nd)) _ rfl 1 rfl H1.out hb (by decide)).mono ?_
  rintro e w2 ⟨rfl, hp⟩
  have HP := Lib.hid hp
  clear hp
  go_wp2_with fail
  first | go_end0 | refine bodyPost_ret (results_none rfl _ _ _) rfl ?_
  exact ⟨rfl, HP.out⟩
theorem operation_c {w0 : World} (w : World) (p : Nat) (nd fu todo out : Value) (R : List Part) (rest : List Res) (nodes : List Nd) (funcs : List Int) (n : Nd) (kv : Value) (HT0 : TreeRd w0 nodes funcs nd fu) (hG : Good nodes) (hn : n ∈ nodes) (hk : n.kind = 29 ∨ n.kind = 30 ∨ n.kind = 31)
    (H : Hs (fun k => k < w0.heap.size) w0 w (.blk p 64 [nd, fu, todo, out] :: .row 67 4 todo R.length (partsC R) :: rest)) (hr : RdS w0 kv n.kids.length (ints n.kids)) (hb : R.length + 10 ≤ 1000000000) :
    Calls Tryd.prog 74 #[.pointer (some ⟨p, 0, none⟩), ndV n kv] w fun e w' => e = .returned (.tuple #[]) ∧ PS (fun k => k < w0.heap.size) w0 w' p nd fu out (R ++ (Tm.operation nodes n).reverse) rest := by
  have hkd := hG.kids.kd n hn
  obtain ⟨hf, hko⟩ := hG.ok n hn
  have h30 := fields_op30 hf
  have h31 := fields_op31 hf
  clear hf hn
  obtain ⟨k, a1, a2, a3, a4, a5, a6, a7, nm, ks⟩ := n
  dsimp only at hr hkd hk hko h30 h31
  rcases hk with rfl | rfl | rfl
  · match ks, hko, hr, hkd with
    | [], hk, _, _ => exact absurd hk (by simp [Tm.kidsOk])
    | [x0], hk, _, _ => exact absurd hk (by simp [Tm.kidsOk])
    | [x0, x1], _, hr, hkd =>
      obtain ⟨k0, rfl⟩ : ∃ k : Nat, x0 = (k : Int) := ⟨x0.toNat, by have := (hkd x0 (by simp)).1; omega⟩
      obtain ⟨k1, rfl⟩ : ∃ k : Nat, x1 = (k : Int) := ⟨x1.toNat, by have := (hkd x1 (by simp)).1; omega⟩
      exact oper_29 w p nd fu todo out R rest nodes funcs a1 a2 a3 a4 a5 a6 a7 nm k0 k1 kv HT0 (by have := (hkd (k0 : Int) (by simp)).2; omega) (by have := (hkd (k1 : Int) (by simp)).2; omega) H hr hb
    | _ :: _ :: _ :: _, hk, _, _ => exact absurd hk (by simp [Tm.kidsOk])
  · match ks, hko, hr, hkd with
    | [], hk, _, _ => exact absurd hk (by simp [Tm.kidsOk])
    | [x0], _, hr, hkd =>
      obtain ⟨k0, rfl⟩ : ∃ k : Nat, x0 = (k : Int) := ⟨x0.toNat, by have := (hkd x0 (by simp)).1; omega⟩
      exact oper_30 w p nd fu todo out R rest nodes funcs a1 a2 a3 a4 a5 a6 a7 nm k0 kv HT0 (by have := (hkd (k0 : Int) (by simp)).2; omega) (h30 rfl) H hr hb
    | [x0, x1], hk, _, _ => exact absurd hk (by simp [Tm.kidsOk])
    | _ :: _ :: _ :: _, hk, _, _ => exact absurd hk (by simp [Tm.kidsOk])
  · match ks, hko, hr, hkd with
    | [], hk, _, _ => exact absurd hk (by simp [Tm.kidsOk])
    | [x0], hk, _, _ => exact absurd hk (by simp [Tm.kidsOk])
    | [x0, x1], _, hr, hkd =>
      obtain ⟨k0, rfl⟩ : ∃ k : Nat, x0 = (k : Int) := ⟨x0.toNat, by have := (hkd x0 (by simp)).1; omega⟩
      obtain ⟨k1, rfl⟩ : ∃ k : Nat, x1 = (k : Int) := ⟨x1.toNat, by have := (hkd x1 (by simp)).1; omega⟩
      exact oper_31 w p nd fu todo out R rest nodes funcs a1 a2 a3 a4 a5 a6 a7 nm k0 k1 kv HT0 (by have := (hkd (k0 : Int) (by simp)).2; omega) (by have := (hkd (k1 : Int) (by simp)).2; omega) (h31 rfl) H hr hb
    | _ :: _ :: _ :: _, hk, _, _ => exact absurd hk (by simp [Tm.kidsOk])
set_option maxRecDepth 100000 in
set_option maxHeartbeats 16000000 in
theorem expr_29 {w0 : World} (w : World) (p : Nat) (nd fu todo out : Value) (R : List Part) (rest : List Res) (nodes : List Nd) (funcs : List Int) (a1 a2 a3 a4 a5 a6 a7 : Int) (nm : ByteArray) (ks : List Int) (kv : Value) (HT0 : TreeRd w0 nodes funcs nd fu) (hG : Good nodes) (hn : (⟨29, a1, a2, a3, a4, a5, a6, a7, nm, ks⟩ : Nd) ∈ nodes)
    (H : Hs (fun k => k < w0.heap.size) w0 w (.blk p 64 [nd, fu, todo, out] :: .row 67 4 todo R.length (partsC R) :: rest)) (hr : RdS w0 kv ks.length (ints ks)) (hb : R.length + 10 ≤ 1000000000) :
    Calls Tryd.prog 49 #[.pointer (some ⟨p, 0, none⟩), ndV (⟨29, a1, a2, a3, a4, a5, a6, a7, nm, ks⟩ : Nd) kv] w fun e w' => e = .returned (.tuple #[]) ∧ PS (fun k => k < w0.heap.size) w0 w' p nd fu out (R ++ (Tm.expression nodes (⟨29, a1, a2, a3, a4, a5, a6, a7, nm, ks⟩ : Nd)).reverse) rest := by
  have H1 := Lib.hid (H.alloc' (.cells #[.int .i64 29, .int .i64 a1, .int .i64 a2, .int .i64 a3, .int .i64 a4, .int .i64 a5, .int .i64 a6, .int .i64 a7, .string nm, kv] 45))
  have HT := Lib.hid HT0
  have HG := Lib.hid hG
  have HN := Lib.hid hn
  have HR := Lib.hid hr
  have hE : Tm.expression nodes (⟨29, a1, a2, a3, a4, a5, a6, a7, nm, ks⟩ : Nd) = Tm.operation nodes (⟨29, a1, a2, a3, a4, a5, a6, a7, nm, ks⟩ : Nd) := rfl
  rw [hE]
  clear H HT0 hG hn hr hE
  unfold ndV
  dsimp only
  go_enter Tryd.func49, Tryd.ntmps49
  go_wp2_with fail
  refine (operation_c _ p nd fu todo out R rest nodes funcs (⟨29, a1, a2, a3, a4, a5, a6, a7, nm, ks⟩ : Nd) kv HT.out HG.out HN.out (by first | exact .inl rfl | exact .inr (.inl rfl) | exact .inr (.inr rfl)) H1.out HR.out hb).mono ?_
  rintro e w2 ⟨rfl, hp⟩
  have HP := Lib.hid hp
  clear hp
  go_wp2_with fail
  first | go_end0 | refine bodyPost_ret (results_none rfl _ _ _) rfl ?_
  exact ⟨rfl, HP.out⟩
set_option maxRecDepth 100000 in
set_option maxHeartbeats 16000000 in
theorem expr_30 {w0 : World} (w : World) (p : Nat) (nd fu todo out : Value) (R : List Part) (rest : List Res) (nodes : List Nd) (funcs : List Int) (a1 a2 a3 a4 a5 a6 a7 : Int) (nm : ByteArray) (ks : List Int) (kv : Value) (HT0 : TreeRd w0 nodes funcs nd fu) (hG : Good nodes) (hn : (⟨30, a1, a2, a3, a4, a5, a6, a7, nm, ks⟩ : Nd) ∈ nodes)
    (H : Hs (fun k => k < w0.heap.size) w0 w (.blk p 64 [nd, fu, todo, out] :: .row 67 4 todo R.length (partsC R) :: rest)) (hr : RdS w0 kv ks.length (ints ks)) (hb : R.length + 10 ≤ 1000000000) :
    Calls Tryd.prog 49 #[.pointer (some ⟨p, 0, none⟩), ndV (⟨30, a1, a2, a3, a4, a5, a6, a7, nm, ks⟩ : Nd) kv] w fun e w' => e = .returned (.tuple #[]) ∧ PS (fun k => k < w0.heap.size) w0 w' p nd fu out (R ++ (Tm.expression nodes (⟨30, a1, a2, a3, a4, a5, a6, a7, nm, ks⟩ : Nd)).reverse) rest := by
  have H1 := Lib.hid (H.alloc' (.cells #[.int .i64 30, .int .i64 a1, .int .i64 a2, .int .i64 a3, .int .i64 a4, .int .i64 a5, .int .i64 a6, .int .i64 a7, .string nm, kv] 45))
  have HT := Lib.hid HT0
  have HG := Lib.hid hG
  have HN := Lib.hid hn
  have HR := Lib.hid hr
  have hE : Tm.expression nodes (⟨30, a1, a2, a3, a4, a5, a6, a7, nm, ks⟩ : Nd) = Tm.operation nodes (⟨30, a1, a2, a3, a4, a5, a6, a7, nm, ks⟩ : Nd) := rfl
  rw [hE]
  clear H HT0 hG hn hr hE
  unfold ndV
  dsimp only
  go_enter Tryd.func49, Tryd.ntmps49
  go_wp2_with fail
  refine (operation_c _ p nd fu todo out R rest nodes funcs (⟨30, a1, a2, a3, a4, a5, a6, a7, nm, ks⟩ : Nd) kv HT.out HG.out HN.out (by first | exact .inl rfl | exact .inr (.inl rfl) | exact .inr (.inr rfl)) H1.out HR.out hb).mono ?_
  rintro e w2 ⟨rfl, hp⟩
  have HP := Lib.hid hp
  clear hp
  go_wp2_with fail
  first | go_end0 | refine bodyPost_ret (results_none rfl _ _ _) rfl ?_
  exact ⟨rfl, HP.out⟩
set_option maxRecDepth 100000 in
set_option maxHeartbeats 16000000 in
theorem expr_31 {w0 : World} (w : World) (p : Nat) (nd fu todo out : Value) (R : List Part) (rest : List Res) (nodes : List Nd) (funcs : List Int) (a1 a2 a3 a4 a5 a6 a7 : Int) (nm : ByteArray) (ks : List Int) (kv : Value) (HT0 : TreeRd w0 nodes funcs nd fu) (hG : Good nodes) (hn : (⟨31, a1, a2, a3, a4, a5, a6, a7, nm, ks⟩ : Nd) ∈ nodes)
    (H : Hs (fun k => k < w0.heap.size) w0 w (.blk p 64 [nd, fu, todo, out] :: .row 67 4 todo R.length (partsC R) :: rest)) (hr : RdS w0 kv ks.length (ints ks)) (hb : R.length + 10 ≤ 1000000000) :
    Calls Tryd.prog 49 #[.pointer (some ⟨p, 0, none⟩), ndV (⟨31, a1, a2, a3, a4, a5, a6, a7, nm, ks⟩ : Nd) kv] w fun e w' => e = .returned (.tuple #[]) ∧ PS (fun k => k < w0.heap.size) w0 w' p nd fu out (R ++ (Tm.expression nodes (⟨31, a1, a2, a3, a4, a5, a6, a7, nm, ks⟩ : Nd)).reverse) rest := by
  have H1 := Lib.hid (H.alloc' (.cells #[.int .i64 31, .int .i64 a1, .int .i64 a2, .int .i64 a3, .int .i64 a4, .int .i64 a5, .int .i64 a6, .int .i64 a7, .string nm, kv] 45))
  have HT := Lib.hid HT0
  have HG := Lib.hid hG
  have HN := Lib.hid hn
  have HR := Lib.hid hr
  have hE : Tm.expression nodes (⟨31, a1, a2, a3, a4, a5, a6, a7, nm, ks⟩ : Nd) = Tm.operation nodes (⟨31, a1, a2, a3, a4, a5, a6, a7, nm, ks⟩ : Nd) := rfl
  rw [hE]
  clear H HT0 hG hn hr hE
  unfold ndV
  dsimp only
  go_enter Tryd.func49, Tryd.ntmps49
  go_wp2_with fail
  refine (operation_c _ p nd fu todo out R rest nodes funcs (⟨31, a1, a2, a3, a4, a5, a6, a7, nm, ks⟩ : Nd) kv HT.out HG.out HN.out (by first | exact .inl rfl | exact .inr (.inl rfl) | exact .inr (.inr rfl)) H1.out HR.out hb).mono ?_
  rintro e w2 ⟨rfl, hp⟩
  have HP := Lib.hid hp
  clear hp
  go_wp2_with fail
  first | go_end0 | refine bodyPost_ret (results_none rfl _ _ _) rfl ?_
  exact ⟨rfl, HP.out⟩
theorem expression_c {w0 : World} (w : World) (p : Nat) (nd fu todo out : Value) (R : List Part) (rest : List Res) (nodes : List Nd) (funcs : List Int) (n : Nd) (kv : Value) (htab : Tab w0) (HT0 : TreeRd w0 nodes funcs nd fu) (hG : Good nodes) (hn : n ∈ nodes) (hk : Tm.isE n.kind = true)
    (H : Hs (fun k => k < w0.heap.size) w0 w (.blk p 64 [nd, fu, todo, out] :: .row 67 4 todo R.length (partsC R) :: rest)) (hr : RdS w0 kv n.kids.length (ints n.kids)) (hb : R.length + 2 * n.kids.length + 10 ≤ 1000000000) :
    Calls Tryd.prog 49 #[.pointer (some ⟨p, 0, none⟩), ndV n kv] w fun e w' => e = .returned (.tuple #[]) ∧ PS (fun k => k < w0.heap.size) w0 w' p nd fu out (R ++ (Tm.expression nodes n).reverse) rest := by
  obtain ⟨hf, hko⟩ := hG.ok n hn
  have hv20 := fields_v20 hf
  have hval := hG.val n hn
  have hnm := hG.kids.nm n hn
  clear hf
  obtain ⟨k, a1, a2, a3, a4, a5, a6, a7, nm, ks⟩ := n
  dsimp only at hr hk hko hv20 hval hnm hb
  have hk' : k = 20 ∨ k = 21 ∨ k = 22 ∨ k = 23 ∨ k = 24 ∨ k = 25 ∨ k = 26 ∨ k = 27 ∨ k = 28 ∨ k = 29 ∨ k = 30 ∨ k = 31 := by
    unfold Tm.isE at hk
    simp only [Bool.and_eq_true, decide_eq_true_eq] at hk
    omega
  have hb6 : R.length + 6 ≤ 1000000000 := by omega
  have hb10 : R.length + 10 ≤ 1000000000 := by omega
  rcases hk' with rfl | rfl | rfl | rfl | rfl | rfl | rfl | rfl | rfl | rfl | rfl | rfl
  · exact expr_20 w p nd fu todo out R rest nodes a1 a2 a3 a4 a5 a6 a7 nm ks kv htab ⟨hv20 rfl, hval⟩ H hb6
  · exact expr_21 w p nd fu todo out R rest nodes a1 a2 a3 a4 a5 a6 a7 nm ks kv H hb6
  · exact expr_22 w p nd fu todo out R rest nodes a1 a2 a3 a4 a5 a6 a7 nm ks kv H hb6
  · exact expr_23 w p nd fu todo out R rest nodes a1 a2 a3 a4 a5 a6 a7 nm ks kv H hb6
  · exact expr_24 w p nd fu todo out R rest nodes a1 a2 a3 a4 a5 a6 a7 nm ks kv H hb6
  · exact expr_25 w p nd fu todo out R rest nodes a1 a2 a3 a4 a5 a6 a7 nm ks kv H hr hnm (by omega)
  · exact expr_26 w p nd fu todo out R rest nodes a1 a2 a3 a4 a5 a6 a7 nm ks kv H hb6
  · match ks, hko, hr with
    | [k0], _, hr => exact expr_27 w p nd fu todo out R rest nodes a1 a2 a3 a4 a5 a6 a7 nm k0 kv H hr hb6
    | [], hk, _ => exact absurd hk (by simp [Tm.kidsOk])
    | _ :: _ :: _, hk, _ => exact absurd hk (by simp [Tm.kidsOk])
  · match ks, hko, hr with
    | [k0], _, hr => exact expr_28 w p nd fu todo out R rest nodes a1 a2 a3 a4 a5 a6 a7 nm k0 kv H hr hb6
    | [], hk, _ => exact absurd hk (by simp [Tm.kidsOk])
    | _ :: _ :: _, hk, _ => exact absurd hk (by simp [Tm.kidsOk])
  · exact expr_29 w p nd fu todo out R rest nodes funcs a1 a2 a3 a4 a5 a6 a7 nm ks kv HT0 hG hn H hr hb10
  · exact expr_30 w p nd fu todo out R rest nodes funcs a1 a2 a3 a4 a5 a6 a7 nm ks kv HT0 hG hn H hr hb10
  · exact expr_31 w p nd fu todo out R rest nodes funcs a1 a2 a3 a4 a5 a6 a7 nm ks kv HT0 hG hn H hr hb10
theorem kinds_of {k : Int} {l : List Int} (h : Tm.kidsOk k l = true) (h2 : k ≠ 2) : k = 1 ∨ Tm.isS k = true ∨ Tm.isE k = true := by
  by_cases h1 : k = 1
  · exact .inl h1
  · right
    by_cases hs : Tm.isS k = true
    · exact .inl hs
    · right
      unfold Tm.isS at hs
      unfold Tm.isE
      simp only [Bool.and_eq_true, decide_eq_true_eq] at hs ⊢
      unfold Tm.kidsOk at h
      refine Decidable.byContradiction fun hne => ?_
      have hbad : ¬ (3 ≤ k ∧ k ≤ 14) ∧ ¬ (20 ≤ k ∧ k ≤ 31) := ⟨hs, hne⟩
      rw [if_neg h1, if_neg (by omega), if_neg (by omega), if_neg (by omega), if_neg (by omega), if_neg (by omega), if_neg (by omega), if_neg (by omega), if_neg (by omega), if_neg (by omega)] at h
      cases h
set_option maxRecDepth 100000 in
set_option maxHeartbeats 16000000 in
theorem node_c {w0 : World} (w : World) (p : Nat) (nd fu todo out : Value) (R : List Part) (rest : List Res) (nodes : List Nd) (funcs : List Int) (n : Nd) (kv : Value) (t : Nat) (htab : Tab w0) (HT0 : TreeRd w0 nodes funcs nd fu) (hG : Good nodes) (hn : n ∈ nodes) (h2 : n.kind ≠ 2)
    (H : Hs (fun k => k < w0.heap.size) w0 w (.blk p 64 [nd, fu, todo, out] :: .row 67 4 todo R.length (partsC R) :: rest)) (hr : RdS w0 kv n.kids.length (ints n.kids)) (hb : R.length + 2 * n.kids.length + 10 ≤ 1000000000) (ht : t ≤ 1000000000) :
    Calls Tryd.prog 32 #[.pointer (some ⟨p, 0, none⟩), ndV n kv, .int .i64 (t : Int)] w fun e w' => e = .returned (.tuple #[]) ∧ PS (fun k => k < w0.heap.size) w0 w' p nd fu out (R ++ (Tm.node nodes n t).reverse) rest := by
  have hE : Tm.node nodes n t = if n.kind = 1 then Tm.function nodes n else if n.kind = 3 then Tm.block n t else if Tm.isS n.kind = true then Tm.statement n t else Tm.expression nodes n := rfl
  obtain ⟨hf, hko⟩ := hG.ok n hn
  have hknd := kinds_of hko h2
  have hnm := hG.kids.nm n hn
  obtain ⟨PP, hPP⟩ : ∃ PP, PP = Tm.node nodes n t := ⟨_, rfl⟩
  rw [← hPP] at hE ⊢
  have HE := Lib.hid hE
  have HT := Lib.hid HT0
  have HG := Lib.hid hG
  have HN := Lib.hid hn
  have HR := Lib.hid hr
  have HTab := Lib.hid htab
  have HKo := Lib.hid hko
  have HKnd := Lib.hid hknd
  have H1 := Lib.hid (H.alloc' (.cells #[.int .i64 n.kind, .int .i64 n.at_, .int .i64 n.where_, .int .i64 n.close, .int .i64 n.decl, .int .i64 n.type, .int .i64 n.op, .int .i64 n.value, .string n.name, kv] 45))
  clear hE hf hko hknd hPP HT0 hG hn hr htab H h2
  unfold ndV
  cases e1 : (n.kind == 1) with
  | true =>
    have hk1 : n.kind = 1 := beq_iff_eq.1 e1
    have hp : Hid (PP = Tm.function nodes n) := Lib.hid (by rw [HE.out, if_pos hk1])
    have hne : Hid (n.kids ≠ []) := Lib.hid (fun h => by have := HKo.out; rw [h, hk1] at this; exact absurd this (by simp [Tm.kidsOk]))
    clear hk1
    go_enter Tryd.func32, Tryd.ntmps32
    go_wp2_with fail
    refine (function_c _ p nd fu todo out R rest nodes funcs n kv HT.out HG.out.kids HN.out H1.out HR.out (by omega) hne.out).mono ?_
    rintro e w2 ⟨rfl, hq⟩
    have HQ := Lib.hid hq
    clear hq
    go_wp2_with fail
    go_end0
    exact ⟨rfl, by rw [hp.out]; exact HQ.out⟩
  | false =>
    have n1 : Hid (¬ n.kind = 1) := Lib.hid (beq_eq_false_iff_ne.1 e1)
    cases e3 : (n.kind == 3) with
    | true =>
      have hk3 : n.kind = 3 := beq_iff_eq.1 e3
      have hp : Hid (PP = Tm.block n t) := Lib.hid (by rw [HE.out, if_neg n1.out, if_pos hk3])
      clear hk3
      go_enter Tryd.func32, Tryd.ntmps32
      go_wp2_with fail
      refine (block_c _ p nd fu todo out R rest n kv t H1.out HR.out (by omega) ht).mono ?_
      rintro e w2 ⟨rfl, hq⟩
      have HQ := Lib.hid hq
      clear hq
      go_wp2_with fail
      go_end0
      exact ⟨rfl, by rw [hp.out]; exact HQ.out⟩
    | false =>
      have n3 : Hid (¬ n.kind = 3) := Lib.hid (beq_eq_false_iff_ne.1 e3)
      cases es : Tm.isS n.kind with
      | true =>
        have hp : Hid (PP = Tm.statement n t) := Lib.hid (by rw [HE.out, if_neg n1.out, if_neg n3.out, if_pos es])
        go_enter Tryd.func32, Tryd.ntmps32
        go_wp2_with (first | (go_at_call 47; refine (isS_c _ _).mono ?_; rintro e w' ⟨rfl, rfl⟩))
        refine (statement_c _ p nd fu todo out R rest n kv t (Tm.kindOf nodes) H1.out (HR.out.fr (fr_of_kp H1.out.kp)) (by omega) hnm es n3.out HKo.out).mono ?_
        rintro e w2 ⟨rfl, hq⟩
        have HQ := Lib.hid hq
        clear hq
        go_wp2_with fail
        go_end0
        exact ⟨rfl, by rw [hp.out]; exact HQ.out⟩
      | false =>
        have hp : Hid (PP = Tm.expression nodes n) := Lib.hid (by rw [HE.out, if_neg n1.out, if_neg n3.out, if_neg (by rw [es]; simp)])
        have hE2 : Hid (Tm.isE n.kind = true) := Lib.hid (by rcases HKnd.out with h | h | h; exact absurd h n1.out; rw [es] at h; cases h; exact h)
        go_enter Tryd.func32, Tryd.ntmps32
        go_wp2_with (first | (go_at_call 47; refine (isS_c _ _).mono ?_; rintro e w' ⟨rfl, rfl⟩))
        refine (expression_c _ p nd fu todo out R rest nodes funcs n kv HTab.out HT.out HG.out HN.out hE2.out H1.out HR.out hb).mono ?_
        rintro e w2 ⟨rfl, hq⟩
        have HQ := Lib.hid hq
        clear hq
        go_wp2_with fail
        go_end0
        exact ⟨rfl, by rw [hp.out]; exact HQ.out⟩
end Go.Proofs.YtllahgnpjodgmaaDoor

set_option linter.unusedVariables false
namespace Go.Proofs.YtllahgnpjodgmaaDoor
open Pm
namespace Tm
variable {nodes : List Nd}

/-- The kinds of a node's kids, told one by one. -/
theorem len0 {l : List Int} {f : Int → Int} (h : ((l.map f).length == 0) = true) : l = [] := by
  rw [List.length_map, beq_iff_eq] at h; exact List.eq_nil_of_length_eq_zero h
theorem len1 {l : List Int} {f : Int → Int} (h : ((l.map f).length == 1) = true) : ∃ a, l = [a] := by
  rw [List.length_map, beq_iff_eq] at h
  match l, h with
  | [a], _ => exact ⟨a, rfl⟩
theorem len2 {l : List Int} {f : Int → Int} (h : ((l.map f).length == 2) = true) : ∃ a b, l = [a, b] := by
  rw [List.length_map, beq_iff_eq] at h
  match l, h with
  | [a, b], _ => exact ⟨a, b, rfl⟩
theorem len3 {l : List Int} {f : Int → Int} (h : ((l.map f).length == 3) = true) : ∃ a b c, l = [a, b, c] := by
  rw [List.length_map, beq_iff_eq] at h
  match l, h with
  | [a, b, c], _ => exact ⟨a, b, c, rfl⟩

/-- What is known of a node's kids' texts. -/
structure Kt (nodes : List Nd) (n : Nd) (f g : Int → Nat → List UInt8) : Prop where
  eq : ∀ k ∈ n.kids, kindOf nodes k ≠ 2 → ∀ t, f k t = g k t
  ex : ∀ k ∈ n.kids, isE (kindOf nodes k) = true → ∀ t t', g k t = g k t'
  pa : ∀ k ∈ n.kids, kindOf nodes k = 2 → ∀ t, g k t = nm (nodeAt nodes k) ++ [32] ++ typeName (nodeAt nodes k).decl

theorem rest25 {n : Nd} (hn : n.kind = 25) {g : Int → Nat → List UInt8} {b : Nat} (h0 : n.kids.length ≠ 0) : ∀ (l : List Int) (i : Nat), 0 < i → rest nodes g n b l i = l.flatMap (fun k => [44, 32] ++ g k b) ++ [41]
  | [], i, _ => by
    show behind n b = _
    unfold behind
    simp [hn, h0]
  | k :: l, i, hi => by
    show ahead nodes n i b ++ g k b ++ close nodes n i ++ rest nodes g n b l (i + 1) = _
    rw [rest25 hn h0 l (i + 1) (by omega)]
    have hi0 : i ≠ 0 := by omega
    simp [ahead, ahead0, close, around, hn, hi0]
theorem joined_cons {f : Int → Nat → List UInt8} (k : Int) : ∀ (l : List Int), (joined (k :: l)).flatMap (outP f) = f k 0 ++ l.flatMap (fun k => [44, 32] ++ f k 0)
  | [] => by simp [joined, outP]
  | x :: l => by
    show (Part.k k 0 :: .s [44, 32] :: joined (x :: l)).flatMap (outP f) = _
    rw [List.flatMap_cons, List.flatMap_cons, joined_cons x l, List.flatMap_cons]
    simp [outP]
theorem rest3 {n : Nd} (hn : n.kind = 3) {g : Int → Nat → List UInt8} {b : Nat} (h0 : n.kids.length ≠ 0) : ∀ (l : List Int) (i : Nat), 0 < i → rest nodes g n b l i = l.flatMap (fun k => line b ++ g k b) ++ (line (b - 1) ++ [125])
  | [], i, _ => by
    show behind n b = _
    unfold behind
    simp [hn, h0]
  | k :: l, i, hi => by
    show ahead nodes n i b ++ g k b ++ close nodes n i ++ rest nodes g n b l (i + 1) = _
    rw [rest3 hn h0 l (i + 1) (by omega)]
    have hi0 : i ≠ 0 := by omega
    simp [ahead, ahead0, close, around, hn, hi0]
theorem flatMap_congr' {α β : Type} {l : List α} {f g : α → List β} (h : ∀ x ∈ l, f x = g x) : l.flatMap f = l.flatMap g := by
  rw [List.flatMap_def, List.flatMap_def, List.map_congr_left h]
/-- A function's kids behind its first. -/
theorem rest1 {n : Nd} (hn : n.kind = 1) {g : Int → Nat → List UInt8} {b : Nat} (blk : Int) : ∀ (l : List Int) (i : Nat), 0 < i → i + l.length + 1 = n.kids.length →
    rest nodes g n b (l ++ [blk]) i = l.flatMap (fun k => [44, 32] ++ g k b) ++ (ahead0 n (n.kids.length - 1) b ++ g blk b ++ [10])
  | [], i, hi, hl => by
    have h1 : i + 1 = n.kids.length := by simpa using hl
    have hi0 : i ≠ 0 := by omega
    show ahead nodes n i b ++ g blk b ++ close nodes n i ++ behind n b = _
    rw [show n.kids.length - 1 = i by omega]
    simp [ahead, close, around, hn, behind]
  | k :: l, i, hi, hl => by
    have h1 : i + 1 ≠ n.kids.length := by simp at hl; omega
    have hi0 : i ≠ 0 := by omega
    show ahead nodes n i b ++ g k b ++ close nodes n i ++ rest nodes g n b (l ++ [blk]) (i + 1) = _
    rw [rest1 hn blk l (i + 1) (by omega) (by simp at hl; omega)]
    simp [ahead, ahead0, close, around, hn, h1, hi0]
theorem params_cons {f : Int → Nat → List UInt8} (k : Int) : ∀ (l : List Int), (params nodes (k :: l)).flatMap (outP f) = (nm (nodeAt nodes k) ++ [32] ++ typeName (nodeAt nodes k).decl) ++ l.flatMap (fun k => [44, 32] ++ (nm (nodeAt nodes k) ++ [32] ++ typeName (nodeAt nodes k).decl))
  | [] => by simp [params, outP]
  | x :: l => by
    show (Part.s (nm (nodeAt nodes k) ++ [32] ++ typeName (nodeAt nodes k).decl) :: .s [44, 32] :: params nodes (x :: l)).flatMap (outP f) = _
    rw [List.flatMap_cons, List.flatMap_cons, params_cons x l, List.flatMap_cons]
    simp [outP]
theorem typeName0_of {t : Int} (h : t ≠ 0) : typeName0 t = typeName t := by unfold typeName0; rw [if_neg h]

/-- Functions are nobody's kids. -/
theorem kids_ne1 {k : Int} {l : List Int} (hk : kidsOk k l = true) : (1 : Int) ∉ l := by
  intro hm
  unfold kidsOk at hk
  have hall : ∀ p : Int → Bool, p 1 = false → l.all p = true → False := fun p hp h => by
    have := List.all_eq_true.1 h _ hm
    rw [hp] at this; cases this
  have hlast : ∀ p : Int → Bool, p 1 = false → l.getLastD 0 = 3 → l.dropLast.all p = true → False := fun p hp h3 h4 => by
    have hne : l ≠ [] := fun h => by rw [h] at hm; cases hm
    have hsp := List.dropLast_concat_getLast hne
    rw [← hsp] at hm
    rcases List.mem_append.1 hm with hm | hm
    · have := List.all_eq_true.1 h4 _ hm; rw [hp] at this; cases this
    · rw [List.mem_singleton] at hm
      rw [List.getLastD_eq_getLast?, List.getLast?_eq_some_getLast hne, Option.getD_some, ← hm] at h3
      cases h3
  split at hk
  · rw [Bool.and_eq_true, Bool.and_eq_true, beq_iff_eq] at hk; exact hlast _ rfl hk.1.2 hk.2
  split at hk
  · exact hall _ rfl hk
  split at hk
  · rw [Bool.and_eq_true] at hk; exact hall _ rfl hk.2
  split at hk
  · rw [Bool.and_eq_true] at hk; exact hall _ rfl hk.2
  split at hk
  · rw [Bool.and_eq_true] at hk; exact hall _ rfl hk.2
  split at hk
  · rw [Bool.and_eq_true, beq_iff_eq, beq_iff_eq] at hk
    match l, hk.1, hm, hk.2 with
    | [a], _, hm, h => simp at hm h; omega
  split at hk
  · rw [Bool.and_eq_true, Bool.and_eq_true, Bool.and_eq_true] at hk
    obtain ⟨⟨⟨h1, h3⟩, h4⟩, h5⟩ := hk
    match l, hm with
    | a :: b :: r, hm =>
      simp only [List.headD_cons, List.getD_cons_succ, List.getD_cons_zero, List.drop_succ_cons, List.drop_zero] at h3 h4 h5
      rcases List.mem_cons.1 hm with rfl | hm
      · cases h3
      rcases List.mem_cons.1 hm with rfl | hm
      · cases h4
      · have := List.all_eq_true.1 h5 _ hm
        cases this
    | [a], hm => simp at h1
  split at hk
  · rw [Bool.and_eq_true, Bool.and_eq_true, beq_iff_eq] at hk; exact hlast _ rfl hk.1.2 hk.2
  split at hk
  · exact hall _ rfl hk
  split at hk
  · rw [beq_iff_eq] at hk
    rw [List.eq_nil_of_length_eq_zero hk] at hm; cases hm
  · cases hk
/-- Parameters are kids of functions alone. -/
theorem kids_ne2 {n : Nd} (hn : n.kind ≠ 1) (hk : kidsOk n.kind (n.kids.map (kindOf nodes)) = true) : ∀ k ∈ n.kids, kindOf nodes k ≠ 2 := by
  intro k hk1 h2
  have hm : (2 : Int) ∈ n.kids.map (kindOf nodes) := h2 ▸ List.mem_map_of_mem hk1
  generalize n.kids.map (kindOf nodes) = l at hk hm
  unfold kidsOk at hk
  rw [if_neg hn] at hk
  have hall : ∀ p : Int → Bool, p 2 = false → l.all p = true → False := fun p hp h => by
    have := List.all_eq_true.1 h _ hm
    rw [hp] at this; cases this
  split at hk
  · exact hall _ rfl hk
  split at hk
  · rw [Bool.and_eq_true] at hk; exact hall _ rfl hk.2
  split at hk
  · rw [Bool.and_eq_true] at hk; exact hall _ rfl hk.2
  split at hk
  · rw [Bool.and_eq_true] at hk; exact hall _ rfl hk.2
  split at hk
  · rw [Bool.and_eq_true, beq_iff_eq, beq_iff_eq] at hk
    match l, hk.1, hm, hk.2 with
    | [a], _, hm, h => simp at hm h; omega
  split at hk
  · rw [Bool.and_eq_true, Bool.and_eq_true, Bool.and_eq_true] at hk
    obtain ⟨⟨⟨h1, h3⟩, h4⟩, h5⟩ := hk
    match l, hm with
    | a :: b :: r, hm =>
      simp only [List.headD_cons, List.getD_cons_succ, List.getD_cons_zero, List.drop_succ_cons, List.drop_zero] at h3 h4 h5
      rcases List.mem_cons.1 hm with rfl | hm
      · cases h3
      rcases List.mem_cons.1 hm with rfl | hm
      · cases h4
      · have := List.all_eq_true.1 h5 _ hm
        cases this
    | [a], hm => simp at h1
  split at hk
  · rw [Bool.and_eq_true, Bool.and_eq_true] at hk
    obtain ⟨⟨h1, h3⟩, h4⟩ := hk
    have hne : l ≠ [] := fun h => by rw [h] at hm; cases hm
    have hsp := List.dropLast_concat_getLast hne
    rw [← hsp] at hm
    rcases List.mem_append.1 hm with hm | hm
    · have := List.all_eq_true.1 h4 _ hm; cases this
    · rw [List.mem_singleton] at hm
      rw [List.getLastD_eq_getLast?, List.getLast?_eq_some_getLast hne, Option.getD_some, ← hm] at h3
      cases h3
  split at hk
  · exact hall _ rfl hk
  split at hk
  · rw [beq_iff_eq] at hk
    rw [List.eq_nil_of_length_eq_zero hk] at hm; cases hm
  · cases hk
theorem node_eq {n : Nd} {f g : Int → Nat → List UInt8} (b : Nat) (hf : fields n = true) (hk : kidsOk n.kind (n.kids.map (kindOf nodes)) = true) (h : Kt nodes n f g) (h1 : n.kind = 1 → b = 0) (hn2 : n.kind ≠ 2) :
    (node nodes n b).flatMap (outP f) = rest nodes g n (inner n b) n.kids 0 := by
  have hne2 := fun c => kids_ne2 (nodes := nodes) c hk
  have hx : ∀ k ∈ n.kids, isE (kindOf nodes k) = true → ∀ t t', g k t = g k t' := h.ex
  unfold kidsOk at hk
  by_cases c1 : n.kind = 1
  · -- a function
    rw [if_pos c1] at hk
    rw [Bool.and_eq_true, Bool.and_eq_true, decide_eq_true_eq, List.length_map] at hk
    obtain ⟨⟨g1, g2⟩, g3⟩ := hk
    have hne : n.kids ≠ [] := fun hh => by rw [hh] at g1; cases g1
    obtain ⟨ps, blk, hps⟩ : ∃ ps blk, n.kids = ps ++ [blk] := ⟨n.kids.dropLast, n.kids.getLast hne, (List.dropLast_concat_getLast hne).symm⟩
    rw [hps, List.map_append, List.map_cons, List.map_nil, List.dropLast_concat] at g3
    have hbk : kindOf nodes blk ≠ 2 := by
      rw [hps, List.map_append, List.map_cons, List.map_nil, List.getLastD_concat, beq_iff_eq] at g2
      rw [g2]; decide
    have hpk : ∀ k ∈ ps, kindOf nodes k = 2 := fun k hk => by
      have := List.all_eq_true.1 g3 _ (List.mem_map_of_mem hk)
      simpa using this
    have hb := h1 c1
    subst hb
    have hin : inner n 0 = 0 := by unfold inner; rw [if_neg (by omega)]
    have hnode : (node nodes n 0).flatMap (outP f) = [102, 117, 110, 99, 32] ++ nm n ++ [40] ++ ((params nodes ps).flatMap (outP f) ++ ([41, 32] ++ typeName0 n.decl ++ (if n.decl = 0 then [] else [32]) ++ f blk 0 ++ [10])) := by
      unfold node function
      rw [if_pos c1, hps, List.dropLast_concat, List.getLastD_concat]
      by_cases c : n.decl = 0
      · simp [outP, c, typeName0]
      · simp [outP, c, typeName0]
    rw [hnode, hin, h.eq blk (by rw [hps]; simp) hbk]
    have hlast : ∀ i, i + 1 = n.kids.length → 0 < i → ahead0 n i 0 = [41, 32] ++ typeName0 n.decl ++ (if n.decl = 0 then [] else [32]) := fun i hi h0 => by
      unfold ahead0
      rw [if_pos c1, if_pos hi, if_pos h0, List.nil_append]
    cases ps with
    | nil =>
      have hl1 : n.kids.length = 1 := by rw [hps]; rfl
      rw [hps]
      show _ = ahead nodes n 0 0 ++ g blk 0 ++ close nodes n 0 ++ behind n 0
      unfold ahead ahead0 close around behind
      simp [c1, hl1, params, List.append_assoc]
    | cons p r =>
      have hL : n.kids.length = r.length + 2 := by rw [hps]; simp
      have hp1 : ∀ k ∈ p :: r, ∀ t, g k t = nm (nodeAt nodes k) ++ [32] ++ typeName (nodeAt nodes k).decl := fun k hk => h.pa k (by rw [hps]; exact List.mem_append_left _ hk) (hpk k hk)
      rw [params_cons]
      conv => rhs; rw [hps]
      show _ = ahead nodes n 0 0 ++ g p 0 ++ close nodes n 0 ++ rest nodes g n 0 (r ++ [blk]) 1
      rw [rest1 c1 blk r 1 (by omega) (by omega), hlast _ (by omega) (by omega), hp1 p (List.mem_cons_self ..), flatMap_congr' (l := r) (f := fun k => [44, 32] ++ g k 0) (g := fun k => [44, 32] ++ (nm (nodeAt nodes k) ++ [32] ++ typeName (nodeAt nodes k).decl)) (fun k hk => by rw [hp1 k (List.mem_cons_of_mem _ hk)])]
      have hn2 : ¬ (0 + 1 = n.kids.length) := by omega
      simp [ahead, ahead0, close, around, c1, hn2, List.append_assoc]
  rw [if_neg c1] at hk
  have he : ∀ k ∈ n.kids, ∀ t, f k t = g k t := fun k hk' => h.eq k hk' (hne2 c1 k hk')
  by_cases c3 : n.kind = 3
  · -- a block
    have hin : inner n b = b + 1 := by unfold inner; rw [if_pos c3]
    have hnode : (node nodes n b).flatMap (outP f) = [123] ++ (n.kids.flatMap (fun k => line (b + 1) ++ g k (b + 1)) ++ (line b ++ [125])) := by
      unfold node block
      rw [if_neg c1, if_pos c3, List.flatMap_cons, List.flatMap_append, List.flatMap_assoc, flatMap_congr' (l := n.kids) (g := fun k => line (b + 1) ++ g k (b + 1)) (fun k hk => by
        rw [List.flatMap_cons, List.flatMap_cons, List.flatMap_nil, List.append_nil]
        show line (b + 1) ++ f k (b + 1) = _
        rw [he k hk])]
      simp [outP, line]
    rw [hnode, hin]
    cases hkk : n.kids with
    | nil =>
      show _ = behind n (b + 1)
      unfold behind
      simp [c3, hkk]
    | cons k r =>
      have h0 : n.kids.length ≠ 0 := by rw [hkk]; simp
      show _ = ahead nodes n 0 (b + 1) ++ g k (b + 1) ++ close nodes n 0 ++ rest nodes g n (b + 1) r 1
      rw [rest3 c3 h0 r 1 (by omega)]
      simp [ahead, ahead0, close, around, c3]
  rw [if_neg c3] at hk
  have hin : inner n b = b := by unfold inner; rw [if_neg c3]
  rw [hin]
  by_cases c4 : n.kind = 4 ∨ n.kind = 12
  · rw [if_pos c4, Bool.and_eq_true, decide_eq_true_eq, List.length_map] at hk
    have hS : isS n.kind = true := by rcases c4 with c | c <;> rw [c] <;> rfl
    cases hkk : n.kids with
    | nil =>
      rcases c4 with c | c
      · have hd : n.decl ≠ 0 := by
          unfold fields at hf
          rw [c] at hf
          intro hd
          rw [hd] at hf
          simp at hf
        show _ = behind n b
        simp [node, statement, behind, c, hkk, outP, isS, typeName0_of hd]
      · show _ = behind n b
        simp [node, statement, behind, c, hkk, outP, isS]
    | cons k r =>
      have hr : r = [] := by
        have := hk.1
        rw [hkk] at this
        simpa using this
      subst hr
      have hek := he k (by rw [hkk]; simp)
      rcases c4 with c | c
      · have hd : n.decl ≠ 0 := by
          unfold fields at hf
          rw [c] at hf
          intro hd
          rw [hd] at hf
          simp at hf
        show _ = ahead nodes n 0 b ++ g k b ++ close nodes n 0 ++ behind n b
        simp [node, statement, behind, ahead, ahead0, close, around, c, hkk, outP, isS, typeName0_of hd, hek]
      · show _ = ahead nodes n 0 b ++ g k b ++ close nodes n 0 ++ behind n b
        simp [node, statement, behind, ahead, ahead0, close, around, c, hkk, outP, isS, hek]
  rw [if_neg c4] at hk
  by_cases c5 : n.kind = 5 ∨ n.kind = 8 ∨ n.kind = 9 ∨ n.kind = 27 ∨ n.kind = 28 ∨ n.kind = 30
  · rw [if_pos c5, Bool.and_eq_true] at hk
    obtain ⟨a, ha⟩ := len1 hk.1
    have hea := he a (by rw [ha]; simp)
    have hE : isE (kindOf nodes a) = true := by
      have := hk.2
      rw [ha] at this
      simpa using this
    have hxa := hx a (by rw [ha]; simp) hE
    have hx0 : g a 0 = g a b := hxa 0 b
    rw [ha]
    show _ = ahead nodes n 0 b ++ g a b ++ close nodes n 0 ++ behind n b
    rcases c5 with c | c | c | c | c | c
    · simp [node, statement, behind, ahead, ahead0, close, around, c, ha, outP, isS, hea]
    · simp [node, statement, behind, ahead, ahead0, close, around, c, ha, outP, isS, hea]
    · simp [node, statement, behind, ahead, ahead0, close, around, c, ha, outP, isS, hea]
    · simp [node, expression, behind, ahead, ahead0, close, around, c, ha, outP, isS, hea, hx0]
    · simp [node, expression, behind, ahead, ahead0, close, around, c, ha, outP, isS, hea, hx0]
    · by_cases q : level (nodeAt nodes a) < 6
      · simp [node, expression, operation, value, behind, ahead, ahead0, close, around, c, ha, outP, isS, hea, hx0, q]
      · simp [node, expression, operation, value, behind, ahead, ahead0, close, around, c, ha, outP, isS, hea, hx0, q]
  rw [if_neg c5] at hk
  by_cases c6 : n.kind = 6 ∨ n.kind = 29 ∨ n.kind = 31
  · rw [if_pos c6, Bool.and_eq_true] at hk
    obtain ⟨a, a2, ha⟩ := len2 hk.1
    have hea := he a (by rw [ha]; simp)
    have hea2 := he a2 (by rw [ha]; simp)
    have hE : isE (kindOf nodes a) = true ∧ isE (kindOf nodes a2) = true := by
      have := hk.2
      rw [ha] at this
      simpa using this
    have hx0 : g a 0 = g a b := hx a (by rw [ha]; simp) hE.1 0 b
    have hx1 : g a2 0 = g a2 b := hx a2 (by rw [ha]; simp) hE.2 0 b
    rw [ha]
    show _ = ahead nodes n 0 b ++ g a b ++ close nodes n 0 ++ (ahead nodes n 1 b ++ g a2 b ++ close nodes n 1 ++ behind n b)
    rcases c6 with c | c | c
    · simp [node, statement, behind, ahead, ahead0, close, around, c, ha, outP, isS, hea, hea2]
    · by_cases q : level (nodeAt nodes a) < 7
      · simp [node, expression, operation, value, behind, ahead, ahead0, close, around, c, ha, outP, isS, hea, hea2, hx0, hx1, q]
      · simp [node, expression, operation, value, behind, ahead, ahead0, close, around, c, ha, outP, isS, hea, hea2, hx0, hx1, q]
    · by_cases q : level (nodeAt nodes a) < level n ∨ (level (nodeAt nodes a) = 3 ∧ level n = 3)
      · by_cases q2 : level (nodeAt nodes a2) ≤ level n
        · simp [node, expression, operation, value, behind, ahead, ahead0, close, around, c, ha, outP, isS, hea, hea2, hx0, hx1, q, q2]
        · simp [node, expression, operation, value, behind, ahead, ahead0, close, around, c, ha, outP, isS, hea, hea2, hx0, hx1, q, q2]
      · by_cases q2 : level (nodeAt nodes a2) ≤ level n
        · simp [node, expression, operation, value, behind, ahead, ahead0, close, around, c, ha, outP, isS, hea, hea2, hx0, hx1, q, q2]
        · simp [node, expression, operation, value, behind, ahead, ahead0, close, around, c, ha, outP, isS, hea, hea2, hx0, hx1, q, q2]
  rw [if_neg c6] at hk
  by_cases c7 : n.kind = 7
  · rw [if_pos c7, Bool.and_eq_true] at hk
    obtain ⟨a, ha⟩ := len1 hk.1
    have hea := he a (by rw [ha]; simp)
    rw [ha]
    show _ = ahead nodes n 0 b ++ g a b ++ close nodes n 0 ++ behind n b
    simp [node, statement, behind, ahead, ahead0, close, around, c7, ha, outP, isS, hea]
  rw [if_neg c7] at hk
  by_cases c8 : n.kind = 10
  · rw [if_pos c8, Bool.and_eq_true, Bool.and_eq_true, Bool.and_eq_true, Bool.or_eq_true] at hk
    rcases hk.1.1.1 with hl | hl
    · obtain ⟨a, a2, ha⟩ := len2 hl
      have hea := he a (by rw [ha]; simp)
      have hea2 := he a2 (by rw [ha]; simp)
      rw [ha]
      show _ = ahead nodes n 0 b ++ g a b ++ close nodes n 0 ++ (ahead nodes n 1 b ++ g a2 b ++ close nodes n 1 ++ behind n b)
      simp [node, statement, behind, ahead, ahead0, close, around, c8, ha, outP, isS, hea, hea2]
    · obtain ⟨a, a2, a3, ha⟩ := len3 hl
      have hea := he a (by rw [ha]; simp)
      have hea2 := he a2 (by rw [ha]; simp)
      have hea3 := he a3 (by rw [ha]; simp)
      rw [ha]
      show _ = ahead nodes n 0 b ++ g a b ++ close nodes n 0 ++ (ahead nodes n 1 b ++ g a2 b ++ close nodes n 1 ++ (ahead nodes n 2 b ++ g a3 b ++ close nodes n 2 ++ behind n b))
      simp [node, statement, behind, ahead, ahead0, close, around, c8, ha, outP, isS, hea, hea2, hea3]
  rw [if_neg c8] at hk
  by_cases c9 : n.kind = 11
  · rw [if_pos c9, Bool.and_eq_true, Bool.and_eq_true, Bool.or_eq_true] at hk
    rcases hk.1.1 with hl | hl
    · obtain ⟨a, ha⟩ := len1 hl
      have hea := he a (by rw [ha]; simp)
      rw [ha]
      show _ = ahead nodes n 0 b ++ g a b ++ close nodes n 0 ++ behind n b
      simp [node, statement, behind, ahead, ahead0, close, around, c9, ha, outP, isS, hea]
    · obtain ⟨a, a2, ha⟩ := len2 hl
      have hea := he a (by rw [ha]; simp)
      have hea2 := he a2 (by rw [ha]; simp)
      rw [ha]
      show _ = ahead nodes n 0 b ++ g a b ++ close nodes n 0 ++ (ahead nodes n 1 b ++ g a2 b ++ close nodes n 1 ++ behind n b)
      simp [node, statement, behind, ahead, ahead0, close, around, c9, ha, outP, isS, hea, hea2]
  rw [if_neg c9] at hk
  by_cases c10 : n.kind = 25
  · rw [if_pos c10] at hk
    have hE : ∀ k ∈ n.kids, isE (kindOf nodes k) = true := fun k hk' => List.all_eq_true.1 hk _ (List.mem_map_of_mem hk')
    have hx0 : ∀ k ∈ n.kids, f k 0 = g k b := fun k hk' => (he k hk' 0).trans (hx k hk' (hE k hk') 0 b)
    have hnode : (node nodes n b).flatMap (outP f) = nm n ++ [40] ++ ((joined n.kids).flatMap (outP f) ++ [41]) := by
      simp [node, expression, c10, isS, outP]
    rw [hnode]
    cases hkk : n.kids with
    | nil =>
      show _ = behind n b
      simp [behind, c10, hkk, joined]
    | cons k r =>
      have h0 : n.kids.length ≠ 0 := by rw [hkk]; simp
      show _ = ahead nodes n 0 b ++ g k b ++ close nodes n 0 ++ rest nodes g n b r 1
      rw [rest25 c10 h0 r 1 (by omega), joined_cons, hx0 k (by rw [hkk]; simp), flatMap_congr' (l := r) (g := fun k => [44, 32] ++ g k b) (fun x hx' => by rw [hx0 x (by rw [hkk]; exact List.mem_cons_of_mem _ hx')])]
      simp [ahead, ahead0, close, around, c10]
  rw [if_neg c10] at hk
  by_cases c11 : n.kind = 2 ∨ n.kind = 13 ∨ n.kind = 14 ∨ n.kind = 20 ∨ n.kind = 21 ∨ n.kind = 22 ∨ n.kind = 23 ∨ n.kind = 24 ∨ n.kind = 26
  · rw [if_pos c11] at hk
    have ha := len0 hk
    rw [ha]
    show _ = behind n b
    rcases c11 with c | c | c | c | c | c | c | c | c
    · exact absurd c hn2
    · simp [node, statement, behind, c, outP, isS]
    · simp [node, statement, behind, c, outP, isS]
    · simp [node, expression, behind, c, outP, isS]
    · simp [node, expression, behind, c, outP, isS]
    · simp [node, expression, behind, c, outP, isS]
    · simp [node, expression, behind, c, outP, isS]
    · simp [node, expression, behind, c, outP, isS]
    · simp [node, expression, behind, c, outP, isS]
  rw [if_neg c11] at hk
  cases hk

theorem kind_nodeAt (k : Int) : kindOf nodes k = (nodeAt nodes k).kind := rfl
/-- An expression's text has no lines. -/
theorem rtx_ex (hg : ∀ n ∈ nodes, fields n = true ∧ kidsOk n.kind (n.kids.map (kindOf nodes)) = true) : ∀ (d : Nat) (k : Int), isE (kindOf nodes k) = true → ∀ t t', rtx nodes d k t = rtx nodes d k t'
  | 0, k, _, t, t' => rfl
  | d + 1, k, hE, t, t' => by
    show rest nodes (rtx nodes d) (nodeAt nodes k) (inner (nodeAt nodes k) t) (nodeAt nodes k).kids 0 = rest nodes (rtx nodes d) (nodeAt nodes k) (inner (nodeAt nodes k) t') (nodeAt nodes k).kids 0
    rw [kind_nodeAt] at hE
    have hmem : nodeAt nodes k ∈ nodes := by
      unfold nodeAt at hE ⊢
      rcases Nat.lt_or_ge k.toNat nodes.length with h | h
      · rw [getD_get h]; exact List.getElem_mem h
      · rw [getD_out h] at hE; cases hE
    have hk := (hg _ hmem).2
    generalize nodeAt nodes k = n at *
    have hr : ∃ v, n.kind = v ∧ 20 ≤ v ∧ v ≤ 31 := by
      unfold isE at hE; rw [Bool.and_eq_true, decide_eq_true_eq, decide_eq_true_eq] at hE
      exact ⟨_, rfl, hE.1, hE.2⟩
    obtain ⟨v, hv, v1, v2⟩ := hr
    have hc3 : n.kind ≠ 3 := by omega
    have hc1 : ¬ n.kind = 1 := by omega
    have hc2 : ¬ n.kind = 2 := by omega
    have hin : ∀ b, inner n b = b := fun b => by unfold inner; rw [if_neg hc3]
    rw [hin, hin]
    have hkE : ∀ x ∈ n.kids, isE (kindOf nodes x) = true := by
      intro x hx
      have hm := List.mem_map_of_mem (f := kindOf nodes) hx
      unfold kidsOk at hk
      rw [if_neg (by omega), if_neg hc3, if_neg (by omega)] at hk
      split at hk
      · rw [Bool.and_eq_true] at hk; exact List.all_eq_true.1 hk.2 _ hm
      split at hk
      · rw [Bool.and_eq_true] at hk; exact List.all_eq_true.1 hk.2 _ hm
      rw [if_neg (by omega), if_neg (by omega), if_neg (by omega)] at hk
      split at hk
      · exact List.all_eq_true.1 hk _ hm
      split at hk
      · rw [beq_iff_eq, List.length_map] at hk
        rw [List.eq_nil_of_length_eq_zero hk] at hx; cases hx
      · cases hk
    have ha : ∀ i b b', ahead nodes n i b = ahead nodes n i b' := fun i b b' => by
      unfold ahead ahead0
      simp only [if_neg hc1, if_neg hc3]
    have hb : ∀ b b', behind n b = behind n b' := fun b b' => by
      unfold behind
      simp only [if_neg hc1, if_neg hc2, if_neg hc3]
    have hall : ∀ (l : List Int) (i : Nat), (∀ x ∈ l, isE (kindOf nodes x) = true) → rest nodes (rtx nodes d) n t l i = rest nodes (rtx nodes d) n t' l i := by
      intro l
      induction l with
      | nil => exact fun i _ => hb t t'
      | cons x r ih =>
        intro i hx
        show ahead nodes n i t ++ rtx nodes d x t ++ close nodes n i ++ rest nodes (rtx nodes d) n t r (i + 1) = ahead nodes n i t' ++ rtx nodes d x t' ++ close nodes n i ++ rest nodes (rtx nodes d) n t' r (i + 1)
        rw [ha i t t', rtx_ex hg d x (hx x (List.mem_cons_self ..)) t t', ih (i + 1) fun y hy => hx y (List.mem_cons_of_mem _ hy)]
    exact hall n.kids 0 hkE
theorem rtx_param (hg : ∀ n ∈ nodes, fields n = true ∧ kidsOk n.kind (n.kids.map (kindOf nodes)) = true) (d : Nat) (k : Int) (h2 : kindOf nodes k = 2) (t : Nat) : rtx nodes (d + 1) k t = nm (nodeAt nodes k) ++ [32] ++ typeName (nodeAt nodes k).decl := by
  rw [kind_nodeAt] at h2
  have hmem : nodeAt nodes k ∈ nodes := by
    unfold nodeAt at h2 ⊢
    rcases Nat.lt_or_ge k.toNat nodes.length with h | h
    · rw [getD_get h]; exact List.getElem_mem h
    · rw [getD_out h] at h2; cases h2
  have hk := (hg _ hmem).2
  have hf := (hg _ hmem).1
  show rest nodes (rtx nodes d) (nodeAt nodes k) (inner (nodeAt nodes k) t) (nodeAt nodes k).kids 0 = _
  generalize nodeAt nodes k = n at *
  have hnil : n.kids = [] := by
    rw [h2] at hk
    exact len0 (f := kindOf nodes) hk
  have hd : n.decl ≠ 0 := by
    unfold fields at hf
    rw [h2] at hf
    intro hd
    rw [hd] at hf
    simp at hf
  rw [hnil]
  show behind n _ = _
  unfold behind
  rw [if_neg (by omega), if_pos h2, typeName0_of hd]
theorem nodeAt_mem {k : Int} (h0 : 0 ≤ k) (h : k < (nodes.length : Int)) : nodeAt nodes k ∈ nodes := by
  unfold nodeAt
  rw [getD_get (by omega)]
  exact List.getElem_mem _
theorem tx_eq {funcs : List Int} (h : Ok nodes funcs) : ∀ (d : Nat) (k : Int) (t : Nat), 0 ≤ k → k < (nodes.length : Int) → k.toNat < d → kindOf nodes k ≠ 2 → (kindOf nodes k = 1 → t = 0) → tx nodes d k t = rtx nodes d k t
  | 0, k, t, _, _, hd, _, _ => by omega
  | d + 1, k, t, h0, hl, hd, h2, h1 => by
    have hm := h.each _ (nodeAt_mem h0 hl)
    have hlow := h.low' k.toNat
    have hkids : ∀ x ∈ (nodeAt nodes k).kids, 0 ≤ x ∧ x < k := fun x hx => by have := hlow x hx; omega
    refine node_eq t hm.1 hm.2 ⟨?_, ?_, ?_⟩ h1 h2
    · intro x hx hx2 t'
      obtain ⟨g0, g1⟩ := hkids x hx
      refine tx_eq h d x t' g0 (by omega) (by omega) hx2 ?_
      intro hx1
      exfalso
      have hmm := List.mem_map_of_mem (f := kindOf nodes) hx
      rw [hx1] at hmm
      exact kids_ne1 hm.2 hmm
    · intro x hx hE
      exact rtx_ex h.each d x hE
    · intro x hx hx2 t'
      obtain ⟨g0, g1⟩ := hkids x hx
      obtain ⟨e, rfl⟩ : ∃ e, d = e + 1 := ⟨d - 1, by omega⟩
      exact rtx_param h.each e x hx2 t'
/-- The document's text. -/
def refPrint (nodes : List Nd) (funcs : List Int) : List UInt8 := funcs.flatMap fun f => rtx nodes (nodes.length + 1) f 0
theorem print_same {funcs : List Int} (h : Ok nodes funcs) : refPrint nodes funcs = print nodes funcs := by
  unfold refPrint print text
  rw [List.flatMap_map]
  refine flatMap_congr' fun f hf => ?_
  have h1 : kindOf nodes f = 1 := by simpa using List.all_eq_true.1 h.funcs f hf
  have hl := (h.fo.mem f.toNat (List.mem_map_of_mem hf)).2
  exact (tx_eq h _ f 0 (h.nn f hf) (by omega) (by omega) (by rw [h1]; decide) fun _ => rfl).symm
end Tm
end Go.Proofs.YtllahgnpjodgmaaDoor
