/- strconv.Itoa at this program: the library's contract, laid. (This text was written by the kit's own tool out of the program's numbers; for another seat: wip/tools/lay.sh.)
The printer's expressions and nodes. -/
import Derived.Shelf.Strconv.Itoa3
import Derived.Test.YtllahgnpjodgmaaDoorBa
import Derived.Test.YtllahgnpjodgmaaDoorUd
import Derived.BarOnce
set_option linter.unusedVariables false
namespace Go.Proofs.YtllahgnpjodgmaaDoor
open Go Go.Shelf
def itoaRen : Go.Shelf.Ren := ⟨fun | 171 => 73 | 243 => 80 | 246 => 85 | 283 => 86 | 284 => 87 | 285 => 88 | 286 => 89 | 129 => 91 | 317 => 90 | 318 => 92 | 319 => 93 | 320 => 94 | 337 => 95 | 338 => 96 | n => n, fun | 3 => 3 | 9 => 9 | 2 => 2 | 4 => 4 | 171 => 100 | 0 => 0 | 53 => 101 | 37 => 30 | 5 => 5 | 173 => 104 | 212 => 108 | 51 => 109 | 20 => 20 | 213 => 110 | 46 => 111 | 232 => 114 | 233 => 115 | n => n, fun | 17 => 0 | 18 => 1 | 19 => 2 | n => n⟩
theorem itoaLays : Go.Proofs.LaysM.n171 Tryd.prog itoaRen := {
  mixed := by kernel_rfl
  f129 := Tryd.func91.trans (congrArg some (by kernel_rfl))
  f171 := Tryd.func73.trans (congrArg some (by kernel_rfl))
  f243 := Tryd.func80.trans (congrArg some (by kernel_rfl))
  f246 := Tryd.func85.trans (congrArg some (by kernel_rfl))
  f283 := Tryd.func86.trans (congrArg some (by kernel_rfl))
  f284 := Tryd.func87.trans (congrArg some (by kernel_rfl))
  f285 := Tryd.func88.trans (congrArg some (by kernel_rfl))
  f286 := Tryd.func89.trans (congrArg some (by kernel_rfl))
  f317 := Tryd.func90.trans (congrArg some (by kernel_rfl))
  f318 := Tryd.func92.trans (congrArg some (by kernel_rfl))
  f319 := Tryd.func93.trans (congrArg some (by kernel_rfl))
  f320 := Tryd.func94.trans (congrArg some (by kernel_rfl))
  f337 := Tryd.func95.trans (congrArg some (by kernel_rfl))
  f338 := Tryd.func96.trans (congrArg some (by kernel_rfl))
  t0 := Tryd.underlying0
  a0 := Tryd.isAgg0
  z0 := Tryd.sizeOf0
  v0 := Tryd.zeroValue0
  t2 := Tryd.underlying2
  a2 := Tryd.isAgg2
  z2 := Tryd.sizeOf2
  v2 := Tryd.zeroValue2
  t3 := Tryd.underlying3
  a3 := Tryd.isAgg3
  z3 := Tryd.sizeOf3
  v3 := Tryd.zeroValue3
  t4 := Tryd.underlying4
  a4 := Tryd.isAgg4
  z4 := Tryd.sizeOf4
  v4 := Tryd.zeroValue4
  t5 := Tryd.underlying5
  a5 := Tryd.isAgg5
  z5 := Tryd.sizeOf5
  v5 := Tryd.zeroValue5
  t9 := Tryd.underlying9
  a9 := Tryd.isAgg9
  z9 := Tryd.sizeOf9
  v9 := Tryd.zeroValue9
  t20 := Tryd.underlying20
  a20 := Tryd.isAgg20
  z20 := Tryd.sizeOf20
  v20 := Tryd.zeroValue20
  t37 := Tryd.underlying30
  a37 := Tryd.isAgg30
  z37 := Tryd.sizeOf30
  v37 := Tryd.zeroValue30
  t46 := Tryd.underlying111
  a46 := Tryd.isAgg111
  z46 := Tryd.sizeOf111
  v46 := Tryd.zeroValue111
  t51 := Tryd.underlying109
  a51 := Tryd.isAgg109
  z51 := Tryd.sizeOf109
  v51 := Tryd.zeroValue109
  t53 := Tryd.underlying101
  a53 := Tryd.isAgg101
  z53 := Tryd.sizeOf101
  v53 := Tryd.zeroValue101
  t171 := Tryd.underlying100
  a171 := Tryd.isAgg100
  z171 := Tryd.sizeOf100
  v171 := Tryd.zeroValue100
  t173 := Tryd.underlying104
  a173 := Tryd.isAgg104
  z173 := Tryd.sizeOf104
  v173 := Tryd.zeroValue104
  t212 := Tryd.underlying108
  a212 := Tryd.isAgg108
  z212 := Tryd.sizeOf108
  v212 := Tryd.zeroValue108
  t213 := Tryd.underlying110
  a213 := Tryd.isAgg110
  z213 := Tryd.sizeOf110
  t232 := Tryd.underlying114
  a232 := Tryd.isAgg114
  z232 := Tryd.sizeOf114
  v232 := Tryd.zeroValue114
  t233 := Tryd.underlying115
  a233 := Tryd.isAgg115
  z233 := Tryd.sizeOf115
  v233 := Tryd.zeroValue115
  g17 := by kernel_rfl
  g18 := by kernel_rfl
  g19 := by kernel_rfl
  i0 := by kernel_rfl
  i2 := by kernel_rfl
  i3 := by kernel_rfl
  i4 := by kernel_rfl
  i5 := by kernel_rfl
  i9 := by kernel_rfl
  i20 := by kernel_rfl
  i37 := by kernel_rfl
  i46 := by kernel_rfl
  i51 := by kernel_rfl
  i53 := by kernel_rfl
  i171 := by kernel_rfl
  i173 := by kernel_rfl
  i212 := by kernel_rfl
  i232 := by kernel_rfl
  i233 := by kernel_rfl
  m17 := by kernel_rfl
  m18 := by kernel_rfl
  m19 := by kernel_rfl }
open Mem
theorem itoa_c (n : Int) (h0 : -9223372036854775808 ≤ n) (h1 : n ≤ 9223372036854775807) (w : World) (htab : Lib.TabIs Tryd.prog w "internal/strconv.uint64pow10" .u64 Lib.pow10Tab) :
    Calls Tryd.prog 73 #[.int .i64 n] w fun e w' => e = .returned (.string ⟨(Lib.itoa n).toArray⟩) ∧ Fr w w' := by
  refine (Go.Proofs.Any.strconv_Itoa itoaLays n h0 h1 w htab).mono ?_
  rintro e w' ⟨rfl, k, os, rfl⟩
  refine ⟨rfl, (Ch.refl _ _).drewN k |>.trans ⟨rfl, rfl, rfl, ?_, fun j hj _ => ?_⟩⟩
  · show (w.drewN k).heap.size ≤ ((w.drewN k).heap ++ os).size
    rw [Array.size_append]; omega
  · show ((w.drewN k).heap ++ os)[j]? = (w.drewN k).heap[j]?
    exact Array.getElem?_append_left hj
end Go.Proofs.YtllahgnpjodgmaaDoor

set_option linter.unusedVariables false
namespace Go.Proofs.YtllahgnpjodgmaaDoor
open Go Go.RowKit Mem Pm
open Tm (Part)
/-- The library's table of powers of ten lies in memory. -/
abbrev Tab (w : World) : Prop := Lib.TabIs Tryd.prog w "internal/strconv.uint64pow10" .u64 Lib.pow10Tab
theorem tab_fr {w w' : World} (h : Tab w) (hf : Fr w w') : Tab w' := by
  unfold Tab Lib.TabIs World.var? at h ⊢
  cases hg : Tryd.prog.globalNamed "internal/strconv.uint64pow10" with
  | none => rw [hg] at h; cases h
  | some g =>
    rw [hg] at h
    simp only [Option.bind_some] at h ⊢
    have hlt : g < w.heap.size := by
      rcases Nat.lt_or_ge g w.heap.size with h1 | h1
      · exact h1
      · rw [Array.getElem?_eq_none h1] at h; cases h
    rw [hf.block g hlt id]
    exact h
/-- What a tree is, as far as printing goes. -/
structure Good (nodes : List Nd) : Prop where
  kids : Kids nodes
  val : ∀ n ∈ nodes, n.value ≤ 9223372036854775807
  ok : ∀ n ∈ nodes, Tm.fields n = true ∧ Tm.kidsOk n.kind (n.kids.map (Tm.kindOf nodes)) = true
theorem fields_op30 {n : Nd} (h : Tm.fields n = true) (hk : n.kind = 30) : 20 ≤ n.op ∧ n.op ≤ 22 := by
  unfold Tm.fields at h
  simp only [hk, Bool.and_eq_true] at h
  have := h.1.1.1.2
  simpa using this
theorem fields_op31 {n : Nd} (h : Tm.fields n = true) (hk : n.kind = 31) : 1 ≤ n.op ∧ n.op ≤ 19 := by
  unfold Tm.fields at h
  simp only [hk, Bool.and_eq_true] at h
  have := h.1.1.1.2
  simpa using this
theorem fields_v20 {n : Nd} (h : Tm.fields n = true) (hk : n.kind = 20) : 0 ≤ n.value := by
  unfold Tm.fields at h
  simp only [hk, Bool.and_eq_true] at h
  have := h.1.1.2
  simpa using this
set_option maxRecDepth 100000 in
set_option maxHeartbeats 16000000 in
theorem expr_20 {w0 : World} (w : World) (p : Nat) (nd fu todo out : Value) (R : List Part) (rest : List Res) (nodes : List Nd) (a1 a2 a3 a4 a5 a6 a7 : Int) (nm : ByteArray) (ks : List Int) (kv : Value) (htab : Tab w0) (hv : 0 ≤ a7 ∧ a7 ≤ 9223372036854775807)
    (H : Hs (fun k => k < w0.heap.size) w0 w (.blk p 64 [nd, fu, todo, out] :: .row 67 4 todo R.length (partsC R) :: rest)) (hb : R.length + 6 ≤ 1000000000) :
    Calls Tryd.prog 49 #[.pointer (some ⟨p, 0, none⟩), ndV (⟨20, a1, a2, a3, a4, a5, a6, a7, nm, ks⟩ : Nd) kv] w fun e w' => e = .returned (.tuple #[]) ∧ PS (fun k => k < w0.heap.size) w0 w' p nd fu out (R ++ (Tm.expression nodes (⟨20, a1, a2, a3, a4, a5, a6, a7, nm, ks⟩ : Nd)).reverse) rest := by
  have H1 := Lib.hid (H.alloc' (.cells #[.int .i64 20, .int .i64 a1, .int .i64 a2, .int .i64 a3, .int .i64 a4, .int .i64 a5, .int .i64 a6, .int .i64 a7, .string nm, kv] 45))
  have HTab := Lib.hid htab
  clear H htab
  unfold ndV
  dsimp only
  go_enter Tryd.func49, Tryd.ntmps49
  go_wp2_with (first | (go_at_call 69; refine (say_c _ _).mono ?_; rintro e w' ⟨rfl, hf⟩; replace H1 := Lib.hid (H1.out.ch0 hf); clear hf) | (go_at_call 73; refine (itoa_c a7 (by omega) (by omega) _ (tab_fr HTab.out (fr_of_kp H1.out.kp))).mono ?_; rintro e w' ⟨rfl, hf⟩; replace H1 := Lib.hid (H1.out.ch0 hf); clear hf))
  refine (put_lit _ p nd fu todo out R rest (Tm.expression nodes (⟨20, a1, a2, a3, a4, a5, a6, a7, nm, ks⟩ : Nd)) _ rfl 1 rfl H1.out hb (by decide)).mono ?_
  rintro e w2 ⟨rfl, hp⟩
  have HP := Lib.hid hp
  clear hp
  go_wp2_with fail
  first | go_end0 | refine bodyPost_ret (results_none rfl _ _ _) rfl ?_
  exact ⟨rfl, HP.out⟩
theorem operation_c {w0 : World} (w : World) (p : Nat) (nd fu todo out : Value) (R : List Part) (rest : List Res) (nodes : List Nd) (funcs : List Int) (n : Nd) (kv : Value) (HT0 : TreeRd w0 nodes funcs nd fu) (hG : Good nodes) (hn : n ∈ nodes) (hk : n.kind = 29 ∨ n.kind = 30 ∨ n.kind = 31)
    (H : Hs (fun k => k < w0.heap.size) w0 w (.blk p 64 [nd, fu, todo, out] :: .row 67 4 todo R.length (partsC R) :: rest)) (hr : RdS w0 kv n.kids.length (ints n.kids)) (hb : R.length + 10 ≤ 1000000000) :
    Calls Tryd.prog 74 #[.pointer (some ⟨p, 0, none⟩), ndV n kv] w fun e w' => e = .returned (.tuple #[]) ∧ PS (fun k => k < w0.heap.size) w0 w' p nd fu out (R ++ (Tm.operation nodes n).reverse) rest := by
  have hkd := hG.kids.kd n hn
  obtain ⟨hf, hko⟩ := hG.ok n hn
  have h30 := fields_op30 hf
  have h31 := fields_op31 hf
  clear hf hn
  obtain ⟨k, a1, a2, a3, a4, a5, a6, a7, nm, ks⟩ := n
  dsimp only at hr hkd hk hko h30 h31
  rcases hk with rfl | rfl | rfl
  · match ks, hko, hr, hkd with
    | [], hk, _, _ => exact absurd hk (by simp [Tm.kidsOk])
    | [x0], hk, _, _ => exact absurd hk (by simp [Tm.kidsOk])
    | [x0, x1], _, hr, hkd =>
      obtain ⟨k0, rfl⟩ : ∃ k : Nat, x0 = (k : Int) := ⟨x0.toNat, by have := (hkd x0 (by simp)).1; omega⟩
      obtain ⟨k1, rfl⟩ : ∃ k : Nat, x1 = (k : Int) := ⟨x1.toNat, by have := (hkd x1 (by simp)).1; omega⟩
      exact oper_29 w p nd fu todo out R rest nodes funcs a1 a2 a3 a4 a5 a6 a7 nm k0 k1 kv HT0 (by have := (hkd (k0 : Int) (by simp)).2; omega) (by have := (hkd (k1 : Int) (by simp)).2; omega) H hr hb
    | _ :: _ :: _ :: _, hk, _, _ => exact absurd hk (by simp [Tm.kidsOk])
  · match ks, hko, hr, hkd with
    | [], hk, _, _ => exact absurd hk (by simp [Tm.kidsOk])
    | [x0], _, hr, hkd =>
      obtain ⟨k0, rfl⟩ : ∃ k : Nat, x0 = (k : Int) := ⟨x0.toNat, by have := (hkd x0 (by simp)).1; omega⟩
      exact oper_30 w p nd fu todo out R rest nodes funcs a1 a2 a3 a4 a5 a6 a7 nm k0 kv HT0 (by have := (hkd (k0 : Int) (by simp)).2; omega) (h30 rfl) H hr hb
    | [x0, x1], hk, _, _ => exact absurd hk (by simp [Tm.kidsOk])
    | _ :: _ :: _ :: _, hk, _, _ => exact absurd hk (by simp [Tm.kidsOk])
  · match ks, hko, hr, hkd with
    | [], hk, _, _ => exact absurd hk (by simp [Tm.kidsOk])
    | [x0], hk, _, _ => exact absurd hk (by simp [Tm.kidsOk])
    | [x0, x1], _, hr, hkd =>
      obtain ⟨k0, rfl⟩ : ∃ k : Nat, x0 = (k : Int) := ⟨x0.toNat, by have := (hkd x0 (by simp)).1; omega⟩
      obtain ⟨k1, rfl⟩ : ∃ k : Nat, x1 = (k : Int) := ⟨x1.toNat, by have := (hkd x1 (by simp)).1; omega⟩
      exact oper_31 w p nd fu todo out R rest nodes funcs a1 a2 a3 a4 a5 a6 a7 nm k0 k1 kv HT0 (by have := (hkd (k0 : Int) (by simp)).2; omega) (by have := (hkd (k1 : Int) (by simp)).2; omega) (h31 rfl) H hr hb
    | _ :: _ :: _ :: _, hk, _, _ => exact absurd hk (by simp [Tm.kidsOk])
set_option maxRecDepth 100000 in
set_option maxHeartbeats 16000000 in
theorem expr_29 {w0 : World} (w : World) (p : Nat) (nd fu todo out : Value) (R : List Part) (rest : List Res) (nodes : List Nd) (funcs : List Int) (a1 a2 a3 a4 a5 a6 a7 : Int) (nm : ByteArray) (ks : List Int) (kv : Value) (HT0 : TreeRd w0 nodes funcs nd fu) (hG : Good nodes) (hn : (⟨29, a1, a2, a3, a4, a5, a6, a7, nm, ks⟩ : Nd) ∈ nodes)
    (H : Hs (fun k => k < w0.heap.size) w0 w (.blk p 64 [nd, fu, todo, out] :: .row 67 4 todo R.length (partsC R) :: rest)) (hr : RdS w0 kv ks.length (ints ks)) (hb : R.length + 10 ≤ 1000000000) :
    Calls Tryd.prog 49 #[.pointer (some ⟨p, 0, none⟩), ndV (⟨29, a1, a2, a3, a4, a5, a6, a7, nm, ks⟩ : Nd) kv] w fun e w' => e = .returned (.tuple #[]) ∧ PS (fun k => k < w0.heap.size) w0 w' p nd fu out (R ++ (Tm.expression nodes (⟨29, a1, a2, a3, a4, a5, a6, a7, nm, ks⟩ : Nd)).reverse) rest := by
  have H1 := Lib.hid (H.alloc' (.cells #[.int .i64 29, .int .i64 a1, .int .i64 a2, .int .i64 a3, .int .i64 a4, .int .i64 a5, .int .i64 a6, .int .i64 a7, .string nm, kv] 45))
  have HT := Lib.hid HT0
  have HG := Lib.hid hG
  have HN := Lib.hid hn
  have HR := Lib.hid hr
  have hE : Tm.expression nodes (⟨29, a1, a2, a3, a4, a5, a6, a7, nm, ks⟩ : Nd) = Tm.operation nodes (⟨29, a1, a2, a3, a4, a5, a6, a7, nm, ks⟩ : Nd) := rfl
  rw [hE]
  clear H HT0 hG hn hr hE
  unfold ndV
  dsimp only
  go_enter Tryd.func49, Tryd.ntmps49
  go_wp2_with fail
  refine (operation_c _ p nd fu todo out R rest nodes funcs (⟨29, a1, a2, a3, a4, a5, a6, a7, nm, ks⟩ : Nd) kv HT.out HG.out HN.out (by first | exact .inl rfl | exact .inr (.inl rfl) | exact .inr (.inr rfl)) H1.out HR.out hb).mono ?_
  rintro e w2 ⟨rfl, hp⟩
  have HP := Lib.hid hp
  clear hp
  go_wp2_with fail
  first | go_end0 | refine bodyPost_ret (results_none rfl _ _ _) rfl ?_
  exact ⟨rfl, HP.out⟩
set_option maxRecDepth 100000 in
set_option maxHeartbeats 16000000 in
theorem expr_30 {w0 : World} (w : World) (p : Nat) (nd fu todo out : Value) (R : List Part) (rest : List Res) (nodes : List Nd) (funcs : List Int) (a1 a2 a3 a4 a5 a6 a7 : Int) (nm : ByteArray) (ks : List Int) (kv : Value) (HT0 : TreeRd w0 nodes funcs nd fu) (hG : Good nodes) (hn : (⟨30, a1, a2, a3, a4, a5, a6, a7, nm, ks⟩ : Nd) ∈ nodes)
    (H : Hs (fun k => k < w0.heap.size) w0 w (.blk p 64 [nd, fu, todo, out] :: .row 67 4 todo R.length (partsC R) :: rest)) (hr : RdS w0 kv ks.length (ints ks)) (hb : R.length + 10 ≤ 1000000000) :
    Calls Tryd.prog 49 #[.pointer (some ⟨p, 0, none⟩), ndV (⟨30, a1, a2, a3, a4, a5, a6, a7, nm, ks⟩ : Nd) kv] w fun e w' => e = .returned (.tuple #[]) ∧ PS (fun k => k < w0.heap.size) w0 w' p nd fu out (R ++ (Tm.expression nodes (⟨30, a1, a2, a3, a4, a5, a6, a7, nm, ks⟩ : Nd)).reverse) rest := by
  have H1 := Lib.hid (H.alloc' (.cells #[.int .i64 30, .int .i64 a1, .int .i64 a2, .int .i64 a3, .int .i64 a4, .int .i64 a5, .int .i64 a6, .int .i64 a7, .string nm, kv] 45))
  have HT := Lib.hid HT0
  have HG := Lib.hid hG
  have HN := Lib.hid hn
  have HR := Lib.hid hr
  have hE : Tm.expression nodes (⟨30, a1, a2, a3, a4, a5, a6, a7, nm, ks⟩ : Nd) = Tm.operation nodes (⟨30, a1, a2, a3, a4, a5, a6, a7, nm, ks⟩ : Nd) := rfl
  rw [hE]
  clear H HT0 hG hn hr hE
  unfold ndV
  dsimp only
  go_enter Tryd.func49, Tryd.ntmps49
  go_wp2_with fail
  refine (operation_c _ p nd fu todo out R rest nodes funcs (⟨30, a1, a2, a3, a4, a5, a6, a7, nm, ks⟩ : Nd) kv HT.out HG.out HN.out (by first | exact .inl rfl | exact .inr (.inl rfl) | exact .inr (.inr rfl)) H1.out HR.out hb).mono ?_
  rintro e w2 ⟨rfl, hp⟩
  have HP := Lib.hid hp
  clear hp
  go_wp2_with fail
  first | go_end0 | refine bodyPost_ret (results_none rfl _ _ _) rfl ?_
  exact ⟨rfl, HP.out⟩
set_option maxRecDepth 100000 in
set_option maxHeartbeats 16000000 in
theorem expr_31 {w0 : World} (w : World) (p : Nat) (nd fu todo out : Value) (R : List Part) (rest : List Res) (nodes : List Nd) (funcs : List Int) (a1 a2 a3 a4 a5 a6 a7 : Int) (nm : ByteArray) (ks : List Int) (kv : Value) (HT0 : TreeRd w0 nodes funcs nd fu) (hG : Good nodes) (hn : (⟨31, a1, a2, a3, a4, a5, a6, a7, nm, ks⟩ : Nd) ∈ nodes)
    (H : Hs (fun k => k < w0.heap.size) w0 w (.blk p 64 [nd, fu, todo, out] :: .row 67 4 todo R.length (partsC R) :: rest)) (hr : RdS w0 kv ks.length (ints ks)) (hb : R.length + 10 ≤ 1000000000) :
    Calls Tryd.prog 49 #[.pointer (some ⟨p, 0, none⟩), ndV (⟨31, a1, a2, a3, a4, a5, a6, a7, nm, ks⟩ : Nd) kv] w fun e w' => e = .returned (.tuple #[]) ∧ PS (fun k => k < w0.heap.size) w0 w' p nd fu out (R ++ (Tm.expression nodes (⟨31, a1, a2, a3, a4, a5, a6, a7, nm, ks⟩ : Nd)).reverse) rest := by
  have H1 := Lib.hid (H.alloc' (.cells #[.int .i64 31, .int .i64 a1, .int .i64 a2, .int .i64 a3, .int .i64 a4, .int .i64 a5, .int .i64 a6, .int .i64 a7, .string nm, kv] 45))
  have HT := Lib.hid HT0
  have HG := Lib.hid hG
  have HN := Lib.hid hn
  have HR := Lib.hid hr
  have hE : Tm.expression nodes (⟨31, a1, a2, a3, a4, a5, a6, a7, nm, ks⟩ : Nd) = Tm.operation nodes (⟨31, a1, a2, a3, a4, a5, a6, a7, nm, ks⟩ : Nd) := rfl
  rw [hE]
  clear H HT0 hG hn hr hE
  unfold ndV
  dsimp only
  go_enter Tryd.func49, Tryd.ntmps49
  go_wp2_with fail
  refine (operation_c _ p nd fu todo out R rest nodes funcs (⟨31, a1, a2, a3, a4, a5, a6, a7, nm, ks⟩ : Nd) kv HT.out HG.out HN.out (by first | exact .inl rfl | exact .inr (.inl rfl) | exact .inr (.inr rfl)) H1.out HR.out hb).mono ?_
  rintro e w2 ⟨rfl, hp⟩
  have HP := Lib.hid hp
  clear hp
  go_wp2_with fail
  first | go_end0 | refine bodyPost_ret (results_none rfl _ _ _) rfl ?_
  exact ⟨rfl, HP.out⟩
theorem expression_c {w0 : World} (w : World) (p : Nat) (nd fu todo out : Value) (R : List Part) (rest : List Res) (nodes : List Nd) (funcs : List Int) (n : Nd) (kv : Value) (htab : Tab w0) (HT0 : TreeRd w0 nodes funcs nd fu) (hG : Good nodes) (hn : n ∈ nodes) (hk : Tm.isE n.kind = true)
    (H : Hs (fun k => k < w0.heap.size) w0 w (.blk p 64 [nd, fu, todo, out] :: .row 67 4 todo R.length (partsC R) :: rest)) (hr : RdS w0 kv n.kids.length (ints n.kids)) (hb : R.length + 2 * n.kids.length + 10 ≤ 1000000000) :
    Calls Tryd.prog 49 #[.pointer (some ⟨p, 0, none⟩), ndV n kv] w fun e w' => e = .returned (.tuple #[]) ∧ PS (fun k => k < w0.heap.size) w0 w' p nd fu out (R ++ (Tm.expression nodes n).reverse) rest := by
  obtain ⟨hf, hko⟩ := hG.ok n hn
  have hv20 := fields_v20 hf
  have hval := hG.val n hn
  have hnm := hG.kids.nm n hn
  clear hf
  obtain ⟨k, a1, a2, a3, a4, a5, a6, a7, nm, ks⟩ := n
  dsimp only at hr hk hko hv20 hval hnm hb
  have hk' : k = 20 ∨ k = 21 ∨ k = 22 ∨ k = 23 ∨ k = 24 ∨ k = 25 ∨ k = 26 ∨ k = 27 ∨ k = 28 ∨ k = 29 ∨ k = 30 ∨ k = 31 := by
    unfold Tm.isE at hk
    simp only [Bool.and_eq_true, decide_eq_true_eq] at hk
    omega
  have hb6 : R.length + 6 ≤ 1000000000 := by omega
  have hb10 : R.length + 10 ≤ 1000000000 := by omega
  rcases hk' with rfl | rfl | rfl | rfl | rfl | rfl | rfl | rfl | rfl | rfl | rfl | rfl
  · exact expr_20 w p nd fu todo out R rest nodes a1 a2 a3 a4 a5 a6 a7 nm ks kv htab ⟨hv20 rfl, hval⟩ H hb6
  · exact expr_21 w p nd fu todo out R rest nodes a1 a2 a3 a4 a5 a6 a7 nm ks kv H hb6
  · exact expr_22 w p nd fu todo out R rest nodes a1 a2 a3 a4 a5 a6 a7 nm ks kv H hb6
  · exact expr_23 w p nd fu todo out R rest nodes a1 a2 a3 a4 a5 a6 a7 nm ks kv H hb6
  · exact expr_24 w p nd fu todo out R rest nodes a1 a2 a3 a4 a5 a6 a7 nm ks kv H hb6
  · exact expr_25 w p nd fu todo out R rest nodes a1 a2 a3 a4 a5 a6 a7 nm ks kv H hr hnm (by omega)
  · exact expr_26 w p nd fu todo out R rest nodes a1 a2 a3 a4 a5 a6 a7 nm ks kv H hb6
  · match ks, hko, hr with
    | [k0], _, hr => exact expr_27 w p nd fu todo out R rest nodes a1 a2 a3 a4 a5 a6 a7 nm k0 kv H hr hb6
    | [], hk, _ => exact absurd hk (by simp [Tm.kidsOk])
    | _ :: _ :: _, hk, _ => exact absurd hk (by simp [Tm.kidsOk])
  · match ks, hko, hr with
    | [k0], _, hr => exact expr_28 w p nd fu todo out R rest nodes a1 a2 a3 a4 a5 a6 a7 nm k0 kv H hr hb6
    | [], hk, _ => exact absurd hk (by simp [Tm.kidsOk])
    | _ :: _ :: _, hk, _ => exact absurd hk (by simp [Tm.kidsOk])
  · exact expr_29 w p nd fu todo out R rest nodes funcs a1 a2 a3 a4 a5 a6 a7 nm ks kv HT0 hG hn H hr hb10
  · exact expr_30 w p nd fu todo out R rest nodes funcs a1 a2 a3 a4 a5 a6 a7 nm ks kv HT0 hG hn H hr hb10
  · exact expr_31 w p nd fu todo out R rest nodes funcs a1 a2 a3 a4 a5 a6 a7 nm ks kv HT0 hG hn H hr hb10
theorem kinds_of {k : Int} {l : List Int} (h : Tm.kidsOk k l = true) (h2 : k ≠ 2) : k = 1 ∨ Tm.isS k = true ∨ Tm.isE k = true := by
  by_cases h1 : k = 1
  · exact .inl h1
  · right
    by_cases hs : Tm.isS k = true
    · exact .inl hs
    · right
      unfold Tm.isS at hs
      unfold Tm.isE
      simp only [Bool.and_eq_true, decide_eq_true_eq] at hs ⊢
      unfold Tm.kidsOk at h
      refine Decidable.byContradiction fun hne => ?_
      have hbad : ¬ (3 ≤ k ∧ k ≤ 14) ∧ ¬ (20 ≤ k ∧ k ≤ 31) := ⟨hs, hne⟩
      rw [if_neg h1, if_neg (by omega), if_neg (by omega), if_neg (by omega), if_neg (by omega), if_neg (by omega), if_neg (by omega), if_neg (by omega), if_neg (by omega), if_neg (by omega)] at h
      cases h
set_option maxRecDepth 100000 in
set_option maxHeartbeats 16000000 in
theorem node_c {w0 : World} (w : World) (p : Nat) (nd fu todo out : Value) (R : List Part) (rest : List Res) (nodes : List Nd) (funcs : List Int) (n : Nd) (kv : Value) (t : Nat) (htab : Tab w0) (HT0 : TreeRd w0 nodes funcs nd fu) (hG : Good nodes) (hn : n ∈ nodes) (h2 : n.kind ≠ 2)
    (H : Hs (fun k => k < w0.heap.size) w0 w (.blk p 64 [nd, fu, todo, out] :: .row 67 4 todo R.length (partsC R) :: rest)) (hr : RdS w0 kv n.kids.length (ints n.kids)) (hb : R.length + 2 * n.kids.length + 10 ≤ 1000000000) (ht : t ≤ 1000000000) :
    Calls Tryd.prog 32 #[.pointer (some ⟨p, 0, none⟩), ndV n kv, .int .i64 (t : Int)] w fun e w' => e = .returned (.tuple #[]) ∧ PS (fun k => k < w0.heap.size) w0 w' p nd fu out (R ++ (Tm.node nodes n t).reverse) rest := by
  have hE : Tm.node nodes n t = if n.kind = 1 then Tm.function nodes n else if n.kind = 3 then Tm.block n t else if Tm.isS n.kind = true then Tm.statement n t else Tm.expression nodes n := rfl
  obtain ⟨hf, hko⟩ := hG.ok n hn
  have hknd := kinds_of hko h2
  have hnm := hG.kids.nm n hn
  obtain ⟨PP, hPP⟩ : ∃ PP, PP = Tm.node nodes n t := ⟨_, rfl⟩
  rw [← hPP] at hE ⊢
  have HE := Lib.hid hE
  have HT := Lib.hid HT0
  have HG := Lib.hid hG
  have HN := Lib.hid hn
  have HR := Lib.hid hr
  have HTab := Lib.hid htab
  have HKo := Lib.hid hko
  have HKnd := Lib.hid hknd
  have H1 := Lib.hid (H.alloc' (.cells #[.int .i64 n.kind, .int .i64 n.at_, .int .i64 n.where_, .int .i64 n.close, .int .i64 n.decl, .int .i64 n.type, .int .i64 n.op, .int .i64 n.value, .string n.name, kv] 45))
  clear hE hf hko hknd hPP HT0 hG hn hr htab H h2
  unfold ndV
  cases e1 : (n.kind == 1) with
  | true =>
    have hk1 : n.kind = 1 := beq_iff_eq.1 e1
    have hp : Hid (PP = Tm.function nodes n) := Lib.hid (by rw [HE.out, if_pos hk1])
    have hne : Hid (n.kids ≠ []) := Lib.hid (fun h => by have := HKo.out; rw [h, hk1] at this; exact absurd this (by simp [Tm.kidsOk]))
    clear hk1
    go_enter Tryd.func32, Tryd.ntmps32
    go_wp2_with fail
    refine (function_c _ p nd fu todo out R rest nodes funcs n kv HT.out HG.out.kids HN.out H1.out HR.out (by omega) hne.out).mono ?_
    rintro e w2 ⟨rfl, hq⟩
    have HQ := Lib.hid hq
    clear hq
    go_wp2_with fail
    go_end0
    exact ⟨rfl, by rw [hp.out]; exact HQ.out⟩
  | false =>
    have n1 : Hid (¬ n.kind = 1) := Lib.hid (beq_eq_false_iff_ne.1 e1)
    cases e3 : (n.kind == 3) with
    | true =>
      have hk3 : n.kind = 3 := beq_iff_eq.1 e3
      have hp : Hid (PP = Tm.block n t) := Lib.hid (by rw [HE.out, if_neg n1.out, if_pos hk3])
      clear hk3
      go_enter Tryd.func32, Tryd.ntmps32
      go_wp2_with fail
      refine (block_c _ p nd fu todo out R rest n kv t H1.out HR.out (by omega) ht).mono ?_
      rintro e w2 ⟨rfl, hq⟩
      have HQ := Lib.hid hq
      clear hq
      go_wp2_with fail
      go_end0
      exact ⟨rfl, by rw [hp.out]; exact HQ.out⟩
    | false =>
      have n3 : Hid (¬ n.kind = 3) := Lib.hid (beq_eq_false_iff_ne.1 e3)
      cases es : Tm.isS n.kind with
      | true =>
        have hp : Hid (PP = Tm.statement n t) := Lib.hid (by rw [HE.out, if_neg n1.out, if_neg n3.out, if_pos es])
        go_enter Tryd.func32, Tryd.ntmps32
        go_wp2_with (first | (go_at_call 47; refine (isS_c _ _).mono ?_; rintro e w' ⟨rfl, rfl⟩))
        refine (statement_c _ p nd fu todo out R rest n kv t (Tm.kindOf nodes) H1.out (HR.out.fr (fr_of_kp H1.out.kp)) (by omega) hnm es n3.out HKo.out).mono ?_
        rintro e w2 ⟨rfl, hq⟩
        have HQ := Lib.hid hq
        clear hq
        go_wp2_with fail
        go_end0
        exact ⟨rfl, by rw [hp.out]; exact HQ.out⟩
      | false =>
        have hp : Hid (PP = Tm.expression nodes n) := Lib.hid (by rw [HE.out, if_neg n1.out, if_neg n3.out, if_neg (by rw [es]; simp)])
        have hE2 : Hid (Tm.isE n.kind = true) := Lib.hid (by rcases HKnd.out with h | h | h; exact absurd h n1.out; rw [es] at h; cases h; exact h)
        go_enter Tryd.func32, Tryd.ntmps32
        go_wp2_with (first | (go_at_call 47; refine (isS_c _ _).mono ?_; rintro e w' ⟨rfl, rfl⟩))
        refine (expression_c _ p nd fu todo out R rest nodes funcs n kv HTab.out HT.out HG.out HN.out hE2.out H1.out HR.out hb).mono ?_
        rintro e w2 ⟨rfl, hq⟩
        have HQ := Lib.hid hq
        clear hq
        go_wp2_with fail
        go_end0
        exact ⟨rfl, by rw [hp.out]; exact HQ.out⟩
end Go.Proofs.YtllahgnpjodgmaaDoor
