/- The printer's jobs, and its small functions: say, margin, typeName, sign, level, value.
The printer's sign, value and put. -/
import Derived.Test.YtllahgnpjodgmaaDoorT8
import Derived.Test.YtllahgnpjodgmaaDoorTm
import Derived.Deep.DeepCutAuto
set_option linter.unusedVariables false
namespace Go.Proofs.YtllahgnpjodgmaaDoor
open Go Go.RowKit Mem Pm
def ba (l : List UInt8) : ByteArray := ⟨l.toArray⟩
theorem ba_nm (n : Nd) : ba (Tm.nm n) = n.name := by unfold ba Tm.nm; simp
namespace Tm
def Part.tx : Part → ByteArray
  | .s l => ba l
  | _ => ⟨#[]⟩
def Part.isL : Part → Bool
  | .ln _ => true
  | _ => false
def Part.num : Part → Int
  | .k x _ => x
  | _ => 0
def Part.tabs : Part → Int
  | .s _ => 0
  | .ln x => (x : Int)
  | .k _ x => (x : Int)
/-- A job's cells. -/
def Part.C (p : Part) : List Value := [.string p.tx, .bool p.isL, .int .i64 p.num, .int .i64 p.tabs]
def Part.V (p : Part) : Value := .agg #[.string p.tx, .bool p.isL, .int .i64 p.num, .int .i64 p.tabs]
end Tm
open Tm (Part)
def partsC (l : List Part) : List Value := l.flatMap Part.C
theorem partsC_len (l : List Part) : (partsC l).length = l.length * 4 := by
  induction l with
  | nil => rfl
  | cons p l ih => show (p.C ++ partsC l).length = _; rw [List.length_append, ih, List.length_cons]; show 4 + _ = _; omega
theorem partsC_app (a b : List Part) : partsC (a ++ b) = partsC a ++ partsC b := by unfold partsC; rw [List.flatMap_append]
theorem partsC_get {l : List Part} {i : Nat} {p : Part} (h : l[i]? = some p) (j : Nat) (hj : j < 4) : (partsC l)[i * 4 + j]? = p.C[j]? := by
  induction l generalizing i with
  | nil => cases h
  | cons q l ih =>
    show (q.C ++ partsC l)[i * 4 + j]? = _
    cases i with
    | zero =>
      injection h with h
      subst h
      rw [Nat.zero_mul, Nat.zero_add, List.getElem?_append_left (by show j < 4; exact hj)]
    | succ i =>
      rw [List.getElem?_append_right (by show 4 ≤ _; omega)]
      have : (i + 1) * 4 + j - q.C.length = i * 4 + j := by show (i + 1) * 4 + j - 4 = _; omega
      rw [this]
      exact ih h
theorem infoJob : (Tryd.prog.info? 67).map (fun i => (i.zero, i.size, i.bytes)) = some (some (.agg #[.string ⟨#[]⟩, .bool false, .int .i64 0, .int .i64 0]), 4, 40) := by kernel_rfl

theorem jobTy : ∃ x, Tryd.prog.underlying 67 = some (.struct x) := by
  have hb : (match Tryd.prog.underlying 67 with | some (.struct _) => true | _ => false) = true := by kernel_rfl
  generalize Tryd.prog.underlying 67 = o at hb
  cases o with
  | none => cases hb
  | some t => cases t <;> first | exact ⟨_, rfl⟩ | cases hb

set_option maxRecDepth 100000 in
set_option maxHeartbeats 2000000 in
theorem say_c (s : ByteArray) (w : World) : Calls Tryd.prog 69 #[.string s] w fun e w' => e = .returned (.agg #[.string s, .bool false, .int .i64 0, .int .i64 0]) ∧ Fr w w' := by
  have H0 := Lib.hid ((Hs.start w).alloc [.string ⟨#[]⟩, .bool false, .int .i64 0, .int .i64 0] 67)
  go_enter Tryd.func69, Tryd.ntmps69
  go_wp2_with fail
  obtain ⟨x, hu⟩ := jobTy
  refine bodyPost_ret (results_cell_row (p := 2) (ty := 67) rfl _ _ w.heap.size 67 _ (0, 0) _ rfl (heap_alloc_new _ _) hu rfl (by kernel_rfl)) rfl ⟨rfl, (Ch.refl _ _).alloc _⟩
set_option maxRecDepth 100000 in
set_option maxHeartbeats 2000000 in
theorem margin_c (t : Int) (w : World) : Calls Tryd.prog 71 #[.int .i64 t] w fun e w' => e = .returned (.agg #[.string ⟨#[]⟩, .bool true, .int .i64 0, .int .i64 t]) ∧ Fr w w' := by
  have H0 := Lib.hid ((Hs.start w).alloc [.string ⟨#[]⟩, .bool false, .int .i64 0, .int .i64 0] 67)
  go_enter Tryd.func71, Tryd.ntmps71
  go_wp2_with fail
  obtain ⟨x, hu⟩ := jobTy
  refine bodyPost_ret (results_cell_row (p := 2) (ty := 67) rfl _ _ w.heap.size 67 _ (0, 0) _ rfl (heap_alloc_new _ _) hu rfl (by kernel_rfl)) rfl ⟨rfl, (Ch.refl _ _).alloc _⟩
set_option maxRecDepth 100000 in
set_option maxHeartbeats 2000000 in
theorem typeName_c (t : Int) (w : World) : Calls Tryd.prog 70 #[.int .i64 t] w fun e w' => e = .returned (.string (ba (Tm.typeName t))) ∧ w = w' := by
  obtain ⟨R, hR⟩ : ∃ R, R = ba (Tm.typeName t) := ⟨_, rfl⟩
  rw [← hR]
  have HR := Lib.hid hR
  clear hR
  cases e1 : (t == 1) with
  | true =>
    have h : Hid (R = ⟨#[105, 110, 116]⟩) := Lib.hid (by rw [HR.out]; unfold Tm.typeName; rw [if_pos (beq_iff_eq.1 e1)]; rfl)
    go_enter Tryd.func70, Tryd.ntmps70
    go_wp2_with fail
    go_ret
    exact ⟨by rw [h.out]; rfl, rfl⟩
  | false =>
    cases e2 : (t == 2) with
    | true =>
      have h : Hid (R = ⟨#[98, 111, 111, 108]⟩) := Lib.hid (by rw [HR.out]; unfold Tm.typeName; rw [if_neg (beq_eq_false_iff_ne.1 e1), if_pos (beq_iff_eq.1 e2)]; rfl)
      go_enter Tryd.func70, Tryd.ntmps70
      go_wp2_with fail
      go_ret
      exact ⟨by rw [h.out]; rfl, rfl⟩
    | false =>
      have h : Hid (R = ⟨#[91, 93, 105, 110, 116]⟩) := Lib.hid (by rw [HR.out]; unfold Tm.typeName; rw [if_neg (beq_eq_false_iff_ne.1 e1), if_neg (beq_eq_false_iff_ne.1 e2)]; rfl)
      go_enter Tryd.func70, Tryd.ntmps70
      go_wp2_with fail
      go_ret
      exact ⟨by rw [h.out]; rfl, rfl⟩
set_option maxRecDepth 100000 in
set_option maxHeartbeats 4000000 in
theorem level_c (n : Nd) (kv : Value) (w : World) : Calls Tryd.prog 81 #[ndV n kv] w fun e w' => e = .returned (.int .i64 (Tm.level n)) ∧ Fr w w' := by
  obtain ⟨k, a1, a2, a3, a4, a5, a6, a7, nm, ks⟩ := n
  obtain ⟨R, hR⟩ : ∃ R : Int, R = Tm.level ⟨k, a1, a2, a3, a4, a5, a6, a7, nm, ks⟩ := ⟨_, rfl⟩
  rw [← hR]
  have HR : Hid (R = if k = 30 then 6 else if k ≠ 31 then 7 else if a6 = 19 then 1 else if a6 = 18 then 2 else if 12 ≤ a6 ∧ a6 ≤ 17 then 3 else if a6 = 1 ∨ a6 = 2 ∨ a6 = 7 ∨ a6 = 8 then 4 else 5) := Lib.hid hR
  clear hR
  have h0 : Fr w (w.alloc (.cells #[.int .i64 k, .int .i64 a1, .int .i64 a2, .int .i64 a3, .int .i64 a4, .int .i64 a5, .int .i64 a6, .int .i64 a7, .string nm, kv] 45)) := (Ch.refl _ _).alloc _
  have H0 := Lib.hid h0
  clear h0
  unfold ndV
  dsimp only
  rcases (show k = 30 ∨ (k ≠ 30 ∧ k ≠ 31) ∨ (k = 31 ∧ (a6 = 19 ∨ a6 = 18 ∨ a6 = 12 ∨ a6 = 13 ∨ a6 = 14 ∨ a6 = 15 ∨ a6 = 16 ∨ a6 = 17 ∨ a6 = 1 ∨ a6 = 2 ∨ a6 = 7 ∨ a6 = 8 ∨ (a6 ≠ 19 ∧ a6 ≠ 18 ∧ a6 ≠ 12 ∧ a6 ≠ 13 ∧ a6 ≠ 14 ∧ a6 ≠ 15 ∧ a6 ≠ 16 ∧ a6 ≠ 17 ∧ a6 ≠ 1 ∧ a6 ≠ 2 ∧ a6 ≠ 7 ∧ a6 ≠ 8))) by omega) with rfl | ⟨h1, h2⟩ | ⟨rfl, rfl | rfl | rfl | rfl | rfl | rfl | rfl | rfl | rfl | rfl | rfl | rfl | ⟨n1, n2, n3, n4, n5, n6, n7, n8, n9, n10, n11, n12⟩⟩
  · have h : Hid (R = 6) := Lib.hid (by rw [HR.out]; rfl)
    go_enter Tryd.func81, Tryd.ntmps81
    go_wp2_with fail
    go_ret
    exact ⟨by rw [h.out]; rfl, H0.out⟩
  · have h : Hid (R = 7) := Lib.hid (by rw [HR.out, if_neg h1, if_pos h2])
    have e1 : (k == 30) = false := beq_eq_false_iff_ne.2 h1
    have e2 : (k != 31) = true := bne_iff_ne.2 h2
    go_enter Tryd.func81, Tryd.ntmps81
    go_wp2_with fail
    go_ret
    exact ⟨by rw [h.out]; rfl, H0.out⟩
  · have h : Hid (R = 1) := Lib.hid (by rw [HR.out]; rfl)
    go_enter Tryd.func81, Tryd.ntmps81
    go_wp2_with fail
    go_ret
    exact ⟨by rw [h.out]; rfl, H0.out⟩
  · have h : Hid (R = 2) := Lib.hid (by rw [HR.out]; rfl)
    go_enter Tryd.func81, Tryd.ntmps81
    go_wp2_with fail
    go_ret
    exact ⟨by rw [h.out]; rfl, H0.out⟩
  · have h : Hid (R = 3) := Lib.hid (by rw [HR.out]; rfl)
    go_enter Tryd.func81, Tryd.ntmps81
    go_wp2_with fail
    go_ret
    exact ⟨by rw [h.out]; rfl, H0.out⟩
  · have h : Hid (R = 3) := Lib.hid (by rw [HR.out]; rfl)
    go_enter Tryd.func81, Tryd.ntmps81
    go_wp2_with fail
    go_ret
    exact ⟨by rw [h.out]; rfl, H0.out⟩
  · have h : Hid (R = 3) := Lib.hid (by rw [HR.out]; rfl)
    go_enter Tryd.func81, Tryd.ntmps81
    go_wp2_with fail
    go_ret
    exact ⟨by rw [h.out]; rfl, H0.out⟩
  · have h : Hid (R = 3) := Lib.hid (by rw [HR.out]; rfl)
    go_enter Tryd.func81, Tryd.ntmps81
    go_wp2_with fail
    go_ret
    exact ⟨by rw [h.out]; rfl, H0.out⟩
  · have h : Hid (R = 3) := Lib.hid (by rw [HR.out]; rfl)
    go_enter Tryd.func81, Tryd.ntmps81
    go_wp2_with fail
    go_ret
    exact ⟨by rw [h.out]; rfl, H0.out⟩
  · have h : Hid (R = 3) := Lib.hid (by rw [HR.out]; rfl)
    go_enter Tryd.func81, Tryd.ntmps81
    go_wp2_with fail
    go_ret
    exact ⟨by rw [h.out]; rfl, H0.out⟩
  · have h : Hid (R = 4) := Lib.hid (by rw [HR.out]; rfl)
    go_enter Tryd.func81, Tryd.ntmps81
    go_wp2_with fail
    go_ret
    exact ⟨by rw [h.out]; rfl, H0.out⟩
  · have h : Hid (R = 4) := Lib.hid (by rw [HR.out]; rfl)
    go_enter Tryd.func81, Tryd.ntmps81
    go_wp2_with fail
    go_ret
    exact ⟨by rw [h.out]; rfl, H0.out⟩
  · have h : Hid (R = 4) := Lib.hid (by rw [HR.out]; rfl)
    go_enter Tryd.func81, Tryd.ntmps81
    go_wp2_with fail
    go_ret
    exact ⟨by rw [h.out]; rfl, H0.out⟩
  · have h : Hid (R = 4) := Lib.hid (by rw [HR.out]; rfl)
    go_enter Tryd.func81, Tryd.ntmps81
    go_wp2_with fail
    go_ret
    exact ⟨by rw [h.out]; rfl, H0.out⟩
  · have h : Hid (R = 5) := Lib.hid (by rw [HR.out, if_neg (by decide), if_neg (by decide), if_neg n1, if_neg n2, if_neg (by omega), if_neg (by omega)])
    have e0 : (a6 == 19) = false := beq_eq_false_iff_ne.2 n1
    have e1 : (a6 == 18) = false := beq_eq_false_iff_ne.2 n2
    have e2 : (a6 == 12) = false := beq_eq_false_iff_ne.2 n3
    have e3 : (a6 == 13) = false := beq_eq_false_iff_ne.2 n4
    have e4 : (a6 == 14) = false := beq_eq_false_iff_ne.2 n5
    have e5 : (a6 == 15) = false := beq_eq_false_iff_ne.2 n6
    have e6 : (a6 == 16) = false := beq_eq_false_iff_ne.2 n7
    have e7 : (a6 == 17) = false := beq_eq_false_iff_ne.2 n8
    have e8 : (a6 == 1) = false := beq_eq_false_iff_ne.2 n9
    have e9 : (a6 == 2) = false := beq_eq_false_iff_ne.2 n10
    have e10 : (a6 == 7) = false := beq_eq_false_iff_ne.2 n11
    have e11 : (a6 == 8) = false := beq_eq_false_iff_ne.2 n12
    go_enter Tryd.func81, Tryd.ntmps81
    go_wp2_with fail
    go_ret
    exact ⟨by rw [h.out]; rfl, H0.out⟩
def sgA : Array Value := #[.string ⟨#[]⟩, .string ⟨#[43]⟩, .string ⟨#[45]⟩, .string ⟨#[42]⟩, .string ⟨#[47]⟩, .string ⟨#[37]⟩, .string ⟨#[38]⟩, .string ⟨#[124]⟩, .string ⟨#[94]⟩, .string ⟨#[38, 94]⟩, .string ⟨#[60, 60]⟩, .string ⟨#[62, 62]⟩, .string ⟨#[61, 61]⟩, .string ⟨#[33, 61]⟩, .string ⟨#[60]⟩, .string ⟨#[60, 61]⟩, .string ⟨#[62]⟩, .string ⟨#[62, 61]⟩, .string ⟨#[38, 38]⟩, .string ⟨#[124, 124]⟩, .string ⟨#[45]⟩, .string ⟨#[33]⟩, .string ⟨#[94]⟩]
def sgN : Array Value := #[.string ⟨#[]⟩, .string ⟨#[]⟩, .string ⟨#[]⟩, .string ⟨#[]⟩, .string ⟨#[]⟩, .string ⟨#[]⟩, .string ⟨#[]⟩, .string ⟨#[]⟩, .string ⟨#[]⟩, .string ⟨#[]⟩, .string ⟨#[]⟩, .string ⟨#[]⟩, .string ⟨#[]⟩, .string ⟨#[]⟩, .string ⟨#[]⟩, .string ⟨#[]⟩, .string ⟨#[]⟩, .string ⟨#[]⟩, .string ⟨#[]⟩, .string ⟨#[]⟩, .string ⟨#[]⟩, .string ⟨#[]⟩, .string ⟨#[]⟩]
theorem sgA_get {k : Int} (h0 : 0 ≤ k) (h : k ≤ 22) : sgA[k.toNat]? = some (.string (ba (Tm.sign k))) := by
  obtain ⟨j, rfl⟩ : ∃ j : Nat, k = (j : Int) := ⟨k.toNat, by omega⟩
  have hj : j < 23 := by omega
  have h1 : sgA = (Tm.signs.map fun s => Value.string (ba s)).toArray := by rfl
  show sgA[j]? = some (.string (ba (Tm.signs.getD j [])))
  rw [h1, List.getElem?_toArray, List.getElem?_map, List.getD_eq_getElem?_getD]
  cases e : Tm.signs[j]? with
  | none => have := List.getElem?_eq_none_iff.1 e; have : Tm.signs.length = 23 := rfl; omega
  | some s => rfl
theorem built_to {P : Program} {ops : Array Oper} {rest : List Oper} {o : Oper} {a : Act} {w : World} {Q : Exit → Act → World → Prop} (hg : o.guard = none) (t : TypeId) (parts : Array (Nat × Operand)) (ho : o.op = .build t parts) (cells : Array Value)
    (hf : P.built t (parts.map fun (i, x) => (i, a.eval x)).toList = some cells)
    (h : wpList P ops Q rest (a.put o.dst (.agg cells)) w) : wpList P ops Q (o :: rest) a w :=
  wpList_build hg t parts ho (by rw [hf]; rfl) (by rw [hf]; exact h)
theorem arr_new (w : World) (old cs : Array Value) (t : TypeId) : Fr w ((w.alloc (.cells old t)).setRow w.heap.size cs) ∧ ∀ j : Nat, ((w.alloc (.cells old t)).setRow w.heap.size cs).cell? ⟨w.heap.size, j, none⟩ = cs[j]? :=
  ⟨⟨rfl, rfl, rfl, by rw [size_setRow, size_alloc']; exact Nat.le_succ _, fun k hk _ => by rw [setRow_other _ _ _ _ (Nat.ne_of_lt hk)]; exact Below.heap_alloc _ _ _ hk⟩,
    fun j => cell_setRow_same _ _ _ old cs t (0, 0) (heap_alloc_new _ _)⟩
end Go.Proofs.YtllahgnpjodgmaaDoor

set_option linter.unusedVariables false
namespace Go.Proofs.YtllahgnpjodgmaaDoor
open Go Go.RowKit Mem Pm
open Tm (Part)
set_option maxRecDepth 100000 in
set_option maxHeartbeats 4000000 in
theorem sign_c (k : Int) (h0 : 0 ≤ k) (h : k ≤ 22) (w : World) : Calls Tryd.prog 83 #[.int .i64 k] w fun e w' => e = .returned (.string (ba (Tm.sign k))) ∧ Fr w w' := by
  have hcell := sgA_get h0 h
  have HC := Lib.hid hcell
  clear hcell
  generalize ba (Tm.sign k) = R at HC ⊢
  have h23 : k < 23 := by omega
  go_enter Tryd.func83, Tryd.ntmps83
  go_upto_region 1 with fail
  go_step
  apply built_to rfl 93 _ (by rfl) sgA ?_ ?_
  · kernel_rfl
  go_step
  go_step
  rename_i K2 hK2
  refine hK2 _ _ ?_
  show wpList _ _ _ _ _ (w.alloc (.cells sgN 93))
  refine wpList_store_row rfl 93 (.tmp 3) (.tmp 4) rfl w.heap.size sgA rfl rfl 93 sgN (heap_alloc_new _ _) (by kernel_rfl) rfl (by kernel_rfl) (wpList_nil ?_)
  obtain ⟨hfa, hwc⟩ := arr_new w sgN sgA 93
  have HF := Lib.hid hfa
  have hc := (hwc k.toNat).trans HC.out
  generalize (w.alloc _).setRow _ _ = W1 at HF hc ⊢
  generalize w.heap.size = g1 at hc ⊢
  clear hfa hwc HC
  go_wp2_with fail
  go_ret
  exact ⟨rfl, HF.out⟩
set_option maxRecDepth 100000 in
set_option maxHeartbeats 4000000 in
theorem value_c (k : Int) (b : Bool) (w : World) : Calls Tryd.prog 82 #[.int .i64 k, .bool b] w fun e w' => ∃ v, e = .returned v ∧ Gives w w' [.row 67 4 v (Tm.value k b).length (partsC (Tm.value k b))] := by
  cases b with
  | true =>
    go_enter Tryd.func82, Tryd.ntmps82
    go_wp2_with fail
    refine (say_c _ _).mono ?_
    rintro e w1 ⟨rfl, hf1⟩
    go_wp2_with fail
    refine (say_c _ _).mono ?_
    rintro e w2 ⟨rfl, hf2⟩
    have H := Lib.hid (((Hs.start w).ch0 (hf1.trans hf2)).alloc (partsC (Tm.value k true)) 67)
    clear hf1 hf2
    go_wp2_with fail
    go_ret
    refine ⟨_, rfl, gives_of ?_⟩
    exact H.out.asRow 0 rfl 4 3 rfl (by decide)
  | false =>
    have H := Lib.hid ((Hs.start w).alloc (partsC (Tm.value k false)) 67)
    go_enter Tryd.func82, Tryd.ntmps82
    go_wp2_with fail
    go_ret
    refine ⟨_, rfl, gives_of ?_⟩
    exact H.out.asRow 0 rfl 4 1 rfl (by decide)
/-- What the printer holds: its block, its list. -/
def PS (A : Nat → Prop) (w0 w : World) (p : Nat) (nd fu out : Value) (R : List Part) (rest : List Res) : Prop :=
  ∃ todo, Hs A w0 w (.blk p 64 [nd, fu, todo, out] :: .row 67 4 todo R.length (partsC R) :: rest)
set_option maxRecDepth 100000 in
set_option maxHeartbeats 8000000 in
theorem put_c {A : Nat → Prop} {w0 : World} (w : World) (p : Nat) (nd fu todo out js : Value) (R l : List Part) (rest : List Res)
    (H : Hs A w0 w (.row 67 4 js l.length (partsC l) :: .blk p 64 [nd, fu, todo, out] :: .row 67 4 todo R.length (partsC R) :: rest)) (hb : R.length + l.length ≤ 1000000000) :
    Calls Tryd.prog 31 #[.pointer (some ⟨p, 0, none⟩), js] w fun e w' => e = .returned (.tuple #[]) ∧ PS A w0 w' p nd fu out (R ++ l.reverse) rest := by
  obtain ⟨i0, hi0, hz0, hz1, hz2⟩ := info_parts infoJob
  obtain ⟨aj, cj, rfl, hcj, _⟩ := H.form 0 rfl
  have H0 := Lib.hid H
  have hlb : l.length ≤ 1000000000 := by omega
  clear H
  go_enter Tryd.func31, Tryd.ntmps31
  go_wp2_with fail
  go_loopg [4] l.length (fun m v4 wr => m ≤ l.length ∧ (∃ iv : Int, v4 = .int .i64 iv ∧ iv = (m : Int) - 1) ∧ ∃ td, Hs A w0 wr (.row 67 4 (.slice aj l.length cj) l.length (partsC l) :: .blk p 64 [nd, fu, td, out] :: .row 67 4 td (R.length + (l.length - m)) (partsC (R ++ (l.drop m).reverse)) :: rest))
  case atStart => exact ⟨Nat.le_refl _, ⟨_, rfl, rfl⟩, _, by rw [Nat.sub_self, Nat.add_zero, List.drop_length, List.reverse_nil, List.append_nil]; exact H0.out⟩
  case round =>
  obtain ⟨hm, ⟨iv, rfl, hiv⟩, td, hh⟩ := hrel
  cases gk with
  | zero =>
    have hiv' : iv = -1 := by omega
    subst hiv'
    have Hh := Lib.hid hh
    clear hh hiv
    go_wp2_with fail
    go_end0
    refine ⟨rfl, td, ?_⟩
    have := Hh.out.tail
    rw [List.drop_zero, Nat.sub_zero] at this
    rw [List.length_append, List.length_reverse]
    exact this
  | succ m =>
    have hx : l[m]? = some l[m] := List.getElem?_eq_getElem hm
    have hne : partsC l ≠ [] := fun h => by have := partsC_get hx 0 (by omega); rw [h] at this; cases this
    obtain ⟨g, rfl, hg⟩ := hh.rdRow 0 rfl hne
    have c0 : wr.cell? ⟨g, m * 4, none⟩ = _ := hg _ _ ((partsC_get hx 0 (by omega)).trans rfl)
    have c1 := hg _ _ ((partsC_get hx 1 (by omega)).trans rfl)
    have c2 := hg _ _ ((partsC_get hx 2 (by omega)).trans rfl)
    have c3 := hg _ _ ((partsC_get hx 3 (by omega)).trans rfl)
    have b2 := hh.cell 1 rfl 2 rfl
    have hdr : l.drop m = l[m] :: l.drop (m + 1) := List.drop_eq_getElem_cons hm
    have HDr := Lib.hid hdr
    have Hh := Lib.hid hh
    have hmi : (m : Int) < (l.length : Int) := by omega
    have hm0 : (0 : Int) ≤ (m : Int) := by omega
    have hiv' : iv = (m : Int) := by omega
    subst hiv'
    clear hx hne hg hdr hh hiv
    generalize l[m] = pt at c0 c1 c2 c3 HDr
    have Hn := Lib.hid (Hh.out.drew.alloc [.string pt.tx, .bool pt.isL, .int .i64 pt.num, .int .i64 pt.tabs] 67)
    have hrb : R.length + (l.length - (m + 1)) ≤ 1000000000 := by omega
    go_upto_region 3 with fail
    refine Reg.wp_region_text (by kernel_rfl) (by kernel_rfl) ?_
    go_wp2_with (at_builtin; go_must (refine Hs.push rfl _ _ 62 rfl 67 i0 _ 4 40 (by kernel_rfl) hi0 hz0 hz1 hz2 rfl (Nat.succ_pos _) (Nat.le_of_ble_eq_true rfl) 3 td (R.length + (l.length - (m + 1))) (partsC (R ++ (l.drop (m + 1)).reverse)) rfl 0 wr.heap.size [.string pt.tx, .bool pt.isL, .int .i64 pt.num, .int .i64 pt.tabs] rfl rfl rfl rfl rfl hrb Hn.out ?_))
    intro v1 w1 hh1
    have hz := hh1.froz 2 rfl 2
    have b3 := hh1.cell 2 rfl 2 rfl
    obtain ⟨ay, cy, rfl, _, _⟩ := hh1.form 3 rfl
    have H1 := Lib.hid ((hh1.tail).set_ 1 rfl 2 (.slice ay (R.length + (l.length - (m + 1)) + 1) cy))
    clear hh1 Hn c0 c1 c2 c3 b2
    go_wp2_with fail
    refine ⟨by kernel_rfl, ?_⟩
    go_wp2_with fail
    go_roundg m
    case measure => omega
    case rel =>
      refine ⟨by omega, ⟨_, rfl, by omega⟩, .slice ay (R.length + (l.length - (m + 1)) + 1) cy, ?_⟩
      have h := H1.out
      rw [HDr.out, List.reverse_cons, ← List.append_assoc, partsC_app (R ++ _) [pt], show R.length + (l.length - m) = R.length + (l.length - (m + 1)) + 1 by omega]
      exact h
end Go.Proofs.YtllahgnpjodgmaaDoor
