/- The printer's jobs, and its small functions: say, margin, typeName, sign, level, value. -/
import Derived.Test.YtllahgnpjodgmaaDoorT8
import Derived.Test.YtllahgnpjodgmaaDoorTp
import Derived.Deep.DeepCutAuto
set_option linter.unusedVariables false
namespace Go.Proofs.YtllahgnpjodgmaaDoor
open Go Go.RowKit Mem Pm
def ba (l : List UInt8) : ByteArray := ⟨l.toArray⟩
theorem ba_nm (n : Nd) : ba (Tm.nm n) = n.name := by unfold ba Tm.nm; simp
namespace Tm
def Part.tx : Part → ByteArray
  | .s l => ba l
  | _ => ⟨#[]⟩
def Part.isL : Part → Bool
  | .ln _ => true
  | _ => false
def Part.num : Part → Int
  | .k x _ => x
  | _ => 0
def Part.tabs : Part → Int
  | .s _ => 0
  | .ln x => (x : Int)
  | .k _ x => (x : Int)
/-- A job's cells. -/
def Part.C (p : Part) : List Value := [.string p.tx, .bool p.isL, .int .i64 p.num, .int .i64 p.tabs]
def Part.V (p : Part) : Value := .agg #[.string p.tx, .bool p.isL, .int .i64 p.num, .int .i64 p.tabs]
end Tm
open Tm (Part)
def partsC (l : List Part) : List Value := l.flatMap Part.C
theorem partsC_len (l : List Part) : (partsC l).length = l.length * 4 := by
  induction l with
  | nil => rfl
  | cons p l ih => show (p.C ++ partsC l).length = _; rw [List.length_append, ih, List.length_cons]; show 4 + _ = _; omega
theorem partsC_app (a b : List Part) : partsC (a ++ b) = partsC a ++ partsC b := by unfold partsC; rw [List.flatMap_append]
theorem partsC_get {l : List Part} {i : Nat} {p : Part} (h : l[i]? = some p) (j : Nat) (hj : j < 4) : (partsC l)[i * 4 + j]? = p.C[j]? := by
  induction l generalizing i with
  | nil => cases h
  | cons q l ih =>
    show (q.C ++ partsC l)[i * 4 + j]? = _
    cases i with
    | zero =>
      injection h with h
      subst h
      rw [Nat.zero_mul, Nat.zero_add, List.getElem?_append_left (by show j < 4; exact hj)]
    | succ i =>
      rw [List.getElem?_append_right (by show 4 ≤ _; omega)]
      have : (i + 1) * 4 + j - q.C.length = i * 4 + j := by show (i + 1) * 4 + j - 4 = _; omega
      rw [this]
      exact ih h
theorem infoJob : (Tryd.prog.info? 67).map (fun i => (i.zero, i.size, i.bytes)) = some (some (.agg #[.string ⟨#[]⟩, .bool false, .int .i64 0, .int .i64 0]), 4, 40) := by kernel_rfl

theorem jobTy : ∃ x, Tryd.prog.underlying 67 = some (.struct x) := by
  have hb : (match Tryd.prog.underlying 67 with | some (.struct _) => true | _ => false) = true := by kernel_rfl
  generalize Tryd.prog.underlying 67 = o at hb
  cases o with
  | none => cases hb
  | some t => cases t <;> first | exact ⟨_, rfl⟩ | cases hb

set_option maxRecDepth 100000 in
set_option maxHeartbeats 2000000 in
theorem say_c (s : ByteArray) (w : World) : Calls Tryd.prog 69 #[.string s] w fun e w' => e = .returned (.agg #[.string s, .bool false, .int .i64 0, .int .i64 0]) ∧ Fr w w' := by
  have H0 := Lib.hid ((Hs.start w).alloc [.string ⟨#[]⟩, .bool false, .int .i64 0, .int .i64 0] 67)
  go_enter Tryd.func69, Tryd.ntmps69
  go_wp2_with fail
  obtain ⟨x, hu⟩ := jobTy
  refine bodyPost_ret (results_cell_row (p := 2) (ty := 67) rfl _ _ w.heap.size 67 _ (0, 0) _ rfl (heap_alloc_new _ _) hu rfl (by kernel_rfl)) rfl ⟨rfl, (Ch.refl _ _).alloc _⟩
set_option maxRecDepth 100000 in
set_option maxHeartbeats 2000000 in
theorem margin_c (t : Int) (w : World) : Calls Tryd.prog 71 #[.int .i64 t] w fun e w' => e = .returned (.agg #[.string ⟨#[]⟩, .bool true, .int .i64 0, .int .i64 t]) ∧ Fr w w' := by
  have H0 := Lib.hid ((Hs.start w).alloc [.string ⟨#[]⟩, .bool false, .int .i64 0, .int .i64 0] 67)
  go_enter Tryd.func71, Tryd.ntmps71
  go_wp2_with fail
  obtain ⟨x, hu⟩ := jobTy
  refine bodyPost_ret (results_cell_row (p := 2) (ty := 67) rfl _ _ w.heap.size 67 _ (0, 0) _ rfl (heap_alloc_new _ _) hu rfl (by kernel_rfl)) rfl ⟨rfl, (Ch.refl _ _).alloc _⟩
set_option maxRecDepth 100000 in
set_option maxHeartbeats 2000000 in
theorem typeName_c (t : Int) (w : World) : Calls Tryd.prog 70 #[.int .i64 t] w fun e w' => e = .returned (.string (ba (Tm.typeName t))) ∧ w = w' := by
  obtain ⟨R, hR⟩ : ∃ R, R = ba (Tm.typeName t) := ⟨_, rfl⟩
  rw [← hR]
  have HR := Lib.hid hR
  clear hR
  cases e1 : (t == 1) with
  | true =>
    have h : Hid (R = ⟨#[105, 110, 116]⟩) := Lib.hid (by rw [HR.out]; unfold Tm.typeName; rw [if_pos (beq_iff_eq.1 e1)]; rfl)
    go_enter Tryd.func70, Tryd.ntmps70
    go_wp2_with fail
    go_ret
    exact ⟨by rw [h.out]; rfl, rfl⟩
  | false =>
    cases e2 : (t == 2) with
    | true =>
      have h : Hid (R = ⟨#[98, 111, 111, 108]⟩) := Lib.hid (by rw [HR.out]; unfold Tm.typeName; rw [if_neg (beq_eq_false_iff_ne.1 e1), if_pos (beq_iff_eq.1 e2)]; rfl)
      go_enter Tryd.func70, Tryd.ntmps70
      go_wp2_with fail
      go_ret
      exact ⟨by rw [h.out]; rfl, rfl⟩
    | false =>
      have h : Hid (R = ⟨#[91, 93, 105, 110, 116]⟩) := Lib.hid (by rw [HR.out]; unfold Tm.typeName; rw [if_neg (beq_eq_false_iff_ne.1 e1), if_neg (beq_eq_false_iff_ne.1 e2)]; rfl)
      go_enter Tryd.func70, Tryd.ntmps70
      go_wp2_with fail
      go_ret
      exact ⟨by rw [h.out]; rfl, rfl⟩
set_option maxRecDepth 100000 in
set_option maxHeartbeats 4000000 in
theorem level_c (n : Nd) (kv : Value) (w : World) : Calls Tryd.prog 81 #[ndV n kv] w fun e w' => e = .returned (.int .i64 (Tm.level n)) ∧ Fr w w' := by
  obtain ⟨k, a1, a2, a3, a4, a5, a6, a7, nm, ks⟩ := n
  obtain ⟨R, hR⟩ : ∃ R : Int, R = Tm.level ⟨k, a1, a2, a3, a4, a5, a6, a7, nm, ks⟩ := ⟨_, rfl⟩
  rw [← hR]
  have HR : Hid (R = if k = 30 then 6 else if k ≠ 31 then 7 else if a6 = 19 then 1 else if a6 = 18 then 2 else if 12 ≤ a6 ∧ a6 ≤ 17 then 3 else if a6 = 1 ∨ a6 = 2 ∨ a6 = 7 ∨ a6 = 8 then 4 else 5) := Lib.hid hR
  clear hR
  have h0 : Fr w (w.alloc (.cells #[.int .i64 k, .int .i64 a1, .int .i64 a2, .int .i64 a3, .int .i64 a4, .int .i64 a5, .int .i64 a6, .int .i64 a7, .string nm, kv] 45)) := (Ch.refl _ _).alloc _
  have H0 := Lib.hid h0
  clear h0
  unfold ndV
  dsimp only
  rcases (show k = 30 ∨ (k ≠ 30 ∧ k ≠ 31) ∨ (k = 31 ∧ (a6 = 19 ∨ a6 = 18 ∨ a6 = 12 ∨ a6 = 13 ∨ a6 = 14 ∨ a6 = 15 ∨ a6 = 16 ∨ a6 = 17 ∨ a6 = 1 ∨ a6 = 2 ∨ a6 = 7 ∨ a6 = 8 ∨ (a6 ≠ 19 ∧ a6 ≠ 18 ∧ a6 ≠ 12 ∧ a6 ≠ 13 ∧ a6 ≠ 14 ∧ a6 ≠ 15 ∧ a6 ≠ 16 ∧ a6 ≠ 17 ∧ a6 ≠ 1 ∧ a6 ≠ 2 ∧ a6 ≠ 7 ∧ a6 ≠ 8))) by omega) with rfl | ⟨h1, h2⟩ | ⟨rfl, rfl | rfl | rfl | rfl | rfl | rfl | rfl | rfl | rfl | rfl | rfl | rfl | ⟨n1, n2, n3, n4, n5, n6, n7, n8, n9, n10, n11, n12⟩⟩
  · have h : Hid (R = 6) := Lib.hid (by rw [HR.out]; rfl)
    go_enter Tryd.func81, Tryd.ntmps81
    go_wp2_with fail
    go_ret
    exact ⟨by rw [h.out]; rfl, H0.out⟩
  · have h : Hid (R = 7) := Lib.hid (by rw [HR.out, if_neg h1, if_pos h2])
    have e1 : (k == 30) = false := beq_eq_false_iff_ne.2 h1
    have e2 : (k != 31) = true := bne_iff_ne.2 h2
    go_enter Tryd.func81, Tryd.ntmps81
    go_wp2_with fail
    go_ret
    exact ⟨by rw [h.out]; rfl, H0.out⟩
  · have h : Hid (R = 1) := Lib.hid (by rw [HR.out]; rfl)
    go_enter Tryd.func81, Tryd.ntmps81
    go_wp2_with fail
    go_ret
    exact ⟨by rw [h.out]; rfl, H0.out⟩
  · have h : Hid (R = 2) := Lib.hid (by rw [HR.out]; rfl)
    go_enter Tryd.func81, Tryd.ntmps81
    go_wp2_with fail
    go_ret
    exact ⟨by rw [h.out]; rfl, H0.out⟩
  · have h : Hid (R = 3) := Lib.hid (by rw [HR.out]; rfl)
    go_enter Tryd.func81, Tryd.ntmps81
    go_wp2_with fail
    go_ret
    exact ⟨by rw [h.out]; rfl, H0.out⟩
  · have h : Hid (R = 3) := Lib.hid (by rw [HR.out]; rfl)
    go_enter Tryd.func81, Tryd.ntmps81
    go_wp2_with fail
    go_ret
    exact ⟨by rw [h.out]; rfl, H0.out⟩
  · have h : Hid (R = 3) := Lib.hid (by rw [HR.out]; rfl)
    go_enter Tryd.func81, Tryd.ntmps81
    go_wp2_with fail
    go_ret
    exact ⟨by rw [h.out]; rfl, H0.out⟩
  · have h : Hid (R = 3) := Lib.hid (by rw [HR.out]; rfl)
    go_enter Tryd.func81, Tryd.ntmps81
    go_wp2_with fail
    go_ret
    exact ⟨by rw [h.out]; rfl, H0.out⟩
  · have h : Hid (R = 3) := Lib.hid (by rw [HR.out]; rfl)
    go_enter Tryd.func81, Tryd.ntmps81
    go_wp2_with fail
    go_ret
    exact ⟨by rw [h.out]; rfl, H0.out⟩
  · have h : Hid (R = 3) := Lib.hid (by rw [HR.out]; rfl)
    go_enter Tryd.func81, Tryd.ntmps81
    go_wp2_with fail
    go_ret
    exact ⟨by rw [h.out]; rfl, H0.out⟩
  · have h : Hid (R = 4) := Lib.hid (by rw [HR.out]; rfl)
    go_enter Tryd.func81, Tryd.ntmps81
    go_wp2_with fail
    go_ret
    exact ⟨by rw [h.out]; rfl, H0.out⟩
  · have h : Hid (R = 4) := Lib.hid (by rw [HR.out]; rfl)
    go_enter Tryd.func81, Tryd.ntmps81
    go_wp2_with fail
    go_ret
    exact ⟨by rw [h.out]; rfl, H0.out⟩
  · have h : Hid (R = 4) := Lib.hid (by rw [HR.out]; rfl)
    go_enter Tryd.func81, Tryd.ntmps81
    go_wp2_with fail
    go_ret
    exact ⟨by rw [h.out]; rfl, H0.out⟩
  · have h : Hid (R = 4) := Lib.hid (by rw [HR.out]; rfl)
    go_enter Tryd.func81, Tryd.ntmps81
    go_wp2_with fail
    go_ret
    exact ⟨by rw [h.out]; rfl, H0.out⟩
  · have h : Hid (R = 5) := Lib.hid (by rw [HR.out, if_neg (by decide), if_neg (by decide), if_neg n1, if_neg n2, if_neg (by omega), if_neg (by omega)])
    have e0 : (a6 == 19) = false := beq_eq_false_iff_ne.2 n1
    have e1 : (a6 == 18) = false := beq_eq_false_iff_ne.2 n2
    have e2 : (a6 == 12) = false := beq_eq_false_iff_ne.2 n3
    have e3 : (a6 == 13) = false := beq_eq_false_iff_ne.2 n4
    have e4 : (a6 == 14) = false := beq_eq_false_iff_ne.2 n5
    have e5 : (a6 == 15) = false := beq_eq_false_iff_ne.2 n6
    have e6 : (a6 == 16) = false := beq_eq_false_iff_ne.2 n7
    have e7 : (a6 == 17) = false := beq_eq_false_iff_ne.2 n8
    have e8 : (a6 == 1) = false := beq_eq_false_iff_ne.2 n9
    have e9 : (a6 == 2) = false := beq_eq_false_iff_ne.2 n10
    have e10 : (a6 == 7) = false := beq_eq_false_iff_ne.2 n11
    have e11 : (a6 == 8) = false := beq_eq_false_iff_ne.2 n12
    go_enter Tryd.func81, Tryd.ntmps81
    go_wp2_with fail
    go_ret
    exact ⟨by rw [h.out]; rfl, H0.out⟩
def sgA : Array Value := #[.string ⟨#[]⟩, .string ⟨#[43]⟩, .string ⟨#[45]⟩, .string ⟨#[42]⟩, .string ⟨#[47]⟩, .string ⟨#[37]⟩, .string ⟨#[38]⟩, .string ⟨#[124]⟩, .string ⟨#[94]⟩, .string ⟨#[38, 94]⟩, .string ⟨#[60, 60]⟩, .string ⟨#[62, 62]⟩, .string ⟨#[61, 61]⟩, .string ⟨#[33, 61]⟩, .string ⟨#[60]⟩, .string ⟨#[60, 61]⟩, .string ⟨#[62]⟩, .string ⟨#[62, 61]⟩, .string ⟨#[38, 38]⟩, .string ⟨#[124, 124]⟩, .string ⟨#[45]⟩, .string ⟨#[33]⟩, .string ⟨#[94]⟩]
def sgN : Array Value := #[.string ⟨#[]⟩, .string ⟨#[]⟩, .string ⟨#[]⟩, .string ⟨#[]⟩, .string ⟨#[]⟩, .string ⟨#[]⟩, .string ⟨#[]⟩, .string ⟨#[]⟩, .string ⟨#[]⟩, .string ⟨#[]⟩, .string ⟨#[]⟩, .string ⟨#[]⟩, .string ⟨#[]⟩, .string ⟨#[]⟩, .string ⟨#[]⟩, .string ⟨#[]⟩, .string ⟨#[]⟩, .string ⟨#[]⟩, .string ⟨#[]⟩, .string ⟨#[]⟩, .string ⟨#[]⟩, .string ⟨#[]⟩, .string ⟨#[]⟩]
theorem sgA_get {k : Int} (h0 : 0 ≤ k) (h : k ≤ 22) : sgA[k.toNat]? = some (.string (ba (Tm.sign k))) := by
  obtain ⟨j, rfl⟩ : ∃ j : Nat, k = (j : Int) := ⟨k.toNat, by omega⟩
  have hj : j < 23 := by omega
  have h1 : sgA = (Tm.signs.map fun s => Value.string (ba s)).toArray := by rfl
  show sgA[j]? = some (.string (ba (Tm.signs.getD j [])))
  rw [h1, List.getElem?_toArray, List.getElem?_map, List.getD_eq_getElem?_getD]
  cases e : Tm.signs[j]? with
  | none => have := List.getElem?_eq_none_iff.1 e; have : Tm.signs.length = 23 := rfl; omega
  | some s => rfl
theorem built_to {P : Program} {ops : Array Oper} {rest : List Oper} {o : Oper} {a : Act} {w : World} {Q : Exit → Act → World → Prop} (hg : o.guard = none) (t : TypeId) (parts : Array (Nat × Operand)) (ho : o.op = .build t parts) (cells : Array Value)
    (hf : P.built t (parts.map fun (i, x) => (i, a.eval x)).toList = some cells)
    (h : wpList P ops Q rest (a.put o.dst (.agg cells)) w) : wpList P ops Q (o :: rest) a w :=
  wpList_build hg t parts ho (by rw [hf]; rfl) (by rw [hf]; exact h)
theorem arr_new (w : World) (old cs : Array Value) (t : TypeId) : Fr w ((w.alloc (.cells old t)).setRow w.heap.size cs) ∧ ∀ j : Nat, ((w.alloc (.cells old t)).setRow w.heap.size cs).cell? ⟨w.heap.size, j, none⟩ = cs[j]? :=
  ⟨⟨rfl, rfl, rfl, by rw [size_setRow, size_alloc']; exact Nat.le_succ _, fun k hk _ => by rw [setRow_other _ _ _ _ (Nat.ne_of_lt hk)]; exact Below.heap_alloc _ _ _ hk⟩,
    fun j => cell_setRow_same _ _ _ old cs t (0, 0) (heap_alloc_new _ _)⟩
end Go.Proofs.YtllahgnpjodgmaaDoor
