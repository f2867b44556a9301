/- tree.kids' closures, slices.Equal, slices.IndexFunc, slices.ContainsFunc at lists of numbers. -/
import Derived.Test.YtllahgnpjodgmaaDoorT1
import Derived.Deep.DeepCutAuto
set_option linter.unusedVariables false
namespace Go.Proofs.YtllahgnpjodgmaaDoor
open Go Go.RowKit Mem Pm

set_option maxRecDepth 100000 in
set_option maxHeartbeats 2000000 in
theorem kids2_c (k : Int) (w : World) : Calls Tryd.prog 61 #[.int .i64 k] w fun e w' => e = .returned (.bool (k == 3)) ∧ w = w' := by
  go_enter Tryd.func61, Tryd.ntmps61
  go_wp2_with fail
  go_ret
  exact ⟨rfl, rfl⟩
set_option maxRecDepth 100000 in
set_option maxHeartbeats 2000000 in
theorem kids3_c (k : Int) (w : World) : Calls Tryd.prog 62 #[.int .i64 k] w fun e w' => e = .returned (.bool (k == 2)) ∧ w = w' := by
  go_enter Tryd.func62, Tryd.ntmps62
  go_wp2_with fail
  go_ret
  exact ⟨rfl, rfl⟩
set_option maxRecDepth 100000 in
set_option maxHeartbeats 2000000 in
theorem kids4_c (k : Int) (b : Nat) (w : World) (h : w.cell? ⟨b, 0, none⟩ = some (.func (.func 61) #[] #[])) : Calls Tryd.prog 63 #[.int .i64 k, .pointer (some ⟨b, 0, none⟩)] w fun e w' => e = .returned (.bool (k == 3 || k == 10)) ∧ w = w' := by
  cases h3 : k == 3 with
  | true =>
    go_enter Tryd.func63, Tryd.ntmps63
    go_wp2_with (go_at_call 61; refine (kids2_c _ _).mono ?_; rintro e w' ⟨rfl, rfl⟩)
    go_ret
    exact ⟨by simp, rfl⟩
  | false =>
    go_enter Tryd.func63, Tryd.ntmps63
    go_wp2_with (go_at_call 61; refine (kids2_c _ _).mono ?_; rintro e w' ⟨rfl, rfl⟩)
    go_ret
    exact ⟨by simp, rfl⟩
/-- A predicate as a function value. -/
def IsFn (w : World) (iv : Value) (p : Int → Bool) : Prop :=
  (iv = .func (.func 47) #[] #[] ∧ p = Tm.isS) ∨ (iv = .func (.func 57) #[] #[] ∧ p = Tm.isE) ∨ (iv = .func (.func 62) #[] #[] ∧ p = (· == 2)) ∨
  ∃ b, iv = .func (.func 63) #[] #[.pointer (some ⟨b, 0, none⟩)] ∧ w.cell? ⟨b, 0, none⟩ = some (.func (.func 61) #[] #[]) ∧ p = fun x => x == 3 || x == 10
theorem IsFn.fr {w w' : World} {iv : Value} {p : Int → Bool} (h : IsFn w iv p) (hf : Fr w w') : IsFn w' iv p := by
  rcases h with h | h | h | ⟨b, h1, h2, h3⟩
  · exact .inl h
  · exact .inr (.inl h)
  · exact .inr (.inr (.inl h))
  · exact .inr (.inr (.inr ⟨b, h1, (World.cell?_of_block (hf.block b (block_lt_of_cell h2) id)).trans h2, h3⟩))
set_option maxRecDepth 100000 in
set_option maxHeartbeats 2000000 in
theorem kids11_c (k : Int) (bx : Nat) (iv : Value) (p : Int → Bool) (w : World) (h : w.cell? ⟨bx, 0, none⟩ = some iv) (hp : IsFn w iv p) : Calls Tryd.prog 60 #[.int .i64 k, .pointer (some ⟨bx, 0, none⟩)] w fun e w' => e = .returned (.bool (!p k)) ∧ w = w' := by
  rcases hp with ⟨rfl, rfl⟩ | ⟨rfl, rfl⟩ | ⟨rfl, rfl⟩ | ⟨b, rfl, hb, rfl⟩
  · go_enter Tryd.func60, Tryd.ntmps60
    go_wp2_with (go_at_call 47; refine (isS_c _ _).mono ?_; rintro e w' ⟨rfl, rfl⟩)
    go_ret
    exact ⟨rfl, rfl⟩
  · go_enter Tryd.func60, Tryd.ntmps60
    go_wp2_with (go_at_call 57; refine (isE_c _ _).mono ?_; rintro e w' ⟨rfl, rfl⟩)
    go_ret
    exact ⟨rfl, rfl⟩
  · go_enter Tryd.func60, Tryd.ntmps60
    go_wp2_with (go_at_call 62; refine (kids3_c _ _).mono ?_; rintro e w' ⟨rfl, rfl⟩)
    go_ret
    exact ⟨rfl, rfl⟩
  · go_enter Tryd.func60, Tryd.ntmps60
    go_wp2_with (go_at_call 63; refine (kids4_c _ b _ hb).mono ?_; rintro e w' ⟨rfl, rfl⟩)
    go_ret
    exact ⟨by simp, rfl⟩

/-- The first place at which a predicate fails, from the i-th on. -/
def idx (p : Int → Bool) : List Int → Nat → Int
  | [], _ => -1
  | x :: l, i => if p x = true then idx p l (i + 1) else (i : Int)
theorem idx_yes {p : Int → Bool} {x : Int} (h : p x = true) (l : List Int) (i : Nat) : idx p (x :: l) i = idx p l (i + 1) := if_pos h
theorem idx_no {p : Int → Bool} {x : Int} (h : p x = false) (l : List Int) (i : Nat) : idx p (x :: l) i = (i : Int) := if_neg (by rw [h]; decide)
theorem idx_all (p : Int → Bool) : ∀ (l : List Int) (i : Nat), decide (idx p l i < 0) = l.all p
  | [], i => by simp [idx]
  | x :: l, i => by
    unfold idx
    by_cases h : p x = true
    · rw [if_pos h, idx_all p l (i + 1), List.all_cons, h, Bool.true_and]
    · rw [if_neg h, List.all_cons]
      have : p x = false := by simpa using h
      rw [this, Bool.false_and, decide_eq_false_iff_not]
      omega
set_option maxRecDepth 100000 in
set_option maxHeartbeats 4000000 in
theorem idxFunc_c (l : List Int) (v : Value) (bx : Nat) (iv : Value) (p : Int → Bool) (w : World) (hr : RdS w v l.length (ints l)) (hl : l.length ≤ 9223372036854775807) (h : w.cell? ⟨bx, 0, none⟩ = some iv) (hp : IsFn w iv p) :
    Calls Tryd.prog 75 #[v, .func (.func 60) #[] #[.pointer (some ⟨bx, 0, none⟩)]] w fun e w' => e = .returned (.int .i64 (idx p l 0)) ∧ w = w' := by
  obtain ⟨a, c, rfl, hc, hr⟩ := hr
  have Hr := Lib.hid hr
  have HP := Lib.hid hp
  clear hr hp
  go_enter Tryd.func75, Tryd.ntmps75
  go_wp2_with fail
  go_loopg [8] l.length (fun m i wr => w = wr ∧ ∃ k : Nat, k + m = l.length ∧ i = .int .i64 (k : Int) ∧ idx p (l.drop k) k = idx p l 0)
  case atStart => exact ⟨rfl, 0, by omega, rfl, rfl⟩
  case round =>
  obtain ⟨rfl, k, hk, rfl, hd⟩ := hrel
  have HD := Lib.hid hd
  clear hd
  by_cases hlt : k < l.length
  · have hki : (k : Int) < (l.length : Int) := by omega
    have hk0 : (0 : Int) ≤ (k : Int) := by omega
    have hx : l[k]? = some l[k] := List.getElem?_eq_getElem hlt
    obtain ⟨g, off, rfl, h2⟩ := Hr.out (fun h0 => by have h3 := ints_len l; rw [h0] at h3; simp at h3; omega)
    have c1 := h2 k _ (ints_get hx)
    have hdd : l.drop k = l[k] :: l.drop (k + 1) := List.drop_eq_getElem_cons hlt
    have HDD := Lib.hid hdd
    clear h2 hx hdd
    generalize l[k] = x at c1 HDD
    cases hpx : p x with
    | true =>
      go_wp2_with (go_at_call 60; refine (kids11_c x bx iv p _ h HP.out).mono ?_; rintro e w' ⟨rfl, rfl⟩)
      go_roundg (gk - 1)
      case measure => omega
      case rel => exact ⟨rfl, k + 1, by omega, by go_num, by rw [← HD.out, HDD.out, idx_yes hpx]⟩
    | false =>
      have hres : idx p l 0 = (k : Int) := by rw [← HD.out, HDD.out, idx_no hpx]
      have HR := Lib.hid hres
      clear hres
      go_wp2_with (go_at_call 60; refine (kids11_c x bx iv p _ h HP.out).mono ?_; rintro e w' ⟨rfl, rfl⟩)
      go_ret
      exact ⟨by rw [HR.out]; rfl, rfl⟩
  · obtain rfl : k = l.length := by omega
    have hki : ¬ (l.length : Int) < (l.length : Int) := by omega
    have hres : idx p l 0 = -1 := by rw [← HD.out, List.drop_length]; rfl
    have HR := Lib.hid hres
    clear hres
    go_wp2_with fail
    go_ret
    exact ⟨by rw [HR.out]; rfl, rfl⟩
set_option maxRecDepth 100000 in
set_option maxHeartbeats 4000000 in
theorem contFunc_c (l : List Int) (v : Value) (bx : Nat) (iv : Value) (p : Int → Bool) (w : World) (hr : RdS w v l.length (ints l)) (hl : l.length ≤ 9223372036854775807) (h : w.cell? ⟨bx, 0, none⟩ = some iv) (hp : IsFn w iv p) :
    Calls Tryd.prog 59 #[v, .func (.func 60) #[] #[.pointer (some ⟨bx, 0, none⟩)]] w fun e w' => e = .returned (.bool (!l.all p)) ∧ w = w' := by
  have hfin : decide (0 ≤ idx p l 0) = !l.all p := by
    rw [← idx_all p l 0]
    by_cases h : idx p l 0 < 0
    · rw [decide_eq_true h, decide_eq_false (by omega)]; rfl
    · rw [decide_eq_false h, decide_eq_true (by omega)]; rfl
  have HF := Lib.hid hfin
  have HP := Lib.hid hp
  have Hr := Lib.hid hr
  clear hfin hp hr
  go_enter Tryd.func59, Tryd.ntmps59
  go_wp2_with fail
  refine (idxFunc_c l v bx iv p w Hr.out hl h HP.out).mono ?_
  rintro e w' ⟨rfl, rfl⟩
  go_wp2_with fail
  go_ret
  exact ⟨by rw [← HF.out]; rfl, rfl⟩
set_option maxRecDepth 100000 in
set_option maxHeartbeats 4000000 in
theorem all_c (l : List Int) (v iv : Value) (p : Int → Bool) (w : World) (hr : RdS w v l.length (ints l)) (hl : l.length ≤ 9223372036854775807) (hp : IsFn w iv p) :
    Calls Tryd.prog 58 #[v, iv] w fun e w' => e = .returned (.bool (l.all p)) ∧ Fr w w' := by
  have hf : Fr w (w.alloc (.cells #[iv] 80)) := (Ch.refl _ _).alloc _
  have hpf := hp.fr hf
  have hrf := hr.fr hf
  have hcell : (w.alloc (.cells #[iv] 80)).cell? ⟨w.heap.size, 0, none⟩ = some iv := by simp
  clear hr
  rcases hp with ⟨rfl, rfl⟩ | ⟨rfl, rfl⟩ | ⟨rfl, rfl⟩ | ⟨b, rfl, hb, rfl⟩
  all_goals
    have HFr := Lib.hid hf
    have Hr := Lib.hid hrf
    have HP := Lib.hid hpf
    have HC := Lib.hid hcell
    clear hf hrf hpf hcell
    go_enter Tryd.func58, Tryd.ntmps58
    go_wp2_with fail
    refine (contFunc_c l v w.heap.size _ _ _ Hr.out hl HC.out HP.out).mono ?_
    rintro e w' ⟨rfl, rfl⟩
    go_wp2_with fail
    go_ret
    exact ⟨by simp, HFr.out⟩

set_option maxRecDepth 100000 in
set_option maxHeartbeats 4000000 in
theorem equal_c (l m : List Int) (v v2 : Value) (w : World) (hr : RdS w v l.length (ints l)) (hr2 : RdS w v2 m.length (ints m)) (hl : l.length ≤ 9223372036854775807) (hm : m.length ≤ 9223372036854775807) :
    Calls Tryd.prog 37 #[v, v2] w fun e w' => e = .returned (.bool (decide (l = m))) ∧ Fr w w' := by
  obtain ⟨a, c, rfl, hc, hr⟩ := hr
  obtain ⟨a2, c2, rfl, hc2, hr2⟩ := hr2
  have Hr := Lib.hid hr
  have Hr2 := Lib.hid hr2
  clear hr hr2
  by_cases hlen : l.length = m.length
  case neg =>
    have hne : ((l.length : Int) != (m.length : Int)) = true := by rw [bne_iff_ne]; omega
    have hf : decide (l = m) = false := decide_eq_false fun h => hlen (by rw [h])
    have HF := Lib.hid hf
    clear hf hlen
    go_enter Tryd.func37, Tryd.ntmps37
    go_wp2_with fail
    go_ret
    exact ⟨by rw [HF.out]; rfl, Ch.refl _ _⟩
  have hne : ((l.length : Int) != (m.length : Int)) = false := by rw [bne_eq_false_iff_eq]; omega
  have HL := Lib.hid hlen
  clear hlen
  go_enter Tryd.func37, Tryd.ntmps37
  go_wp2_with fail
  go_loopg [13] l.length (fun n i wr => Fr w wr ∧ ∃ k : Nat, k + n = l.length ∧ i = .int .i64 (k : Int) ∧ l.take k = m.take k)
  case atStart => exact ⟨Ch.refl _ _, 0, by omega, rfl, rfl⟩
  case round =>
  obtain ⟨hf, k, hk, rfl, ht⟩ := hrel
  have HT := Lib.hid ht
  have HFr := Lib.hid hf
  clear ht hf
  by_cases hlt : k < l.length
  · have hki : (k : Int) < (l.length : Int) := by omega
    have hk0 : (0 : Int) ≤ (k : Int) := by omega
    have hlt2 : k < m.length := by have := HL.out; omega
    have hki2 : (k : Int) < (m.length : Int) := by omega
    have hx : l[k]? = some l[k] := List.getElem?_eq_getElem hlt
    have hx2 : m[k]? = some m[k] := List.getElem?_eq_getElem hlt2
    obtain ⟨g, off, rfl, h2⟩ := Hr.out (fun h0 => by have h3 := ints_len l; rw [h0] at h3; simp at h3; omega)
    obtain ⟨g2, off2, rfl, h22⟩ := Hr2.out (fun h0 => by have h3 := ints_len m; rw [h0] at h3; simp at h3; omega)
    have c1' := h2 k _ (ints_get hx)
    have c2' := h22 k _ (ints_get hx2)
    have c1 := (World.cell?_of_block (HFr.out.block g (block_lt_of_cell c1') id)).trans c1'
    have c2 := (World.cell?_of_block (HFr.out.block g2 (block_lt_of_cell c2') id)).trans c2'
    have HX := Lib.hid hx
    have HX2 := Lib.hid hx2
    clear h2 h22 c1' c2' hx hx2
    generalize l[k] = x at c1 HX
    generalize m[k] = y at c2 HX2
    go_wp2_with fail
    go_quiet (fail)
    by_cases hxy : x = y
    · have hb : (x != y) = false := by rw [bne_eq_false_iff_eq]; exact hxy
      have HXY := Lib.hid hxy
      have HF2 := Lib.hid (HFr.out.drewN nq)
      clear hxy
      go_wp2_with fail
      go_roundg (gk - 1)
      case measure => omega
      case rel => exact ⟨HF2.out, k + 1, by omega, by go_num, by rw [List.take_add_one, List.take_add_one, HT.out, HX.out, HX2.out, HXY.out]⟩
    · have hb : (x != y) = true := by rw [bne_iff_ne]; exact hxy
      have hf : decide (l = m) = false := decide_eq_false fun h => by
        have h1 := HX.out
        rw [h, HX2.out] at h1
        exact hxy (Option.some.inj h1).symm
      have HF := Lib.hid hf
      have HF2 := Lib.hid (HFr.out.drewN nq)
      clear hxy hf
      go_wp2_with fail
      go_ret
      exact ⟨by rw [HF.out]; rfl, HF2.out⟩
  · obtain rfl : k = l.length := by omega
    have hki : ¬ (l.length : Int) < (l.length : Int) := by omega
    have hf : decide (l = m) = true := decide_eq_true (by
      have := HT.out
      rwa [List.take_length, HL.out, List.take_length] at this)
    have HF := Lib.hid hf
    clear hf
    go_wp2_with fail
    go_ret
    exact ⟨by rw [HF.out]; rfl, HFr.out⟩
end Go.Proofs.YtllahgnpjodgmaaDoor
