/- quernref2's cutting of a text into tokens, on plain data, and its small functions: blank, row.
quernref2's number, signs, token: what their calls do.
quernref2's signs.
quernref2's token: what the call does.
quernref2's token at a digit.
quernref2's token at a sign.
quernref2's Tokens: what the call does. -/
import Derived.Test.YthodjlhjfaccpaaLp
import Derived.IntWalk
set_option linter.unusedVariables false
namespace Go.Proofs.Ythodjlhjfaccpaa
open Go Go.RowKit Mem Pm

namespace Lx
def isB (c : UInt8) : Bool := c == 9 || c == 10 || c == 13 || c == 32
def bad (c : UInt8) : Bool := c != 9 && c != 13 && (decide (c.toNat < 32) || decide (126 < c.toNat))
/-- Where a comment ends; false: a byte that may not be. -/
def comm (l : List UInt8) : Nat → Nat → Nat × Bool
  | 0, i => (i, true)
  | m + 1, i => match l[i]? with
    | none => (i, true)
    | some c => if c = 10 then (i, true) else if bad c = true then (i, false) else comm l m (i + 1)
def blank (l : List UInt8) : Nat → Nat → Nat × Bool
  | 0, i => (i, true)
  | m + 1, i => match l[i]? with
    | none => (i, true)
    | some c => if isB c = true then blank l m (i + 1)
      else if c = 47 ∧ l[i + 1]? = some 47 then (match comm l (l.length - i + 1) i with
        | (j, true) => blank l m j
        | (j, false) => (j, false))
      else (i, true)
/-- Where letters and digits end, or digits alone. -/
def row (l : List UInt8) (b : Bool) : Nat → Nat → Nat
  | 0, i => i
  | m + 1, i => match l[i]? with
    | none => i
    | some c => if digit c = true ∨ (b = true ∧ letter c = true) then row l b m (i + 1) else i
theorem comm_le (l : List UInt8) : ∀ (m i : Nat), i ≤ l.length → i ≤ (comm l m i).1 ∧ (comm l m i).1 ≤ l.length
  | 0, i, h => ⟨Nat.le_refl _, h⟩
  | m + 1, i, h => by
    unfold comm
    cases hx : l[i]? with
    | none => exact ⟨Nat.le_refl _, h⟩
    | some c =>
      have hi := (List.getElem?_eq_some_iff.1 hx).1
      dsimp only
      split
      · exact ⟨Nat.le_refl _, h⟩
      · split
        · exact ⟨Nat.le_refl _, h⟩
        · have := comm_le l m (i + 1) hi; omega
theorem row_le (l : List UInt8) (b : Bool) : ∀ (m i : Nat), i ≤ l.length → i ≤ row l b m i ∧ row l b m i ≤ l.length
  | 0, i, h => ⟨Nat.le_refl _, h⟩
  | m + 1, i, h => by
    unfold row
    cases hx : l[i]? with
    | none => exact ⟨Nat.le_refl _, h⟩
    | some c =>
      have hi := (List.getElem?_eq_some_iff.1 hx).1
      dsimp only
      split
      · have := row_le l b m (i + 1) hi; omega
      · exact ⟨Nat.le_refl _, h⟩
theorem blank_le (l : List UInt8) : ∀ (m i : Nat), i ≤ l.length → i ≤ (blank l m i).1 ∧ (blank l m i).1 ≤ l.length
  | 0, i, h => ⟨Nat.le_refl _, h⟩
  | m + 1, i, h => by
    unfold blank
    cases hx : l[i]? with
    | none => exact ⟨Nat.le_refl _, h⟩
    | some c =>
      have hi := (List.getElem?_eq_some_iff.1 hx).1
      dsimp only
      split
      · have := blank_le l m (i + 1) hi; omega
      · split
        · have h2 := comm_le l (l.length - i + 1) i h
          cases hc : comm l (l.length - i + 1) i with
          | mk j b =>
            rw [hc] at h2
            cases b
            · exact h2
            · have := blank_le l m j h2.2; dsimp only at h2 ⊢; omega
        · exact ⟨Nat.le_refl _, h⟩
end Lx

/-- A text in memory. -/
def bytesC (l : List UInt8) : List Value := l.map fun c => .int .u8 (c.toNat : Int)
theorem bytesC_get {l : List UInt8} {i : Nat} {c : UInt8} (h : l[i]? = some c) : (bytesC l)[i]? = some (.int .u8 (c.toNat : Int)) := by unfold bytesC; rw [List.getElem?_map, h]; rfl
theorem u8_eq {c : UInt8} {n : Nat} (h : n < 256) : (c.toNat : Int) = (n : Int) ↔ c = UInt8.ofNat n := by
  constructor
  · intro h1
    apply UInt8.toNat_inj.1
    rw [UInt8.toNat_ofNat']
    omega
  · intro h1
    rw [h1, UInt8.toNat_ofNat']
    omega
theorem u8_beq (c : UInt8) (n : Nat) (h : n < 256) : ((c.toNat : Int) == (n : Int)) = (c == UInt8.ofNat n) := by
  rw [Bool.eq_iff_iff, beq_iff_eq, beq_iff_eq, u8_eq h]

set_option maxRecDepth 100000 in
set_option maxHeartbeats 8000000 in
theorem refRow_c (l : List UInt8) (a : Option Addr) (cap : Nat) (i0 : Nat) (b : Bool) (w : World) (h : RdS w (.slice a l.length cap) l.length (bytesC l)) (hi : i0 ≤ l.length) (hl : l.length ≤ 1000000) :
    Calls Try.prog 29 #[.slice a l.length cap, .int .i64 (i0 : Int), .bool b] w fun e w' => e = .returned (.int .i64 (Lx.row l b (l.length + 1) i0 : Nat)) ∧ w = w' := by
  obtain ⟨a', cap', he, hc, hr⟩ := h
  injection he with he1 _ he2
  subst he1 he2
  have Hr := Lib.hid hr
  generalize hR : Lx.row l b (l.length + 1) i0 = R
  have HR := Lib.hid hR
  clear hr hR
  go_enter Try.func29, Try.ntmps29
  go_wp2_with fail
  go_loopg [1] (l.length + 1) (fun m v wr => w = wr ∧ ∃ i : Nat, v = .int .i64 (i : Int) ∧ i ≤ l.length ∧ l.length < m + i ∧ Lx.row l b m i = R)
  case atStart => exact ⟨rfl, i0, rfl, hi, by omega, HR.out⟩
  case round =>
    obtain ⟨rfl, i, rfl, hil, hm, hrow⟩ := hrel
    obtain ⟨m, rfl⟩ : ∃ m, gk = m + 1 := ⟨gk - 1, by omega⟩
    unfold Lx.row at hrow
    by_cases hlt : i < l.length
    · have hx : l[i]? = some l[i] := List.getElem?_eq_getElem hlt
      rw [hx] at hrow
      dsimp only at hrow
      have hbx := bytesC_get hx
      obtain ⟨g, off, rfl, hcell⟩ := Hr.out (by intro h0; rw [h0] at hbx; cases hbx)
      have hc1 := hcell i _ hbx
      have hii : (i : Int) < (l.length : Int) := by omega
      have hi0 : (0 : Int) ≤ (i : Int) := by omega
      generalize l[i] = c at hrow hc1
      have Hrow := Lib.hid hrow
      clear hrow hx hbx hcell
      by_cases hd : digit c = true
      · have HD := Lib.hid hd
        clear hd
        go_wp2_with fail
        refine (digit_c _ _).mono ?_
        rintro e w1 ⟨rfl, rfl⟩
        rw [HD.out]
        go_wp2_with fail
        go_roundg m
        case measure => omega
        case rel => exact ⟨rfl, i + 1, by go_num, by omega, by omega, by have := Hrow.out; rwa [if_pos (.inl HD.out)] at this⟩
      · have HD := Lib.hid (show digit c = false by simpa using hd)
        clear hd
        cases b with
        | false =>
          go_wp2_with fail
          refine (digit_c _ _).mono ?_
          rintro e w1 ⟨rfl, rfl⟩
          rw [HD.out]
          go_wp2_with fail
          go_ret
          have := Hrow.out
          rw [if_neg (by rw [HD.out]; simp)] at this
          subst this
          exact ⟨rfl, rfl⟩
        | true =>
          by_cases hL : letter c = true
          · have HL := Lib.hid hL
            clear hL
            go_wp2_with fail
            refine (digit_c _ _).mono ?_
            rintro e w1 ⟨rfl, rfl⟩
            rw [HD.out]
            go_wp2_with fail
            refine (letter_c _ _).mono ?_
            rintro e w1 ⟨rfl, rfl⟩
            rw [HL.out]
            go_wp2_with fail
            go_roundg m
            case measure => omega
            case rel => exact ⟨rfl, i + 1, by go_num, by omega, by omega, by have := Hrow.out; rwa [if_pos (.inr ⟨by trivial, HL.out⟩)] at this⟩
          · have HL := Lib.hid (show letter c = false by simpa using hL)
            clear hL
            go_wp2_with fail
            refine (digit_c _ _).mono ?_
            rintro e w1 ⟨rfl, rfl⟩
            rw [HD.out]
            go_wp2_with fail
            refine (letter_c _ _).mono ?_
            rintro e w1 ⟨rfl, rfl⟩
            rw [HL.out]
            go_wp2_with fail
            go_ret
            have := Hrow.out
            rw [if_neg (by rw [HD.out, HL.out]; simp)] at this
            subst this
            exact ⟨rfl, rfl⟩
    · have hii : ¬ (i : Int) < (l.length : Int) := by omega
      rw [List.getElem?_eq_none (by omega)] at hrow
      dsimp only at hrow
      subst hrow
      go_wp2_with fail
      go_ret
      exact ⟨rfl, rfl⟩

theorem isB_iff (c : UInt8) : Lx.isB c = true ↔ c = 9 ∨ c = 10 ∨ c = 13 ∨ c = 32 := by unfold Lx.isB; simp [or_assoc]
set_option maxRecDepth 100000 in
set_option maxHeartbeats 16000000 in
theorem refBlank_c (l : List UInt8) (a : Option Addr) (cap : Nat) (i0 : Nat) (w : World) (h : RdS w (.slice a l.length cap) l.length (bytesC l)) (hi : i0 ≤ l.length) (hl : l.length ≤ 1000000) :
    Calls Try.prog 17 #[.slice a l.length cap, .int .i64 (i0 : Int)] w fun e w' => e = .returned (.tuple #[.int .i64 ((Lx.blank l (l.length + 1) i0).1 : Nat), .bool (Lx.blank l (l.length + 1) i0).2]) ∧ w = w' := by
  obtain ⟨a', cap', he, hc, hr⟩ := h
  injection he with he1 _ he2
  subst he1 he2
  have Hr := Lib.hid hr
  obtain ⟨R, B, hR⟩ : ∃ R B, Lx.blank l (l.length + 1) i0 = (R, B) := ⟨_, _, rfl⟩
  rw [hR]
  have HR := Lib.hid hR
  clear hr hR
  go_enter Try.func17, Try.ntmps17
  go_wp2_with fail
  go_loopg [1] (l.length + 1) (fun m v wr => w = wr ∧ ∃ i : Nat, v = .int .i64 (i : Int) ∧ i ≤ l.length ∧ l.length < m + i ∧ Lx.blank l m i = (R, B))
  case atStart => exact ⟨rfl, i0, rfl, hi, by omega, HR.out⟩
  case round =>
    obtain ⟨rfl, i, rfl, hil, hm, hrow⟩ := hrel
    obtain ⟨m, rfl⟩ : ∃ m, gk = m + 1 := ⟨gk - 1, by omega⟩
    unfold Lx.blank at hrow
    by_cases hlt : i < l.length
    · have hx : l[i]? = some l[i] := List.getElem?_eq_getElem hlt
      rw [hx] at hrow
      dsimp only at hrow
      have hbx := bytesC_get hx
      obtain ⟨g, off, rfl, hcell⟩ := Hr.out (by intro h0; rw [h0] at hbx; cases hbx)
      have hc1 := hcell i _ hbx
      have hii : (i : Int) < (l.length : Int) := by omega
      have hi0 : (0 : Int) ≤ (i : Int) := by omega
      have Hcell := Lib.hid hcell
      generalize l[i] = c at hrow hc1 hx
      have Hrow := Lib.hid hrow
      have Hx := Lib.hid hx
      have Hl := Lib.hid hl
      clear hrow hbx hcell hx
      have b9 := u8_beq c 9 (by omega)
      have b10 := u8_beq c 10 (by omega)
      have b13 := u8_beq c 13 (by omega)
      have b32 := u8_beq c 32 (by omega)
      have b47 := u8_beq c 47 (by omega)
      have nb47 : ((c.toNat : Int) != 47) = !(c == 47) := by unfold bne; rw [show (47 : Int) = ((47 : Nat) : Int) from rfl, b47]; rfl
      have q9 : ((c.toNat : Int) == 9) = (c == 9) := b9
      have q10 : ((c.toNat : Int) == 10) = (c == 10) := b10
      have q13 : ((c.toNat : Int) == 13) = (c == 13) := b13
      have q32 : ((c.toNat : Int) == 32) = (c == 32) := b32
      clear b9 b10 b13 b32 b47
      by_cases hB : Lx.isB c = true
      · have hgo : Lx.blank l m (i + 1) = (R, B) := by have := Hrow.out; rwa [if_pos hB] at this
        have Hgo := Lib.hid hgo
        clear hgo
        rcases (isB_iff c).1 hB with rfl | rfl | rfl | rfl
        all_goals
          clear hB q9 q10 q13 q32 nb47
          go_wp2_with fail
          go_roundg m
          case measure => omega
          case rel => exact ⟨rfl, i + 1, by go_num, by omega, by omega, Hgo.out⟩
      have hnB := mt (isB_iff c).2 hB
      have e9 : (c == 9) = false := beq_eq_false_iff_ne.2 fun h => hnB (.inl h)
      have e10 : (c == 10) = false := beq_eq_false_iff_ne.2 fun h => hnB (.inr (.inl h))
      have e13 : (c == 13) = false := beq_eq_false_iff_ne.2 fun h => hnB (.inr (.inr (.inl h)))
      have e32 : (c == 32) = false := beq_eq_false_iff_ne.2 fun h => hnB (.inr (.inr (.inr h)))
      rw [e9] at q9
      rw [e10] at q10
      rw [e13] at q13
      rw [e32] at q32
      have HB := Lib.hid hB
      clear hB hnB e9 e10 e13 e32
      by_cases h47 : c = 47
      case neg =>
        have nb : ((c.toNat : Int) != 47) = true := by rw [nb47, beq_eq_false_iff_ne.2 h47]; rfl
        have hres : (i, true) = (R, B) := by have := Hrow.out; rwa [if_neg HB.out, if_neg (fun h => h47 h.1)] at this
        clear nb47 h47
        injection hres with hres1 hres2
        subst hres1 hres2
        go_wp2_with fail
        go_ret2
        exact ⟨rfl, rfl⟩
      subst h47
      clear nb47 q9 q10 q13 q32
      by_cases hend : i + 1 = l.length
      · have qe : ((i : Int) + 1 == (l.length : Int)) = true := beq_iff_eq.2 (by omega)
        have hres : (i, true) = (R, B) := by
          have := Hrow.out
          rwa [if_neg HB.out, if_neg (fun h => by have h2 := h.2; rw [List.getElem?_eq_none (by omega)] at h2; cases h2)] at this
        clear hend
        injection hres with hres1 hres2
        subst hres1 hres2
        go_wp2_with fail
        go_ret2
        exact ⟨rfl, rfl⟩
      have qe : ((i : Int) + 1 == (l.length : Int)) = false := beq_eq_false_iff_ne.2 (by omega)
      have hx2 : l[i + 1]? = some l[i + 1] := List.getElem?_eq_getElem (by omega)
      have hc2 : w.cell? ⟨g, off + (i + 1), none⟩ = some (.int .u8 (l[i + 1].toNat : Int)) := Hcell.out (i + 1) _ (bytesC_get hx2)
      have hi1 : (i : Int) + 1 < (l.length : Int) := by omega
      have hi2 : (0 : Int) ≤ (i : Int) + 1 := by omega
      have hi3 : ((i : Int) + 1).toNat = i + 1 := by omega
      have nb := u8_beq l[i + 1] 47 (by omega)
      have nbn : ((l[i + 1].toNat : Int) != 47) = !(l[i + 1] == 47) := by unfold bne; rw [show (47 : Int) = ((47 : Nat) : Int) from rfl, nb]; rfl
      clear nb
      have Hx2 := Lib.hid hx2
      clear hx2
      by_cases h2 : l[i + 1] = 47
      case neg =>
        have nb : ((l[i + 1].toNat : Int) != 47) = true := by rw [nbn, beq_eq_false_iff_ne.2 h2]; rfl
        have hres : (i, true) = (R, B) := by
          have := Hrow.out
          rwa [if_neg HB.out, if_neg (fun h => h2 (by have h3 := h.2; rw [Hx2.out] at h3; injection h3))] at this
        clear nbn h2
        injection hres with hres1 hres2
        subst hres1 hres2
        go_wp2_with fail
        go_ret2
        exact ⟨rfl, rfl⟩
      have nb : ((l[i + 1].toNat : Int) != 47) = false := by rw [nbn, h2]; rfl
      obtain ⟨J, okc, hRC⟩ : ∃ J okc, Lx.comm l (l.length - i + 1) i = (J, okc) := ⟨_, _, rfl⟩
      have hJ : i + 1 ≤ J ∧ J ≤ l.length := by
        have h3 := Lx.comm_le l (l.length - i) (i + 1) (by omega)
        have h4 : Lx.comm l (l.length - i + 1) i = Lx.comm l (l.length - i) (i + 1) := by
          show (match l[i]? with | none => _ | some c => _) = _
          rw [Hx.out]
          rfl
        rw [← h4, hRC] at h3
        exact h3
      have hres : (if okc = true then Lx.blank l m J else (J, false)) = (R, B) := by
        have := Hrow.out
        rw [if_neg HB.out, if_pos ⟨rfl, by rw [Hx2.out, h2]⟩, hRC] at this
        cases okc <;> exact this
      have Hres := Lib.hid hres
      have HRC := Lib.hid hRC
      clear nbn h2 hRC hres
      go_wp2_with fail
      go_loopg [1] (l.length - i + 1) (fun n v wr2 => w = wr2 ∧ ∃ j : Nat, v = .int .i64 (j : Int) ∧ j ≤ l.length ∧ l.length < n + j ∧ Lx.comm l n j = (J, okc))
      case atStart => exact ⟨rfl, i, rfl, by omega, by omega, HRC.out⟩
      case round =>
        obtain ⟨rfl, j, rfl, hjl, hn, hcm⟩ := hrel
        obtain ⟨n, rfl⟩ : ∃ n, gk = n + 1 := ⟨gk - 1, by omega⟩
        unfold Lx.comm at hcm
        by_cases hjt : j < l.length
        · have hxj : l[j]? = some l[j] := List.getElem?_eq_getElem hjt
          rw [hxj] at hcm
          dsimp only at hcm
          have hcj := Hcell.out j _ (bytesC_get hxj)
          have hji : (j : Int) < (l.length : Int) := by omega
          have hj0 : (0 : Int) ≤ (j : Int) := by omega
          generalize l[j] = d at hcm hcj
          have Hcm := Lib.hid hcm
          clear hcm hxj hc1 hc2 qe hi1 hi2 hi3 nb
          have hd256 := d.toNat_lt
          have hdi : (d.toNat : Int) < 256 := by omega
          have n10 : ((d.toNat : Int) != 10) = !(d == 10) := by unfold bne; rw [show (10 : Int) = ((10 : Nat) : Int) from rfl, u8_beq d 10 (by omega)]; rfl
          have n9 : ((d.toNat : Int) != 9) = !(d == 9) := by unfold bne; rw [show (9 : Int) = ((9 : Nat) : Int) from rfl, u8_beq d 9 (by omega)]; rfl
          have n13 : ((d.toNat : Int) != 13) = !(d == 13) := by unfold bne; rw [show (13 : Int) = ((13 : Nat) : Int) from rfl, u8_beq d 13 (by omega)]; rfl
          by_cases h10 : d = 10
          · have e10 : ((d.toNat : Int) != 10) = false := by rw [n10, h10]; rfl
            have hres2 : (j, true) = (J, okc) := by have := Hcm.out; rwa [if_pos h10] at this
            clear n10 n9 n13 h10
            injection hres2 with hr1 hr2
            subst hr1 hr2
            go_wp2_with fail
            go_roundg m
            case measure => omega
            case rel => exact ⟨rfl, j, rfl, by omega, by omega, by have := Hres.out; simpa using this⟩
          have e10 : ((d.toNat : Int) != 10) = true := by rw [n10, beq_eq_false_iff_ne.2 h10]; rfl
          by_cases hbad : Lx.bad d = true
          · have hres2 : (j, false) = (J, okc) := by have := Hcm.out; rwa [if_neg h10, if_pos hbad] at this
            injection hres2 with hr1 hr2
            subst hr1 hr2
            have hfin : (j, false) = (R, B) := by have := Hres.out; rwa [if_neg (by decide)] at this
            injection hfin with hf1 hf2
            subst hf1 hf2
            unfold Lx.bad at hbad
            simp only [Bool.and_eq_true, bne_iff_ne, Bool.or_eq_true, decide_eq_true_eq] at hbad
            obtain ⟨⟨g9, g13⟩, g⟩ := hbad
            have e9 : ((d.toNat : Int) != 9) = true := by rw [n9, beq_eq_false_iff_ne.2 g9]; rfl
            have e13 : ((d.toNat : Int) != 13) = true := by rw [n13, beq_eq_false_iff_ne.2 g13]; rfl
            clear n10 n9 n13 h10 g9 g13
            by_cases g32 : d.toNat < 32
            · have e32 : decide ((d.toNat : Int) < 32) = true := decide_eq_true (by omega)
              have e32' : (d.toNat : Int) < 32 := by omega
              clear g
              go_wp2_with fail
              go_ret2
              exact ⟨rfl, rfl⟩
            · have e32' : ¬ (d.toNat : Int) < 32 := by omega
              have e126' : 126 < (d.toNat : Int) := by omega
              clear g g32
              go_wp2_with fail
              go_ret2
              exact ⟨rfl, rfl⟩
          have hgo : Lx.comm l n (j + 1) = (J, okc) := by have := Hcm.out; rwa [if_neg h10, if_neg hbad] at this
          have Hgo := Lib.hid hgo
          clear hgo
          have hbad' : d = 9 ∨ d = 13 ∨ (32 ≤ d.toNat ∧ d.toNat ≤ 126) := by
            unfold Lx.bad at hbad
            simp only [Bool.and_eq_true, bne_iff_ne, Bool.or_eq_true, decide_eq_true_eq] at hbad
            by_cases g9 : d = 9
            · exact .inl g9
            by_cases g13 : d = 13
            · exact .inr (.inl g13)
            refine .inr (.inr ?_)
            by_cases g32 : d.toNat < 32
            · exact absurd ⟨⟨g9, g13⟩, .inl g32⟩ hbad
            by_cases g126 : 126 < d.toNat
            · exact absurd ⟨⟨g9, g13⟩, .inr g126⟩ hbad
            omega
          clear hbad h10
          rcases hbad' with h9 | h13 | ⟨h32, h126⟩
          · have e9 : ((d.toNat : Int) != 9) = false := by rw [n9, h9]; rfl
            clear n10 n9 n13 h9
            go_wp2_with fail
            go_roundg n
            case measure => omega
            case rel => exact ⟨rfl, j + 1, by go_num, by omega, by omega, Hgo.out⟩
          · have e13 : ((d.toNat : Int) != 13) = false := by rw [n13, h13]; rfl
            have e9 : ((d.toNat : Int) != 9) = true := by rw [n9, h13]; rfl
            clear n10 n9 n13 h13
            go_wp2_with fail
            go_roundg n
            case measure => omega
            case rel => exact ⟨rfl, j + 1, by go_num, by omega, by omega, Hgo.out⟩
          · have e9 : ((d.toNat : Int) != 9) = true := by rw [n9, beq_eq_false_iff_ne.2 (fun h => by rw [h] at h32; revert h32; decide)]; rfl
            have e13 : ((d.toNat : Int) != 13) = true := by rw [n13, beq_eq_false_iff_ne.2 (fun h => by rw [h] at h32; revert h32; decide)]; rfl
            have e32' : ¬ (d.toNat : Int) < 32 := by omega
            have e126' : ¬ 126 < (d.toNat : Int) := by omega
            clear n10 n9 n13 h32 h126
            go_wp2_with fail
            go_roundg n
            case measure => omega
            case rel => exact ⟨rfl, j + 1, by go_num, by omega, by omega, Hgo.out⟩
        · have hji : ¬ (j : Int) < (l.length : Int) := by omega
          rw [List.getElem?_eq_none (by omega)] at hcm
          injection hcm with hr1 hr2
          subst hr1 hr2
          clear hc1 hc2 qe hi1 hi2 hi3 nb
          go_wp2_with fail
          go_roundg m
          case measure => omega
          case rel => exact ⟨rfl, j, rfl, by omega, by omega, by have := Hres.out; simpa using this⟩
    · have hii : ¬ (i : Int) < (l.length : Int) := by omega
      rw [List.getElem?_eq_none (by omega)] at hrow
      injection hrow with hrow1 hrow2
      subst hrow1 hrow2
      go_wp2_with fail
      go_ret2
      exact ⟨rfl, rfl⟩
end Go.Proofs.Ythodjlhjfaccpaa

set_option linter.unusedVariables false
namespace Go.Proofs.Ythodjlhjfaccpaa
open Go Go.RowKit Mem Pm

namespace Lx
def val (b : List UInt8) : Nat := b.foldl (fun n c => 10 * n + (c.toNat - 48)) 0
def number (b : List UInt8) : Option Nat :=
  if (1 < b.length ∧ b[0]? = some 48) ∨ 19 < b.length then none
  else if 9223372036854775807 < val b then none else some (val b)
theorem val_snoc (b : List UInt8) (c : UInt8) : val (b ++ [c]) = 10 * val b + (c.toNat - 48) := by unfold val; rw [List.foldl_append]; rfl
theorem val_take {b : List UInt8} {k : Nat} {c : UInt8} (h : b[k]? = some c) : val (b.take (k + 1)) = 10 * val (b.take k) + (c.toNat - 48) := by
  rw [List.take_add_one, h]; exact val_snoc _ _
theorem val_lt {b : List UInt8} (h : ∀ c ∈ b, digit c = true) : ∀ k, k ≤ b.length → val (b.take k) < 10 ^ k
  | 0, _ => by simp [val]
  | k + 1, hk => by
    have hx : b[k]? = some b[k] := List.getElem?_eq_getElem (by omega)
    rw [val_take hx]
    have h1 := val_lt h k (by omega)
    have h2 := (digit_iff _).1 (h _ (List.getElem_mem (by omega : k < b.length)))
    rw [Nat.pow_succ]
    omega
end Lx

/-- number's answer. -/
def numV : Option Nat → Value
  | none => .tuple #[.int .i64 0, .bool false]
  | some n => .tuple #[.int .i64 (n : Int), .bool true]

set_option maxRecDepth 100000 in
set_option maxHeartbeats 8000000 in
theorem refNumber_c (b : List UInt8) (a : Option Addr) (cap : Nat) (w : World) (h : RdS w (.slice a b.length cap) b.length (bytesC b)) (hd : ∀ c ∈ b, digit c = true) (hl : b.length ≤ 1000000) :
    Calls Try.prog 32 #[.slice a b.length cap] w fun e w' => e = .returned (numV (Lx.number b)) ∧ w = w' := by
  obtain ⟨a', cap', he, hc, hr⟩ := h
  injection he with he1 _ he2
  subst he1 he2
  have Hr := Lib.hid hr
  have hdig : ∀ (k : Nat) (c : UInt8), b[k]? = some c → 48 ≤ c.toNat ∧ c.toNat ≤ 57 := fun k c hk => (digit_iff c).1 (hd c (List.mem_of_getElem? hk))
  have hvl := Lx.val_lt hd
  have Hdig := Lib.hid hdig
  have Hvl := Lib.hid hvl
  clear hr hd hdig hvl
  by_cases h1 : 1 < b.length ∧ b[0]? = some 48
  · have hcell := bytesC_get h1.2
    obtain ⟨g, off, rfl, hcells⟩ := Hr.out (by intro h0; rw [h0] at hcell; cases hcell)
    have hc0 := hcells 0 _ hcell
    rw [Nat.add_zero] at hc0
    have hres : Lx.number b = none := by unfold Lx.number; rw [if_pos (.inl h1)]
    rw [hres]
    unfold numV
    have h1i : (1 : Int) < (b.length : Int) := by omega
    have h0i : (0 : Int) < (b.length : Int) := by omega
    clear hcell hcells h1 hres
    go_enter Try.func32, Try.ntmps32
    go_wp2_with fail
    go_ret2
    exact ⟨rfl, rfl⟩
  by_cases h19 : 19 < b.length
  · have hx0 : b[0]? = some b[0] := List.getElem?_eq_getElem (by omega)
    have hcell := bytesC_get hx0
    obtain ⟨g, off, rfl, hcells⟩ := Hr.out (by intro h0; rw [h0] at hcell; cases hcell)
    have hc0 := hcells 0 _ hcell
    rw [Nat.add_zero] at hc0
    have hres : Lx.number b = none := by unfold Lx.number; rw [if_pos (.inr h19)]
    rw [hres]
    unfold numV
    have q48 : ((b[0].toNat : Int) == 48) = false := by
      rw [show (48 : Int) = ((48 : Nat) : Int) from rfl, u8_beq _ 48 (by omega), beq_eq_false_iff_ne]
      intro h; exact h1 ⟨by omega, by rw [hx0, h]; rfl⟩
    have h1i : (1 : Int) < (b.length : Int) := by omega
    have h0i : (0 : Int) < (b.length : Int) := by omega
    have h19i : (19 : Int) < (b.length : Int) := by omega
    clear hcell hcells h1 hres hx0
    go_enter Try.func32, Try.ntmps32
    go_wp2_with fail
    go_ret2
    exact ⟨rfl, rfl⟩
  have h19i : ¬ (19 : Int) < (b.length : Int) := by omega
  have hres : Lx.number b = if 9223372036854775807 < Lx.val b then none else some (Lx.val b) := by unfold Lx.number; rw [if_neg (fun h => h.elim h1 h19)]
  obtain ⟨R, hR⟩ : ∃ R, numV (Lx.number b) = R := ⟨_, rfl⟩
  rw [hR]
  rw [hres] at hR
  have HR := Lib.hid hR
  clear hres hR
  have hp : (10 : Nat) ^ b.length ≤ 10 ^ 19 := Nat.pow_le_pow_right (by omega) (by omega)
  have hvb : Lx.val b < 10000000000000000000 := by
    have := Hvl.out b.length (Nat.le_refl _)
    rw [List.take_length] at this
    omega
  have Hvb := Lib.hid hvb
  have H1 := Lib.hid h1
  clear hvb hp h1
  by_cases hlen : 1 < b.length
  case' pos =>
    have hx0 : b[0]? = some b[0] := List.getElem?_eq_getElem (by omega)
    have hcell := bytesC_get hx0
    obtain ⟨g, off, ha, hcells⟩ := Hr.out (by intro h0; rw [h0] at hcell; cases hcell)
    have hc0 := hcells 0 _ hcell
    rw [Nat.add_zero] at hc0
    have q48 : ((b[0].toNat : Int) == 48) = false := by
      rw [show (48 : Int) = ((48 : Nat) : Int) from rfl, u8_beq _ 48 (by omega), beq_eq_false_iff_ne]
      intro h; exact H1.out ⟨by omega, by rw [hx0, h]; rfl⟩
    have h1i : (1 : Int) < (b.length : Int) := by omega
    have h0i : (0 : Int) < (b.length : Int) := by omega
    rw [ha] at Hr ⊢
    clear hcell hcells hx0 ha
  case' neg =>
    have h1i : ¬ (1 : Int) < (b.length : Int) := by omega
  all_goals
    clear H1
    go_enter Try.func32, Try.ntmps32
    go_wp2_with fail
    go_loopg [4, 5] (b.length + 1) (fun m n v wr => w = wr ∧ ∃ k : Nat, n = .int .u64 (Lx.val (b.take k) : Nat) ∧ v = .int .i64 (k : Int) ∧ k ≤ b.length ∧ b.length < m + k)
    case atStart => exact ⟨rfl, 0, rfl, rfl, by omega, by omega⟩
    case round =>
      obtain ⟨rfl, k, rfl, rfl, hk, hm⟩ := hrel
      obtain ⟨m, rfl⟩ : ∃ m, gk = m + 1 := ⟨gk - 1, by omega⟩
      by_cases hlt : k < b.length
      · have hx : b[k]? = some b[k] := List.getElem?_eq_getElem hlt
        have hbx := bytesC_get hx
        obtain ⟨g2, off2, ha2, hcells⟩ := Hr.out (by intro h0; rw [h0] at hbx; cases hbx)
        have hck := hcells k _ hbx
        have hdg := Hdig.out k _ hx
        have hv1 := Lx.val_take hx
        have hv2 := Hvl.out k (by omega)
        have hp : (10 : Nat) ^ k ≤ 10 ^ 18 := Nat.pow_le_pow_right (by omega) (by omega)
        have hv3 : Lx.val (b.take k) < 1000000000000000000 := by omega
        have Hv1 := Lib.hid hv1
        generalize Lx.val (b.take k) = v1 at hv3 Hv1 ⊢
        generalize b[k] = c at hck hdg Hv1
        have hii : (k : Int) < (b.length : Int) := by omega
        have hi0 : (0 : Int) ≤ (k : Int) := by omega
        have c1 : (48 : Int) ≤ (c.toNat : Int) := by omega
        have c2 : (c.toNat : Int) ≤ 57 := by omega
        have hv4 : (v1 : Int) < 1000000000000000000 := by omega
        have hv5 : (0 : Int) ≤ (v1 : Int) := by omega
        clear hx hbx hcells hdg hv1 hv2 hp hv3
        go_wp2_with fail
        go_roundg m
        case measure => omega
        case rel => exact ⟨rfl, k + 1, by rw [Hv1.out]; go_num, by go_num, by omega, by omega⟩
      · have hii : ¬ (k : Int) < (b.length : Int) := by omega
        have hvb : Lx.val (b.take k) = Lx.val b := by rw [List.take_of_length_le (by omega)]
        rw [hvb]
        have Hvb2 := Hvb.out
        have HR2 := HR.out
        clear hvb
        generalize Lx.val b = v at Hvb2 HR2 ⊢
        by_cases hbig : 9223372036854775807 < v
        · have hbi : (9223372036854775807 : Int) < (v : Int) := by omega
          rw [if_pos hbig] at HR2
          subst HR2
          go_wp2_with fail
          go_ret2
          exact ⟨rfl, rfl⟩
        · have hbi : ¬ (9223372036854775807 : Int) < (v : Int) := by omega
          rw [if_neg hbig] at HR2
          subst HR2
          have hv0 : (0 : Int) ≤ (v : Int) := by omega
          go_wp2_with fail
          go_ret2
          exact ⟨by unfold numV; go_num, rfl⟩
end Go.Proofs.Ythodjlhjfaccpaa

set_option linter.unusedVariables false
namespace Go.Proofs.Ythodjlhjfaccpaa
open Go Go.RowKit Mem Pm

namespace Lx
def signs : List (List UInt8) := [[40], [41], [123], [125], [91], [93], [44], [59], [61], [61, 61], [33, 61], [60], [60, 61], [62], [62, 61], [43], [45], [42], [47], [37], [38], [124], [94], [38, 94], [60, 60], [62, 62], [38, 38], [124, 124], [33]]
def sgB (k : Nat) : ByteArray := ⟨(signs.getD k []).toArray⟩
end Lx
/-- The signs, as a value. -/
def signsA : Array Value := #[.string ⟨#[40]⟩, .string ⟨#[41]⟩, .string ⟨#[123]⟩, .string ⟨#[125]⟩, .string ⟨#[91]⟩, .string ⟨#[93]⟩, .string ⟨#[44]⟩, .string ⟨#[59]⟩, .string ⟨#[61]⟩, .string ⟨#[61, 61]⟩, .string ⟨#[33, 61]⟩, .string ⟨#[60]⟩, .string ⟨#[60, 61]⟩, .string ⟨#[62]⟩, .string ⟨#[62, 61]⟩, .string ⟨#[43]⟩, .string ⟨#[45]⟩, .string ⟨#[42]⟩, .string ⟨#[47]⟩, .string ⟨#[37]⟩, .string ⟨#[38]⟩, .string ⟨#[124]⟩, .string ⟨#[94]⟩, .string ⟨#[38, 94]⟩, .string ⟨#[60, 60]⟩, .string ⟨#[62, 62]⟩, .string ⟨#[38, 38]⟩, .string ⟨#[124, 124]⟩, .string ⟨#[33]⟩]
def noneA : Array Value := #[.string ⟨#[]⟩, .string ⟨#[]⟩, .string ⟨#[]⟩, .string ⟨#[]⟩, .string ⟨#[]⟩, .string ⟨#[]⟩, .string ⟨#[]⟩, .string ⟨#[]⟩, .string ⟨#[]⟩, .string ⟨#[]⟩, .string ⟨#[]⟩, .string ⟨#[]⟩, .string ⟨#[]⟩, .string ⟨#[]⟩, .string ⟨#[]⟩, .string ⟨#[]⟩, .string ⟨#[]⟩, .string ⟨#[]⟩, .string ⟨#[]⟩, .string ⟨#[]⟩, .string ⟨#[]⟩, .string ⟨#[]⟩, .string ⟨#[]⟩, .string ⟨#[]⟩, .string ⟨#[]⟩, .string ⟨#[]⟩, .string ⟨#[]⟩, .string ⟨#[]⟩, .string ⟨#[]⟩]
theorem built_to {P : Program} {ops : Array Oper} {rest : List Oper} {o : Oper} {a : Act} {w : World} {Q : Exit → Act → World → Prop} (hg : o.guard = none) (t : TypeId) (parts : Array (Nat × Operand)) (ho : o.op = .build t parts) (cells : Array Value)
    (hf : P.built t (parts.map fun (i, x) => (i, a.eval x)).toList = some cells)
    (h : wpList P ops Q rest (a.put o.dst (.agg cells)) w) : wpList P ops Q (o :: rest) a w :=
  wpList_build hg t parts ho (by rw [hf]; rfl) (by rw [hf]; exact h)

set_option maxRecDepth 100000 in
set_option maxHeartbeats 4000000 in
theorem signs_c (w : World) : Calls Try.prog 33 #[] w fun e w' => e = .returned (.agg signsA) ∧ Fr w w' := by
  have hb : (match Try.prog.underlying 81 with | some (.array _ _) => true | _ => false) = true := by kernel_rfl
  have hu : ∃ x y, Try.prog.underlying 81 = some (.array x y) := by
    generalize Try.prog.underlying 81 = o at hb
    cases o with
    | none => cases hb
    | some t => cases t <;> first | exact ⟨_, _, rfl⟩ | cases hb
  obtain ⟨x, y, hu⟩ := hu
  go_enter Try.func33, Try.ntmps33
  refine wp_seq_k fun K hK => ?_
  go_step
  go_step
  go_step
  go_step
  rename_i Q1 K1 hK1
  obtain ⟨W, hW⟩ : ∃ W, w.alloc (.cells noneA 81) = W := ⟨_, rfl⟩
  have hh : W.heap[w.heap.size]? = some (.cells noneA 81 (0, 0)) := by rw [← hW]; exact heap_alloc_new _ _
  show K1 _ (w.alloc (.cells noneA 81))
  rw [hW]
  refine hK1 _ _ (wpList_nil (hK _ _ (wp_seq_k fun K2 hK2 => ?_)))
  go_step
  go_step
  apply built_to rfl 81 _ (by rfl) signsA ?_ ?_
  · kernel_rfl
  refine wpList_store_row rfl 81 (.tmp 0) (.tmp 1) rfl w.heap.size signsA rfl rfl 81 noneA hh (by kernel_rfl) rfl (by kernel_rfl) (wpList_nil (hK2 _ _ (wp_ret ?_)))
  refine bodyPost_ret (v := .agg signsA) (results_cell_row (p := 0) (ty := 81) rfl _ _ w.heap.size 81 signsA (0, 0) _ rfl (setRow_heap _ _ _ _ _ _ hh) hu rfl (by kernel_rfl)) rfl ⟨rfl, ?_⟩
  subst hW
  exact ⟨rfl, rfl, rfl, by rw [size_setRow, size_alloc']; exact Nat.le_succ _, fun k hk _ => by rw [setRow_other _ _ _ _ (Nat.ne_of_lt hk)]; exact Below.heap_alloc _ _ _ hk⟩
end Go.Proofs.Ythodjlhjfaccpaa

set_option linter.unusedVariables false
namespace Go.Proofs.Ythodjlhjfaccpaa
open Go Go.RowKit Mem Pm

namespace Lx
def word (s : List UInt8) : Nat → Nat → Option Nat
  | 0, _ => none
  | m + 1, k => if Pm.words.getD k [] = s then some k else word s m (k + 1)
/-- A letter's row. -/
def tokW (l : List UInt8) (i : Nat) : Except Int (Tok × Nat) :=
  if 64 < row l true (l.length + 1) i - i then .error 21
  else match word ((l.drop i).take (row l true (l.length + 1) i - i)) 18 0 with
    | some k => .ok (⟨10 + (k : Int), i, 0, ⟨#[]⟩⟩, row l true (l.length + 1) i)
    | none => .ok (⟨1, i, 0, ⟨((l.drop i).take (row l true (l.length + 1) i - i)).toArray⟩⟩, row l true (l.length + 1) i)
def tokD (l : List UInt8) (i : Nat) : Except Int (Tok × Nat) :=
  match number ((l.drop i).take (row l false (l.length + 1) i - i)) with
  | none => .error 22
  | some n => .ok (⟨2, i, n, ⟨#[]⟩⟩, row l false (l.length + 1) i)
theorem row_lt {l : List UInt8} {b : Bool} {i : Nat} {c : UInt8} (hx : l[i]? = some c) (h : digit c = true ∨ (b = true ∧ letter c = true)) : i < row l b (l.length + 1) i := by
  have hi := (List.getElem?_eq_some_iff.1 hx).1
  have h2 := row_le l b l.length (i + 1) hi
  unfold row
  rw [hx]
  dsimp only
  rw [if_pos h]
  omega
end Lx
/-- token's answer. -/
def tokRes (i : Nat) : Except Int (Tok × Nat) → Value
  | .ok (t, e) => .tuple #[tokV t, .int .i64 (e : Int), .int .i64 0]
  | .error c => .tuple #[tokV ⟨0, 0, 0, ⟨#[]⟩⟩, .int .i64 (i : Int), .int .i64 c]

/-- A part of a text. -/
theorem RdS.part {w : World} {g off cap : Nat} {l : List UInt8} (h : ∀ j u, (bytesC l)[j]? = some u → w.cell? ⟨g, off + j, none⟩ = some u) {i e : Nat} (hie : i ≤ e) (hel : e ≤ l.length) (hc : l.length ≤ cap) :
    RdS w (.slice (some ⟨g, off + i, none⟩) (e - i) (cap - i)) (e - i) (bytesC ((l.drop i).take (e - i))) := by
  refine ⟨_, _, rfl, by omega, fun _ => ⟨_, _, rfl, fun j u hu => ?_⟩⟩
  rw [Nat.add_assoc]
  refine h (i + j) u ?_
  unfold bytesC at hu ⊢
  rw [List.getElem?_map, List.getElem?_take] at hu
  split at hu
  · rw [List.getElem?_drop] at hu
    rw [List.getElem?_map]; exact hu
  · cases hu

theorem conv_c {w : World} {g o n cap : Nat} {s : List UInt8} (h : RdS w (.slice (some ⟨g, o, none⟩) n cap) n (bytesC s)) (hs : s.length = n) :
    (convert 25 9 (.slice (some ⟨g, o, none⟩) n cap)).run Try.prog w = .ok (.string ⟨s.toArray⟩) w := by
  subst hs
  refine run_convert_bytes_back (P := Try.prog) w 25 9 5 ⟨g, o, none⟩ cap s (by kernel_rfl) (by kernel_rfl) (by kernel_rfl) (fun j hj => ?_)
  obtain ⟨a', cap', he, hcap, hr⟩ := h
  injection he with he1 _ he2
  subst he1 he2
  have hu := bytesC_get (List.getElem?_eq_getElem hj)
  obtain ⟨g', off', ha, hcell⟩ := hr (by intro h0; rw [h0] at hu; cases hu)
  injection ha with ha
  injection ha with ha1 ha2
  subst ha1 ha2
  rw [Addr.add_lit]
  exact hcell j _ hu
/-- The end of a token's call. -/
theorem tok_fr {w w' : World} {g0 : Nat} {rs : List Res} (hg : g0 = w.heap.size) (h : Hs (fun k => k < g0) w w' rs) : Fr w w' :=
  ⟨h.kp.os, h.kp.tape, h.kp.output, h.kp.size, fun k hk _ => h.kp.block k (by omega)⟩

def noneW : Array Value := #[.string ⟨#[]⟩, .string ⟨#[]⟩, .string ⟨#[]⟩, .string ⟨#[]⟩, .string ⟨#[]⟩, .string ⟨#[]⟩, .string ⟨#[]⟩, .string ⟨#[]⟩, .string ⟨#[]⟩, .string ⟨#[]⟩, .string ⟨#[]⟩, .string ⟨#[]⟩, .string ⟨#[]⟩, .string ⟨#[]⟩, .string ⟨#[]⟩, .string ⟨#[]⟩, .string ⟨#[]⟩, .string ⟨#[]⟩]
def wordsA : Array Value := #[.string (wordB 0), .string (wordB 1), .string (wordB 2), .string (wordB 3), .string (wordB 4), .string (wordB 5), .string (wordB 6), .string (wordB 7), .string (wordB 8), .string (wordB 9), .string (wordB 10), .string (wordB 11), .string (wordB 12), .string (wordB 13), .string (wordB 14), .string (wordB 15), .string (wordB 16), .string (wordB 17)]
theorem wordsA_get : ∀ j, j < 18 → wordsA[j]? = some (.string (wordB j)) := by
  intro j hj
  have : j = 0 ∨ j = 1 ∨ j = 2 ∨ j = 3 ∨ j = 4 ∨ j = 5 ∨ j = 6 ∨ j = 7 ∨ j = 8 ∨ j = 9 ∨ j = 10 ∨ j = 11 ∨ j = 12 ∨ j = 13 ∨ j = 14 ∨ j = 15 ∨ j = 16 ∨ j = 17 := by omega
  rcases this with h | h | h | h | h | h | h | h | h | h | h | h | h | h | h | h | h | h <;> subst h <;> rfl
/-- A new array that is written whole. -/
theorem arr_new (w : World) (old cs : Array Value) (t : TypeId) : Fr w ((w.alloc (.cells old t)).setRow w.heap.size cs) ∧ ∀ j : Nat, ((w.alloc (.cells old t)).setRow w.heap.size cs).cell? ⟨w.heap.size, j, none⟩ = cs[j]? :=
  ⟨⟨rfl, rfl, rfl, by rw [size_setRow, size_alloc']; exact Nat.le_succ _, fun k hk _ => by rw [setRow_other _ _ _ _ (Nat.ne_of_lt hk)]; exact Below.heap_alloc _ _ _ hk⟩,
    fun j => cell_setRow_same _ _ _ old cs t (0, 0) (heap_alloc_new _ _)⟩

set_option maxRecDepth 100000 in
set_option maxHeartbeats 8000000 in
theorem refToken_w (l : List UInt8) (a : Option Addr) (cap : Nat) (i : Nat) (c : UInt8) (w : World) (h : RdS w (.slice a l.length cap) l.length (bytesC l)) (hx : l[i]? = some c) (hL : letter c = true) (hl : l.length ≤ 1000000) :
    Calls Try.prog 18 #[.slice a l.length cap, .int .i64 (i : Int)] w fun e w' => e = .returned (tokRes i (Lx.tokW l i)) ∧ Fr w w' := by
  have HR := Lib.hid h
  obtain ⟨a', cap', he, hcap, hr⟩ := h
  injection he with he1 _ he2
  subst he1 he2
  have hlt := (List.getElem?_eq_some_iff.1 hx).1
  have hbx := bytesC_get hx
  obtain ⟨g, off, rfl, hcell⟩ := hr (by intro h0; rw [h0] at hbx; cases hbx)
  have hc1 := hcell i _ hbx
  have hg : g < w.heap.size := block_lt_of_cell hc1
  have hii : (i : Int) < (l.length : Int) := by omega
  have hi0 : (0 : Int) ≤ (i : Int) := by omega
  have h1 := Lx.row_lt (b := true) hx (.inr ⟨rfl, hL⟩)
  have h2 := (Lx.row_le l true (l.length + 1) i (by omega)).2
  obtain ⟨E, hE⟩ : ∃ E, Lx.row l true (l.length + 1) i = E := ⟨_, rfl⟩
  rw [hE] at h1 h2
  obtain ⟨R, hRR⟩ : ∃ R, Lx.tokW l i = R := ⟨_, rfl⟩
  rw [hRR]
  unfold Lx.tokW at hRR
  rw [hE] at hRR
  have HRR := Lib.hid hRR
  have HE := Lib.hid hE
  have HL := Lib.hid hL
  have Hlt := Lib.hid hlt
  have Hcell := Lib.hid hcell
  clear hRR hE hL hbx hx hcell hr hlt
  have heti : (i : Int) ≤ (E : Int) := by omega
  have hetl : (E : Int) ≤ (l.length : Int) := by omega
  go_enter Try.func18, Try.ntmps18
  go_wp2_with fail
  refine (letter_c _ _).mono ?_
  rintro e w1 ⟨rfl, rfl⟩
  rw [HL.out]
  clear hc1
  generalize hW : w.alloc _ = W0
  have hH0 : Hs (fun k => k < w.heap.size) w W0 [.blk w.heap.size 48 (tokC ⟨0, 0, 0, ⟨#[]⟩⟩)] := by rw [← hW]; exact (Hs.start w).alloc _ _
  have hR0 : RdS W0 (.slice (some ⟨g, off, none⟩) l.length cap) l.length (bytesC l) := HR.out.fr (by rw [← hW]; exact (Ch.refl _ _).alloc _)
  have hcell0 : ∀ j u, (bytesC l)[j]? = some u → W0.cell? ⟨g, off + j, none⟩ = some u := fun j u hu => by rw [← hW, World.cell?_alloc_past _ _ _ hg]; exact Hcell.out j u hu
  have H0 := Lib.hid hH0
  have HR0 := Lib.hid hR0
  have Hcell0 := Lib.hid hcell0
  have hf0 := hH0.froz 0 rfl
  have v0 := hH0.cell 0 rfl 0 rfl
  have v1 := hH0.cell 0 rfl 1 rfl
  have v2 := hH0.cell 0 rfl 2 rfl
  have v3 := hH0.cell 0 rfl 3 rfl
  clear hW hH0 hR0 hcell0 hg
  obtain ⟨g0, hg0⟩ : ∃ g0, g0 = w.heap.size := ⟨_, rfl⟩
  rw [← hg0] at H0 hf0 v0 v1 v2 v3 ⊢
  have HG := Lib.hid hg0
  clear hg0
  -- hf0 v0 v1 v2 v3 ⊢
  go_wp2_with fail
  refine (refRow_c l _ cap i true _ HR0.out (Nat.le_of_lt Hlt.out) hl).mono ?_
  rintro e w1 ⟨rfl, rfl⟩
  rw [HE.out]
  by_cases h64 : 64 < E - i
  · have h64i : (64 : Int) < (E : Int) - (i : Int) := by omega
    have hres := HRR.out
    rw [if_pos h64] at hres
    subst hres
    go_wp2_with fail
    have HF := (((H0.out.set_ 0 rfl 0 (.int .i64 0)).set_ 0 rfl 1 (.int .i64 0)).set_ 0 rfl 2 (.int .i64 0)).set_ 0 rfl 3 (.string ⟨#[]⟩)
    have f0 := HF.cell 0 rfl 0 rfl
    have f1 := HF.cell 0 rfl 1 rfl
    have f2 := HF.cell 0 rfl 2 rfl
    have f3 := HF.cell 0 rfl 3 rfl
    refine bodyPost_ret (v := tokRes i (.error 21)) ?_ rfl ⟨rfl, tok_fr HG.out HF⟩
    clear v0 v1 v2 v3 hf0
    generalize World.setCell _ _ _ = WF at HF f0 f1 f2 f3 ⊢
    simp [results, Try.results18, go_sem, f0, f1, f2, f3, tokRes, tokV]
  have h64i : ¬ (64 : Int) < (E : Int) - (i : Int) := by omega
  obtain ⟨s, hs⟩ : ∃ s, (l.drop i).take (E - i) = s := ⟨_, rfl⟩
  have hsl : s.length = E - i := by rw [← hs, List.length_take, List.length_drop]; omega
  have hres := HRR.out
  rw [if_neg h64, hs] at hres
  have Hres := Lib.hid hres
  have hrs : RdS W0 (.slice (some ⟨g, off + i, none⟩) (E - i) (cap - i)) (E - i) (bytesC s) := by rw [← hs]; exact RdS.part Hcell0.out (Nat.le_of_lt h1) h2 hcap
  have hcv := conv_c hrs hsl
  have Hsl := Lib.hid hsl
  have Hs0 := Lib.hid hs
  clear hres hrs hsl hs
  go_wp2_with fail
  clear hcv
  refine (words_c _).mono ?_
  rintro e w1 ⟨rfl, hf1⟩
  rename_i K1 hK1
  refine hK1 _ _ ?_
  go_step
  go_step
  rename_i K2 hK2
  refine hK2 _ _ ?_
  show wpList _ _ _ _ _ (w1.alloc (.cells noneW 78))
  refine wpList_store_row rfl 78 (.tmp 10) (.tmp 40) rfl w1.heap.size wordsA rfl rfl 78 noneW (heap_alloc_new _ _) (by kernel_rfl) rfl (by kernel_rfl) (wpList_nil ?_)
  obtain ⟨hfa, hwc⟩ := arr_new w1 noneW wordsA 78
  have H1 := Lib.hid (H0.out.ch0 (hf1.trans hfa))
  generalize hW1 : (w1.alloc _).setRow _ _ = W1 at H1 hwc ⊢
  clear hf1 hfa hW1
  generalize w1.heap.size = g1 at hwc ⊢
  have hcellw : ∀ j, j < 18 → W1.cell? ⟨g1, j, none⟩ = some (.string (wordB j)) := fun j hj => by rw [hwc, wordsA_get j hj]
  have Hw := Lib.hid hcellw
  obtain ⟨fd, hfd⟩ : ∃ fd, Lx.word s 18 0 = fd := ⟨_, rfl⟩
  have hres := Hres.out
  rw [hfd] at hres
  have Hfin := Lib.hid hres
  have Hfd := Lib.hid hfd
  have hf1 := H1.out.froz 0 rfl
  have u0 := H1.out.cell 0 rfl 0 rfl
  have u1 := H1.out.cell 0 rfl 1 rfl
  have u2 := H1.out.cell 0 rfl 2 rfl
  have u3 := H1.out.cell 0 rfl 3 rfl
  clear hwc hcellw hres hfd v0 v1 v2 v3 hf0 Hres H0 HR0 Hcell0 Hcell HR
  go_wp2_with fail
  go_loopg [11] 18 (fun m v wr => W1 = wr ∧ ∃ k : Nat, k + m = 18 ∧ v = .int .i64 (k : Int) ∧ Lx.word s m k = fd)
  case atStart => exact ⟨rfl, 0, rfl, rfl, Hfd.out⟩
  case round =>
    obtain ⟨rfl, k, hk, rfl, hwd⟩ := hrel
    by_cases hlt : k < 18
    · obtain ⟨m, rfl⟩ : ∃ m, gk = m + 1 := ⟨gk - 1, by omega⟩
      unfold Lx.word at hwd
      have hc := Hw.out k hlt
      have hlti : (k : Int) < 18 := by omega
      by_cases hb : Pm.words.getD k [] = s
      · have hbl : ((wordB k).toList == s) = true := by rw [ByteArray.toList_eq, ← hb]; simp [wordB]
        rw [if_pos hb] at hwd
        subst hwd
        have hres := Hfin.out
        dsimp only at hres
        subst hres
        clear hb
        go_wp2_with fail
        have HF := (((H1.out.set_ 0 rfl 0 (.int .i64 (10 + (k : Int)))).set_ 0 rfl 1 (.int .i64 (i : Int))).set_ 0 rfl 2 (.int .i64 0)).set_ 0 rfl 3 (.string ⟨#[]⟩)
        have f0 := HF.cell 0 rfl 0 rfl
        have f1 := HF.cell 0 rfl 1 rfl
        have f2 := HF.cell 0 rfl 2 rfl
        have f3 := HF.cell 0 rfl 3 rfl
        refine bodyPost_ret (v := tokRes i (.ok (⟨10 + (k : Int), i, 0, ⟨#[]⟩⟩, E))) ?_ rfl ⟨rfl, tok_fr HG.out HF⟩
        clear u0 u1 u2 u3 hf1
        generalize World.setCell _ _ _ = WF at HF f0 f1 f2 f3 ⊢
        simp [results, Try.results18, go_sem, f0, f1, f2, f3, tokRes, tokV]
      · have hbl : ((wordB k).toList == s) = false := by
          rw [ByteArray.toList_eq]; simpa [wordB] using hb
        rw [if_neg hb] at hwd
        have Hwd := Lib.hid hwd
        clear hb hwd
        go_wp2_with fail
        go_roundg m
        case measure => omega
        case rel => exact ⟨rfl, k + 1, by omega, by go_num, Hwd.out⟩
    · have hlti : ¬ (k : Int) < 18 := by omega
      obtain rfl : gk = 0 := by omega
      unfold Lx.word at hwd
      subst hwd
      have hres := Hfin.out
      dsimp only at hres
      subst hres
      go_wp2_with fail
      have HF := (((H1.out.set_ 0 rfl 0 (.int .i64 1)).set_ 0 rfl 1 (.int .i64 (i : Int))).set_ 0 rfl 2 (.int .i64 0)).set_ 0 rfl 3 (.string ⟨s.toArray⟩)
      have f0 := HF.cell 0 rfl 0 rfl
      have f1 := HF.cell 0 rfl 1 rfl
      have f2 := HF.cell 0 rfl 2 rfl
      have f3 := HF.cell 0 rfl 3 rfl
      refine bodyPost_ret (v := tokRes i (.ok (⟨1, i, 0, ⟨s.toArray⟩⟩, E))) ?_ rfl ⟨rfl, tok_fr HG.out HF⟩
      clear u0 u1 u2 u3 hf1
      generalize World.setCell _ _ _ = WF at HF f0 f1 f2 f3 ⊢
      simp [results, Try.results18, go_sem, f0, f1, f2, f3, tokRes, tokV]
end Go.Proofs.Ythodjlhjfaccpaa

set_option linter.unusedVariables false
namespace Go.Proofs.Ythodjlhjfaccpaa
open Go Go.RowKit Mem Pm
theorem letter_of_digit {c : UInt8} (h : digit c = true) : letter c = false := by
  have h1 := (digit_iff c).1 h
  rw [Bool.eq_false_iff]
  intro h2
  have := (letter_iff c).1 h2
  omega
theorem Lx.row_each (l : List UInt8) : ∀ (m i j : Nat), i ≤ j → j < Lx.row l false m i → ∃ c, l[j]? = some c ∧ digit c = true
  | 0, i, j, h1, h2 => by unfold Lx.row at h2; omega
  | m + 1, i, j, h1, h2 => by
    unfold Lx.row at h2
    cases hx : l[i]? with
    | none => rw [hx] at h2; dsimp only at h2; omega
    | some c =>
      rw [hx] at h2
      dsimp only at h2
      split at h2
      · rename_i hd
        by_cases he : j = i
        · subst he; exact ⟨c, hx, by simpa using hd⟩
        · exact row_each l m (i + 1) j (by omega) h2
      · omega
theorem Lx.row_all (l : List UInt8) (i : Nat) : ∀ c ∈ (l.drop i).take (Lx.row l false (l.length + 1) i - i), digit c = true := by
  intro c hc
  obtain ⟨k, hk⟩ := List.getElem?_of_mem hc
  rw [List.getElem?_take] at hk
  split at hk
  · rename_i h1
    rw [List.getElem?_drop] at hk
    obtain ⟨d, hd, h2⟩ := Lx.row_each l (l.length + 1) i (i + k) (by omega) (by omega)
    rw [hd] at hk
    injection hk with hk
    exact hk ▸ h2
  · cases hk

set_option maxRecDepth 100000 in
set_option maxHeartbeats 8000000 in
theorem refToken_d (l : List UInt8) (a : Option Addr) (cap : Nat) (i : Nat) (c : UInt8) (w : World) (h : RdS w (.slice a l.length cap) l.length (bytesC l)) (hx : l[i]? = some c) (hD : digit c = true) (hl : l.length ≤ 1000000) :
    Calls Try.prog 18 #[.slice a l.length cap, .int .i64 (i : Int)] w fun e w' => e = .returned (tokRes i (Lx.tokD l i)) ∧ Fr w w' := by
  have HR := Lib.hid h
  obtain ⟨a', cap', he, hcap, hr⟩ := h
  injection he with he1 _ he2
  subst he1 he2
  have hlt := (List.getElem?_eq_some_iff.1 hx).1
  have hbx := bytesC_get hx
  obtain ⟨g, off, rfl, hcell⟩ := hr (by intro h0; rw [h0] at hbx; cases hbx)
  have hc1 := hcell i _ hbx
  have hg : g < w.heap.size := block_lt_of_cell hc1
  have hii : (i : Int) < (l.length : Int) := by omega
  have hi0 : (0 : Int) ≤ (i : Int) := by omega
  have h1 := Lx.row_lt (b := false) hx (.inl hD)
  have h2 := (Lx.row_le l false (l.length + 1) i (by omega)).2
  obtain ⟨E, hE⟩ : ∃ E, Lx.row l false (l.length + 1) i = E := ⟨_, rfl⟩
  rw [hE] at h1 h2
  obtain ⟨R, hRR⟩ : ∃ R, Lx.tokD l i = R := ⟨_, rfl⟩
  rw [hRR]
  unfold Lx.tokD at hRR
  rw [hE] at hRR
  have HRR := Lib.hid hRR
  have HE := Lib.hid hE
  have HL := Lib.hid (show letter c = false from letter_of_digit hD)
  have HD := Lib.hid hD
  have Hlt := Lib.hid hlt
  have Hcell := Lib.hid hcell
  clear hRR hE hD hbx hx hcell hr hlt
  have heti : (i : Int) ≤ (E : Int) := by omega
  have hetl : (E : Int) ≤ (l.length : Int) := by omega
  go_enter Try.func18, Try.ntmps18
  go_wp2_with fail
  refine (letter_c _ _).mono ?_
  rintro e w1 ⟨rfl, rfl⟩
  rw [HL.out]
  go_wp2_with fail
  refine (digit_c _ _).mono ?_
  rintro e w1 ⟨rfl, rfl⟩
  rw [HD.out]
  clear hc1
  generalize hW : w.alloc _ = W0
  have hH0 : Hs (fun k => k < w.heap.size) w W0 [.blk w.heap.size 48 (tokC ⟨0, 0, 0, ⟨#[]⟩⟩)] := by rw [← hW]; exact (Hs.start w).alloc _ _
  have hR0 : RdS W0 (.slice (some ⟨g, off, none⟩) l.length cap) l.length (bytesC l) := HR.out.fr (by rw [← hW]; exact (Ch.refl _ _).alloc _)
  have hcell0 : ∀ j u, (bytesC l)[j]? = some u → W0.cell? ⟨g, off + j, none⟩ = some u := fun j u hu => by rw [← hW, World.cell?_alloc_past _ _ _ hg]; exact Hcell.out j u hu
  have H0 := Lib.hid hH0
  have HR0 := Lib.hid hR0
  have Hcell0 := Lib.hid hcell0
  have hf0 := hH0.froz 0 rfl
  have v0 := hH0.cell 0 rfl 0 rfl
  have v1 := hH0.cell 0 rfl 1 rfl
  have v2 := hH0.cell 0 rfl 2 rfl
  have v3 := hH0.cell 0 rfl 3 rfl
  clear hW hH0 hR0 hcell0 hg
  obtain ⟨g0, hg0⟩ : ∃ g0, g0 = w.heap.size := ⟨_, rfl⟩
  rw [← hg0] at H0 hf0 v0 v1 v2 v3 ⊢
  have HG := Lib.hid hg0
  clear hg0
  -- hf0 v0 v1 v2 v3 ⊢
  go_wp2_with fail
  refine (refRow_c l _ cap i false _ HR0.out (Nat.le_of_lt Hlt.out) hl).mono ?_
  rintro e w1 ⟨rfl, rfl⟩
  rw [HE.out]
  obtain ⟨s, hs⟩ : ∃ s, (l.drop i).take (E - i) = s := ⟨_, rfl⟩
  have hsl : s.length = E - i := by rw [← hs, List.length_take, List.length_drop]; omega
  have hres := HRR.out
  rw [hs] at hres
  have Hres := Lib.hid hres
  have hrs : RdS W0 (.slice (some ⟨g, off + i, none⟩) (E - i) (cap - i)) (E - i) (bytesC s) := by rw [← hs]; exact RdS.part Hcell0.out (Nat.le_of_lt h1) h2 hcap
  rw [← hsl] at hrs
  have Hrs := Lib.hid hrs
  have Hsl := Lib.hid hsl
  have Hdg := Lib.hid (show ∀ c ∈ s, digit c = true by
    rw [← hs, ← HE.out]
    exact Lx.row_all l i)
  clear hres hrs hsl hs
  go_wp2_with fail
  rw [← Hsl.out]
  refine (refNumber_c s _ (cap - i) _ Hrs.out Hdg.out (by have := Hsl.out; omega)).mono ?_
  rintro e w1 ⟨rfl, rfl⟩
  obtain ⟨nm, hnm⟩ : ∃ nm, Lx.number s = nm := ⟨_, rfl⟩
  rw [hnm]
  have hres := Hres.out
  rw [hnm] at hres
  cases nm with
  | none =>
    dsimp only at hres
    subst hres
    unfold numV
    go_wp2_with fail
    have HF := (((H0.out.set_ 0 rfl 0 (.int .i64 0)).set_ 0 rfl 1 (.int .i64 0)).set_ 0 rfl 2 (.int .i64 0)).set_ 0 rfl 3 (.string ⟨#[]⟩)
    have f0 := HF.cell 0 rfl 0 rfl
    have f1 := HF.cell 0 rfl 1 rfl
    have f2 := HF.cell 0 rfl 2 rfl
    have f3 := HF.cell 0 rfl 3 rfl
    refine bodyPost_ret (v := tokRes i (.error 22)) ?_ rfl ⟨rfl, tok_fr HG.out HF⟩
    clear v0 v1 v2 v3 hf0
    generalize World.setCell _ _ _ = WF at HF f0 f1 f2 f3 ⊢
    simp [results, Try.results18, go_sem, f0, f1, f2, f3, tokRes, tokV]
  | some n =>
    dsimp only at hres
    subst hres
    unfold numV
    go_wp2_with fail
    have HF := (((H0.out.set_ 0 rfl 0 (.int .i64 2)).set_ 0 rfl 1 (.int .i64 (i : Int))).set_ 0 rfl 2 (.int .i64 (n : Int))).set_ 0 rfl 3 (.string ⟨#[]⟩)
    have f0 := HF.cell 0 rfl 0 rfl
    have f1 := HF.cell 0 rfl 1 rfl
    have f2 := HF.cell 0 rfl 2 rfl
    have f3 := HF.cell 0 rfl 3 rfl
    refine bodyPost_ret (v := tokRes i (.ok (⟨2, i, n, ⟨#[]⟩⟩, E))) ?_ rfl ⟨rfl, tok_fr HG.out HF⟩
    clear v0 v1 v2 v3 hf0
    generalize World.setCell _ _ _ = WF at HF f0 f1 f2 f3 ⊢
    simp [results, Try.results18, go_sem, f0, f1, f2, f3, tokRes, tokV]
end Go.Proofs.Ythodjlhjfaccpaa

set_option linter.unusedVariables false
namespace Go.Proofs.Ythodjlhjfaccpaa
open Go Go.RowKit Mem Pm
namespace Lx
def sg (k : Nat) : List UInt8 := signs.getD k []
def sgn (l : List UInt8) (i : Nat) : Nat → Nat → Nat → Nat → Nat × Nat
  | 0, _, best, kind => (best, kind)
  | m + 1, k, best, kind => if best < (sg k).length ∧ i + (sg k).length ≤ l.length ∧ (l.drop i).take (sg k).length = sg k then sgn l i m (k + 1) (sg k).length (40 + k) else sgn l i m (k + 1) best kind
def tokS (l : List UInt8) (i : Nat) : Except Int (Tok × Nat) :=
  if (sgn l i 29 0 0 0).1 = 0 then .error 20 else .ok (⟨((sgn l i 29 0 0 0).2 : Nat), i, 0, ⟨#[]⟩⟩, i + (sgn l i 29 0 0 0).1)
theorem sg_len (k : Nat) (h : k < 29) : 1 ≤ (sg k).length ∧ (sg k).length ≤ 2 := by
  have : ∀ k, k < 29 → 1 ≤ (sg k).length ∧ (sg k).length ≤ 2 := by decide
  exact this k h
end Lx
theorem drewN_add (w : World) (a b : Nat) : (w.drewN a).drewN b = w.drewN (a + b) := by simp [World.drewN, Nat.add_assoc]
theorem signsA_get : ∀ j, j < 29 → signsA[j]? = some (.string (Lx.sgB j)) := by
  intro j hj
  have : j = 0 ∨ j = 1 ∨ j = 2 ∨ j = 3 ∨ j = 4 ∨ j = 5 ∨ j = 6 ∨ j = 7 ∨ j = 8 ∨ j = 9 ∨ j = 10 ∨ j = 11 ∨ j = 12 ∨ j = 13 ∨ j = 14 ∨ j = 15 ∨ j = 16 ∨ j = 17 ∨ j = 18 ∨ j = 19 ∨ j = 20 ∨ j = 21 ∨ j = 22 ∨ j = 23 ∨ j = 24 ∨ j = 25 ∨ j = 26 ∨ j = 27 ∨ j = 28 := by omega
  rcases this with h | h | h | h | h | h | h | h | h | h | h | h | h | h | h | h | h | h | h | h | h | h | h | h | h | h | h | h | h <;> subst h <;> rfl

set_option maxRecDepth 100000 in
set_option maxHeartbeats 8000000 in
theorem refToken_s (l : List UInt8) (a : Option Addr) (cap : Nat) (i : Nat) (c : UInt8) (w : World) (h : RdS w (.slice a l.length cap) l.length (bytesC l)) (hx : l[i]? = some c) (hnL : letter c = false) (hnD : digit c = false) (hl : l.length ≤ 1000000) :
    Calls Try.prog 18 #[.slice a l.length cap, .int .i64 (i : Int)] w fun e w' => e = .returned (tokRes i (Lx.tokS l i)) ∧ Fr w w' := by
  have HR := Lib.hid h
  obtain ⟨a', cap', he, hcap, hr⟩ := h
  injection he with he1 _ he2
  subst he1 he2
  have hlt := (List.getElem?_eq_some_iff.1 hx).1
  have hbx := bytesC_get hx
  obtain ⟨g, off, rfl, hcell⟩ := hr (by intro h0; rw [h0] at hbx; cases hbx)
  have hc1 := hcell i _ hbx
  have hg : g < w.heap.size := block_lt_of_cell hc1
  have hii : (i : Int) < (l.length : Int) := by omega
  have hi0 : (0 : Int) ≤ (i : Int) := by omega
  obtain ⟨R, hR⟩ : ∃ R, Lx.tokS l i = R := ⟨_, rfl⟩
  rw [hR]
  unfold Lx.tokS at hR
  have HRR := Lib.hid hR
  have HL := Lib.hid hnL
  have HD := Lib.hid hnD
  have Hlt := Lib.hid hlt
  have Hcell := Lib.hid hcell
  clear hnL hnD hbx hx hcell hr hlt hR
  go_enter Try.func18, Try.ntmps18
  go_wp2_with fail
  refine (letter_c _ _).mono ?_
  rintro e w1 ⟨rfl, rfl⟩
  rw [HL.out]
  go_wp2_with fail
  refine (digit_c _ _).mono ?_
  rintro e w1 ⟨rfl, rfl⟩
  rw [HD.out]
  clear hc1
  generalize hW : w.alloc _ = W0
  have hH0 : Hs (fun k => k < w.heap.size) w W0 [.blk w.heap.size 48 (tokC ⟨0, 0, 0, ⟨#[]⟩⟩)] := by rw [← hW]; exact (Hs.start w).alloc _ _
  have hR0 : RdS W0 (.slice (some ⟨g, off, none⟩) l.length cap) l.length (bytesC l) := HR.out.fr (by rw [← hW]; exact (Ch.refl _ _).alloc _)
  have hcell0 : ∀ j u, (bytesC l)[j]? = some u → W0.cell? ⟨g, off + j, none⟩ = some u := fun j u hu => by rw [← hW, World.cell?_alloc_past _ _ _ hg]; exact Hcell.out j u hu
  have H0 := Lib.hid hH0
  have HR0 := Lib.hid hR0
  have Hcell0 := Lib.hid hcell0
  have hf0 := hH0.froz 0 rfl
  have v0 := hH0.cell 0 rfl 0 rfl
  have v1 := hH0.cell 0 rfl 1 rfl
  have v2 := hH0.cell 0 rfl 2 rfl
  have v3 := hH0.cell 0 rfl 3 rfl
  clear hW hH0 hR0 hcell0 hg
  obtain ⟨g0, hg0⟩ : ∃ g0, g0 = w.heap.size := ⟨_, rfl⟩
  rw [← hg0] at H0 hf0 v0 v1 v2 v3 ⊢
  have HG := Lib.hid hg0
  clear hg0
  -- hf0 v0 v1 v2 v3 ⊢
  go_wp2_with fail
  refine (signs_c _).mono ?_
  rintro e w1 ⟨rfl, hf1⟩
  rename_i K1 hK1
  refine hK1 _ _ ?_
  go_step
  go_step
  rename_i K2 hK2
  refine hK2 _ _ ?_
  show wpList _ _ _ _ _ (w1.alloc (.cells noneA 81))
  refine wpList_store_row rfl 81 (.tmp 17) (.tmp 80) rfl w1.heap.size signsA rfl rfl 81 noneA (heap_alloc_new _ _) (by kernel_rfl) rfl (by kernel_rfl) (wpList_nil ?_)
  obtain ⟨hfa, hwc⟩ := arr_new w1 noneA signsA 81
  have H1 := Lib.hid (H0.out.ch0 (hf1.trans hfa))
  have HR1 := Lib.hid (HR0.out.fr (hf1.trans hfa))
  generalize hW1 : (w1.alloc _).setRow _ _ = W1 at H1 HR1 hwc ⊢
  clear hf1 hfa hW1
  generalize w1.heap.size = g1 at hwc ⊢
  have hcellw : ∀ j, j < 29 → W1.cell? ⟨g1, j, none⟩ = some (.string (Lx.sgB j)) := fun j hj => by rw [hwc, signsA_get j hj]
  have Hw := Lib.hid hcellw
  obtain ⟨fd, hfd⟩ : ∃ fd, Lx.sgn l i 29 0 0 0 = fd := ⟨_, rfl⟩
  have Hfd := Lib.hid hfd
  have hR := HRR.out
  rw [hfd] at hR
  have Hfin := Lib.hid hR
  clear hwc hcellw hR hfd v0 v1 v2 v3 hf0 H0 HR0 Hcell0 Hcell HR
  go_wp2_with fail
  go_loopg [15, 16, 18] 29 (fun m b q v wr => (∃ nq, wr = W1.drewN nq) ∧ ∃ k best kind : Nat, k + m = 29 ∧ best ≤ 2 ∧ kind ≤ 100 ∧ i + best ≤ l.length ∧ b = .int .i64 (best : Int) ∧ q = .int .i64 (kind : Int) ∧ v = .int .i64 (k : Int) ∧ Lx.sgn l i m k best kind = fd)
  case atStart => exact ⟨⟨0, rfl⟩, 0, 0, 0, rfl, by omega, by omega, by have := Hlt.out; omega, rfl, rfl, rfl, Hfd.out⟩
  case round =>
    obtain ⟨⟨nq0, rfl⟩, k, best, kind, hk, hb2, hk100, hbl, rfl, rfl, rfl, hsg⟩ := hrel
    have H2 := Lib.hid (H1.out.drewN nq0)
    have HR2 := Lib.hid (HR1.out.fr ((Ch.refl _ _).drewN nq0))
    have Hw2 := Lib.hid (show ∀ j, j < 29 → (W1.drewN nq0).cell? ⟨g1, j, none⟩ = some (.string (Lx.sgB j)) from Hw.out)
    generalize hW2 : W1.drewN nq0 = W2 at H2 HR2 Hw2 ⊢
    have HW2 := Lib.hid hW2
    clear hW2
    by_cases hk29 : k < 29
    · obtain ⟨m, rfl⟩ : ∃ m, gk = m + 1 := ⟨gk - 1, by omega⟩
      unfold Lx.sgn at hsg
      have hc := Hw2.out k hk29
      have hki : (k : Int) < 29 := by omega
      obtain ⟨n, hn⟩ : ∃ n, (Lx.sg k).length = n := ⟨_, rfl⟩
      have hsz : (Lx.sgB k).size = n := by rw [← hn]; rfl
      have hn12 : 1 ≤ n ∧ n ≤ 2 := by rw [← hn]; exact Lx.sg_len k hk29
      rw [hn] at hsg
      by_cases hA : best < n
      case neg =>
        have hgo : Lx.sgn l i m (k + 1) best kind = fd := by rwa [if_neg (fun h => hA h.1)] at hsg
        have Hgo := Lib.hid hgo
        have hnb : n ≤ best := by omega
        clear hsg hgo hA
        go_wp2_with fail
        clear hc
        have hgt : decide (best < n) = false := decide_eq_false (by omega)
        go_quiet (fail)
        clear hgt
        have H3 := Lib.hid (H2.out.drewN nq)
        go_wp2_with fail
        go_roundg m
        case measure => omega
        case rel => exact ⟨⟨nq0 + nq, by rw [← HW2.out]; exact drewN_add _ _ _⟩, k + 1, best, kind, by omega, by omega, by omega, by omega, rfl, rfl, by go_num, Hgo.out⟩
      by_cases hB : i + n ≤ l.length
      case neg =>
        have hgo : Lx.sgn l i m (k + 1) best kind = fd := by rwa [if_neg (fun h => hB h.2.1)] at hsg
        have Hgo := Lib.hid hgo
        clear hsg hgo
        go_wp2_with fail
        clear hc
        have hgt : decide (best < n) = true := decide_eq_true hA
        have hs1 : IntKind.i64.wrap ((i : Int) + (n : Int)) = (i : Int) + (n : Int) := IntWalk.i64_in _ (by omega)
        have hle : decide ((i : Int) + (n : Int) ≤ (l.length : Int)) = false := decide_eq_false (by omega)
        go_quiet (fail)
        clear hgt hs1 hle
        have H3 := Lib.hid (H2.out.drewN nq)
        go_wp2_with fail
        go_roundg m
        case measure => omega
        case rel => exact ⟨⟨nq0 + nq, by rw [← HW2.out]; exact drewN_add _ _ _⟩, k + 1, best, kind, by omega, by omega, by omega, by omega, rfl, rfl, by go_num, Hgo.out⟩
      obtain ⟨s, hs⟩ : ∃ s, (l.drop i).take n = s := ⟨_, rfl⟩
      have hsl : s.length = n := by rw [← hs, List.length_take, List.length_drop]; omega
      have hcv : ∀ q, (convert 25 9 (.slice (some ⟨g, off + i, none⟩) n (cap - i))).run Try.prog (W2.drewN q) = .ok (.string ⟨s.toArray⟩) (W2.drewN q) := by
        intro q
        refine conv_c ?_ hsl
        have hr2 := HR2.out.fr ((Ch.refl _ _).drewN q)
        obtain ⟨a', cap', he, hcap2, hr3⟩ := hr2
        injection he with he1 _ he2
        subst he1 he2
        obtain ⟨g3, off3, ha3, hcell3⟩ := hr3 (by intro h0; have h7 : (bytesC l).length = l.length := List.length_map _; rw [h0, List.length_nil] at h7; have := Hlt.out; omega)
        injection ha3 with ha3
        injection ha3 with ha4 ha5
        subst ha4 ha5
        have := RdS.part hcell3 (i := i) (e := i + n) (by omega) hB hcap2
        rw [show i + n - i = n by omega, hs] at this
        exact this
      rw [hs] at hsg
      have hii1 : (i : Int) ≤ (i : Int) + (n : Int) := by omega
      have hii2 : (i : Int) + (n : Int) ≤ (l.length : Int) := by omega
      have hii3 : ((i : Int) + (n : Int)).toNat = i + n := by omega
      have hii4 : i + n - i = n := by omega
      by_cases hE : s = Lx.sg k
      case neg =>
        have hgo : Lx.sgn l i m (k + 1) best kind = fd := by rwa [if_neg (fun h => hE h.2.2)] at hsg
        have hbq : (s == (Lx.sgB k).toList) = false := by
          rw [ByteArray.toList_eq, beq_eq_false_iff_ne]; exact fun h => hE (by rw [h]; rfl)
        have Hgo := Lib.hid hgo
        have Hbq := Lib.hid hbq
        have Hcv := Lib.hid hcv
        clear hsg hgo hcv hE hbq
        go_wp2_with fail
        have hgt : decide (best < n) = true := decide_eq_true hA
        have hs1 : IntKind.i64.wrap ((i : Int) + (n : Int)) = (i : Int) + (n : Int) := IntWalk.i64_in _ (by omega)
        have hle : decide ((i : Int) + (n : Int) ≤ (l.length : Int)) = true := decide_eq_true (by omega)
        have hcv := Hcv.out
        have hbq := Hbq.out
        go_quiet (fail)
        clear hgt hs1 hle
        have H3 := Lib.hid (H2.out.drewN nq)
        go_wp2_with fail
        go_roundg m
        case measure => omega
        case rel => exact ⟨⟨nq0 + nq, by rw [← HW2.out]; exact drewN_add _ _ _⟩, k + 1, best, kind, by omega, by omega, by omega, by omega, rfl, rfl, by go_num, Hgo.out⟩
      · have hgo : Lx.sgn l i m (k + 1) n (40 + k) = fd := by rwa [if_pos ⟨hA, hB, hE⟩] at hsg
        have hbq : (s == (Lx.sgB k).toList) = true := by
          rw [ByteArray.toList_eq, beq_iff_eq, hE]; rfl
        have Hgo := Lib.hid hgo
        have Hbq := Lib.hid hbq
        have Hcv := Lib.hid hcv
        clear hsg hgo hcv hE hbq
        go_wp2_with fail
        have hgt : decide (best < n) = true := decide_eq_true hA
        have hs1 : IntKind.i64.wrap ((i : Int) + (n : Int)) = (i : Int) + (n : Int) := IntWalk.i64_in _ (by omega)
        have hle : decide ((i : Int) + (n : Int) ≤ (l.length : Int)) = true := decide_eq_true (by omega)
        have hcv := Hcv.out
        have hbq := Hbq.out
        go_quiet (fail)
        clear hgt hs1 hle
        have H3 := Lib.hid (H2.out.drewN nq)
        go_wp2_with fail
        go_roundg m
        case measure => omega
        case rel => exact ⟨⟨nq0 + nq, by rw [← HW2.out]; exact drewN_add _ _ _⟩, k + 1, n, 40 + k, by omega, by omega, by omega, by omega, rfl, by go_num, by go_num, Hgo.out⟩
    · have hki : ¬ (k : Int) < 29 := by omega
      obtain rfl : gk = 0 := by omega
      unfold Lx.sgn at hsg
      subst hsg
      have hres := Hfin.out
      dsimp only at hres
      have hf1 := H2.out.froz 0 rfl
      have u0 := H2.out.cell 0 rfl 0 rfl
      have u1 := H2.out.cell 0 rfl 1 rfl
      have u2 := H2.out.cell 0 rfl 2 rfl
      have u3 := H2.out.cell 0 rfl 3 rfl
      by_cases hb0 : best = 0
      · rw [if_pos hb0] at hres
        subst hres hb0
        go_wp2_with fail
        have HF := (((H2.out.set_ 0 rfl 0 (.int .i64 0)).set_ 0 rfl 1 (.int .i64 0)).set_ 0 rfl 2 (.int .i64 0)).set_ 0 rfl 3 (.string ⟨#[]⟩)
        have f0 := HF.cell 0 rfl 0 rfl
        have f1 := HF.cell 0 rfl 1 rfl
        have f2 := HF.cell 0 rfl 2 rfl
        have f3 := HF.cell 0 rfl 3 rfl
        refine bodyPost_ret (v := tokRes i (.error 20)) ?_ rfl ⟨rfl, tok_fr HG.out HF⟩
        clear u0 u1 u2 u3 hf1
        generalize World.setCell _ _ _ = WF at HF f0 f1 f2 f3 ⊢
        simp [results, Try.results18, go_sem, f0, f1, f2, f3, tokRes, tokV]
      · rw [if_neg hb0] at hres
        subst hres
        have qb : ((best : Int) == 0) = false := beq_eq_false_iff_ne.2 (by omega)
        go_wp2_with fail
        have HF := (((H2.out.set_ 0 rfl 0 (.int .i64 (kind : Int))).set_ 0 rfl 1 (.int .i64 (i : Int))).set_ 0 rfl 2 (.int .i64 0)).set_ 0 rfl 3 (.string ⟨#[]⟩)
        have f0 := HF.cell 0 rfl 0 rfl
        have f1 := HF.cell 0 rfl 1 rfl
        have f2 := HF.cell 0 rfl 2 rfl
        have f3 := HF.cell 0 rfl 3 rfl
        refine bodyPost_ret (v := tokRes i (.ok (⟨(kind : Nat), i, 0, ⟨#[]⟩⟩, i + best))) ?_ rfl ⟨rfl, tok_fr HG.out HF⟩
        clear u0 u1 u2 u3 hf1
        generalize World.setCell _ _ _ = WF at HF f0 f1 f2 f3 ⊢
        simp [results, Try.results18, go_sem, f0, f1, f2, f3, tokRes, tokV]
end Go.Proofs.Ythodjlhjfaccpaa

set_option linter.unusedVariables false
namespace Go.Proofs.Ythodjlhjfaccpaa
open Go Go.RowKit Mem Pm

namespace Lx
def token (l : List UInt8) (i : Nat) (c : UInt8) : Except Int (Tok × Nat) := if letter c = true then tokW l i else if digit c = true then tokD l i else tokS l i
def toks (l : List UInt8) : Nat → Nat → List Tok × Int × Int
  | 0, _ => ([], 0, 0)
  | m + 1, i => match blank l (l.length + 1) i with
    | (j, false) => ([], (j : Int), 20)
    | (j, true) => match l[j]? with
      | none => ([], 0, 0)
      | some c => match token l j c with
        | .error e => ([], (j : Int), e)
        | .ok (t, e) => (t :: (toks l m e).1, (toks l m e).2)
/-- A text's tokens. -/
def tokens (l : List UInt8) : List Tok × Int × Int := toks l (l.length + 1) 0

theorem sgn_le (l : List UInt8) (i : Nat) : ∀ (m k b q : Nat), i + b ≤ l.length → i + (sgn l i m k b q).1 ≤ l.length
  | 0, _, _, _, h => h
  | m + 1, k, b, q, h => by
    unfold sgn
    split
    · rename_i h2; exact sgn_le l i m _ _ _ h2.2.1
    · exact sgn_le l i m _ _ _ h
theorem token_ok {l : List UInt8} {i e : Nat} {c : UInt8} {t : Tok} (hx : l[i]? = some c) (h : token l i c = .ok (t, e)) : i < e ∧ e ≤ l.length ∧ t.name.size ≤ 64 := by
  have hi := (List.getElem?_eq_some_iff.1 hx).1
  unfold token at h
  split at h
  · rename_i hL
    unfold tokW at h
    have h1 := row_lt (b := true) hx (.inr ⟨rfl, hL⟩)
    have h2 := (row_le l true (l.length + 1) i (by omega)).2
    split at h
    · cases h
    · rename_i h64
      split at h
      · injection h with h
        injection h with h3 h4
        subst h3 h4
        exact ⟨h1, h2, Nat.zero_le _⟩
      · injection h with h
        injection h with h3 h4
        subst h3 h4
        refine ⟨h1, h2, ?_⟩
        show (((l.drop i).take _).toArray).size ≤ 64
        rw [List.size_toArray, List.length_take]
        omega
  · split at h
    · rename_i hD
      unfold tokD at h
      have h1 := row_lt (b := false) hx (.inl hD)
      have h2 := (row_le l false (l.length + 1) i (by omega)).2
      split at h
      · cases h
      · injection h with h
        injection h with h3 h4
        subst h3 h4
        exact ⟨h1, h2, Nat.zero_le _⟩
    · unfold tokS at h
      split at h
      · cases h
      · rename_i hb
        injection h with h
        injection h with h3 h4
        subst h3 h4
        exact ⟨by omega, sgn_le l i 29 0 0 0 (by omega), Nat.zero_le _⟩
theorem token_err {l : List UInt8} {i : Nat} {c : UInt8} {e : Int} (h : token l i c = .error e) : e ≠ 0 := by
  unfold token tokW tokD tokS at h
  split at h
  · split at h
    · injection h with h; omega
    · split at h <;> cases h
  · split at h
    · split at h
      · injection h with h; omega
      · cases h
    · split at h
      · injection h with h; omega
      · cases h
theorem toks_len (l : List UInt8) : ∀ (m i : Nat), i ≤ l.length → (toks l m i).1.length ≤ l.length - i
  | 0, i, _ => Nat.zero_le _
  | m + 1, i, hi => by
    have hb := blank_le l (l.length + 1) i hi
    unfold toks
    split
    · exact Nat.zero_le _
    · rename_i j hj
      rw [hj] at hb
      dsimp only at hb
      split
      · exact Nat.zero_le _
      · rename_i c hc
        split
        · exact Nat.zero_le _
        · rename_i t e he
          have h1 := token_ok hc he
          have h2 := toks_len l m e h1.2.1
          rw [List.length_cons]
          omega
theorem toks_name (l : List UInt8) : ∀ (m i : Nat), ∀ t ∈ (toks l m i).1, t.name.size ≤ 64
  | 0, i, t, h => by cases h
  | m + 1, i, t, h => by
    unfold toks at h
    split at h
    · cases h
    · split at h
      · cases h
      · rename_i c hc
        split at h
        · cases h
        · rename_i t' e he
          rcases List.mem_cons.1 h with h1 | h1
          · subst h1; exact (token_ok hc he).2.2
          · exact toks_name l m e t h1
end Lx

theorem refToken_c (l : List UInt8) (a : Option Addr) (cap : Nat) (i : Nat) (c : UInt8) (w : World) (h : RdS w (.slice a l.length cap) l.length (bytesC l)) (hx : l[i]? = some c) (hl : l.length ≤ 1000000) :
    Calls Try.prog 18 #[.slice a l.length cap, .int .i64 (i : Int)] w fun e w' => e = .returned (tokRes i (Lx.token l i c)) ∧ Fr w w' := by
  unfold Lx.token
  by_cases hL : letter c = true
  · rw [if_pos hL]; exact refToken_w l a cap i c w h hx hL hl
  rw [if_neg hL]
  by_cases hD : digit c = true
  · rw [if_pos hD]; exact refToken_d l a cap i c w h hx hD hl
  rw [if_neg hD]
  exact refToken_s l a cap i c w h hx (by simpa using hL) (by simpa using hD) hl

set_option maxRecDepth 100000 in
set_option maxHeartbeats 8000000 in
theorem refTokens_c (l : List UInt8) (a : Option Addr) (cap : Nat) (w : World) (h : RdS w (.slice a l.length cap) l.length (bytesC l)) (hl : l.length ≤ 1000000) :
    Calls Try.prog 9 #[.slice a l.length cap] w fun e w' => ∃ a' cap', e = .returned (.tuple #[.slice a' (Lx.tokens l).1.length cap', .int .i64 (Lx.tokens l).2.1, .int .i64 (Lx.tokens l).2.2]) ∧
      Gives w w' [.row 48 4 (.slice a' (Lx.tokens l).1.length cap') (Lx.tokens l).1.length (toksC (Lx.tokens l).1)] := by
  obtain ⟨T, p, q, hT⟩ : ∃ T p q, Lx.tokens l = (T, p, q) := ⟨_, _, _, rfl⟩
  rw [hT]
  unfold Lx.tokens at hT
  have HT := Lib.hid hT
  have HR := Lib.hid h
  have Hg := Lib.hid (fun (w' : World) a' cap' => gives_of (w := w) (w' := w') (res := [.row 48 4 (.slice a' T.length cap') T.length (toksC T)]))
  obtain ⟨i0, hi0, hz0, hz1, hz2⟩ := info_parts infoTok
  clear hT h
  go_enter Try.func9, Try.ntmps9
  go_wp2_with fail
  go_loopg [5, 6] (l.length + 1) (fun m v x wr => ∃ (acc : List Tok) (i : Nat) (rest : List Tok), x = .int .i64 (i : Int) ∧ i ≤ l.length ∧ acc.length ≤ i ∧ l.length < m + i ∧ Lx.toks l m i = (rest, p, q) ∧ acc ++ rest = T ∧
    Hs (fun k => k < w.heap.size) w wr [.row 48 4 v acc.length (toksC acc)])
  case atStart => exact ⟨[], 0, T, rfl, by omega, by simp, by omega, HT.out, rfl, (Hs.start w).nil 48 4⟩
  case round =>
    obtain ⟨acc, i, rest, rfl, hil, hacc, hm, htk, hcat, hh⟩ := hrel
    obtain ⟨m, rfl⟩ : ∃ m, gk = m + 1 := ⟨gk - 1, by omega⟩
    obtain ⟨av, cv, rfl, _, _⟩ := hh.form 0 rfl
    have HR1 := Lib.hid (HR.out.kp hh.kp)
    unfold Lx.toks at htk
    have hb := Lx.blank_le l (l.length + 1) i hil
    obtain ⟨j, ok, hbl⟩ : ∃ j ok, Lx.blank l (l.length + 1) i = (j, ok) := ⟨_, _, rfl⟩
    rw [hbl] at hb htk
    dsimp only at hb
    have Hh := Lib.hid hh
    have Hbl := Lib.hid hbl
    cases ok with
    | false =>
      dsimp only at htk
      injection htk with ht1 ht2
      injection ht2 with ht2 ht3
      subst ht1 ht2 ht3
      rw [List.append_nil] at hcat
      subst hcat
      clear hh hbl
      go_wp2_with fail
      refine (refBlank_c l a cap i _ HR1.out hil hl).mono ?_
      rintro e w1 ⟨rfl, rfl⟩
      rw [Hbl.out]
      go_wp2_with fail
      go_ret3
      exact ⟨av, cv, rfl, Hg.out _ _ _ Hh.out⟩
    | true =>
      dsimp only at htk
      cases hx : l[j]? with
      | none =>
        rw [hx] at htk
        dsimp only at htk
        injection htk with ht1 ht2
        injection ht2 with ht2 ht3
        subst ht1 ht2 ht3
        rw [List.append_nil] at hcat
        subst hcat
        have hjl : j = l.length := by have := List.getElem?_eq_none_iff.1 hx; omega
        have qj : ((j : Int) == (l.length : Int)) = true := beq_iff_eq.2 (by omega)
        clear hh hbl hx hjl
        go_wp2_with fail
        refine (refBlank_c l a cap i _ HR1.out hil hl).mono ?_
        rintro e w1 ⟨rfl, rfl⟩
        rw [Hbl.out]
        go_wp2_with fail
        go_ret3
        exact ⟨av, cv, rfl, Hg.out _ _ _ Hh.out⟩
      | some c =>
        rw [hx] at htk
        dsimp only at htk
        have hjl := (List.getElem?_eq_some_iff.1 hx).1
        have qj : ((j : Int) == (l.length : Int)) = false := beq_eq_false_iff_ne.2 (by omega)
        obtain ⟨r, hr⟩ : ∃ r, Lx.token l j c = r := ⟨_, rfl⟩
        rw [hr] at htk
        have Hx := Lib.hid hx
        have Hr := Lib.hid hr
        cases r with
        | error er =>
          dsimp only at htk
          injection htk with ht1 ht2
          injection ht2 with ht2 ht3
          subst ht1 ht2 ht3
          rw [List.append_nil] at hcat
          subst hcat
          have qe : (er != 0) = true := bne_iff_ne.2 (Lx.token_err hr)
          clear hh hbl hx hr hjl
          go_wp2_with fail
          refine (refBlank_c l a cap i _ HR1.out hil hl).mono ?_
          rintro e w1 ⟨rfl, rfl⟩
          rw [Hbl.out]
          go_wp2_with fail
          refine (refToken_c l a cap j c _ HR1.out Hx.out hl).mono ?_
          rintro e w1 ⟨rfl, hf⟩
          rw [Hr.out]
          unfold tokRes tokV
          have H1 := Lib.hid ((Hh.out.ch0 hf).alloc (tokC ⟨0, 0, 0, ⟨#[]⟩⟩) 48)
          clear hf
          go_wp2_with fail
          go_ret3
          exact ⟨av, cv, rfl, Hg.out _ _ _ H1.out.tail⟩
        | ok te =>
          obtain ⟨t, e2⟩ := te
          obtain ⟨hje, hel, _⟩ := Lx.token_ok hx hr
          dsimp only at htk
          obtain ⟨r2, hr2⟩ : ∃ r2, Lx.toks l m e2 = r2 := ⟨_, rfl⟩
          rw [hr2] at htk
          obtain ⟨rest2, p2, q2⟩ := r2
          injection htk with ht1 ht2
          injection ht2 with ht2 ht3
          subst ht1 ht2 ht3
          have Hr2 := Lib.hid hr2
          have Hcat := Lib.hid (show (acc ++ [t]) ++ rest2 = T by rw [← hcat, List.append_assoc]; rfl)
          clear hh hbl hx hr hr2 hcat
          go_wp2_with fail
          refine (refBlank_c l a cap i _ HR1.out hil hl).mono ?_
          rintro e w1 ⟨rfl, rfl⟩
          rw [Hbl.out]
          go_wp2_with fail
          refine (refToken_c l a cap j c _ HR1.out Hx.out hl).mono ?_
          rintro e w1 ⟨rfl, hf⟩
          rw [Hr.out]
          unfold tokRes tokV
          have H1 := Lib.hid (((Hh.out.ch0 hf).alloc (tokC t) 48).alloc (tokC t) 48)
          clear hf
          go_wp2_with (at_builtin; go_must (refine Hs.push rfl _ _ 22 rfl 48 i0 _ 4 40 (by kernel_rfl) hi0 hz0 hz1 hz2 rfl (Nat.succ_pos _) (Nat.le_of_ble_eq_true rfl) 2 (.slice av acc.length cv) acc.length (toksC acc) rfl 0 (w1.heap.size + 1) (tokC t) (by rw [size_alloc']; rfl) rfl rfl rfl rfl (by omega) H1.out ?_))
          intro v' w2 hh2
          obtain ⟨a2, c2, rfl, _, _⟩ := hh2.form 2 rfl
          have Hh2 := Lib.hid hh2.tail.tail
          clear hh2
          go_wp2_with fail
          go_roundg m
          case measure => omega
          case rel =>
            refine ⟨acc ++ [t], e2, rest2, rfl, hel, by rw [List.length_append, List.length_singleton]; omega, by omega, Hr2.out, Hcat.out, ?_⟩
            have hh3 := Hh2.out
            rw [show toksC acc ++ tokC t = toksC (acc ++ [t]) by unfold toksC; rw [List.flatMap_append]; simp] at hh3
            rw [List.length_append, List.length_singleton]
            exact hh3
end Go.Proofs.Ythodjlhjfaccpaa
