/- quernlaw3.slot, turn. -/
import Derived.Test.YtllahgnpjodgmaaDoorVd
set_option linter.unusedVariables false
namespace Go.Proofs.YtllahgnpjodgmaaDoor
open Go Go.RowKit Mem Pm
def slotF (i n : Int) : Int := if i.tmod n < 0 then i.tmod n + n else i.tmod n
theorem slotF_range (i n : Int) (hn : 0 < n) : 0 ≤ slotF i n ∧ slotF i n < n := by
  unfold slotF
  have h1 := Int.lt_tmod_of_pos i hn
  have h2 := Int.tmod_lt_of_pos i hn
  split <;> omega
set_option maxRecDepth 100000 in
set_option maxHeartbeats 2000000 in
theorem slot_c (i n : Int) (hn : 0 < n) (hn2 : n ≤ 4000000000000000000) (w : World) : Calls Tryd.prog 20 #[.int .i64 i, .int .i64 n] w fun e w' => e = .returned (.int .i64 (slotF i n)) ∧ w = w' := by
  have h1 := Int.lt_tmod_of_pos i hn
  have h2 := Int.tmod_lt_of_pos i hn
  have hS : slotF i n = if i.tmod n < 0 then i.tmod n + n else i.tmod n := rfl
  have hn0 : ¬ n = 0 := by omega
  have hn3 : (n == 0) = false := beq_eq_false_iff_ne.2 hn0
  by_cases hr : i.tmod n < 0
  · have HS := Lib.hid (show slotF i n = i.tmod n + n by rw [hS, if_pos hr])
    clear hS
    go_enter Tryd.func20, Tryd.ntmps20
    go_wp2_with fail
    go_ret
    exact ⟨by rw [HS.out]; rfl, rfl⟩
  · have HS := Lib.hid (show slotF i n = i.tmod n by rw [hS, if_neg hr])
    clear hS
    go_enter Tryd.func20, Tryd.ntmps20
    go_wp2_with fail
    go_ret
    exact ⟨by rw [HS.out]; rfl, rfl⟩
theorem set_self {α : Type} {l : List α} {i : Nat} {a : α} (h : l[i]? = some a) : l.set i a = l := by
  apply List.ext_getElem?
  intro k
  by_cases hk : i = k
  · subst hk
    rw [List.getElem?_set_self (List.getElem?_eq_some_iff.1 h).1]; exact h.symm
  · rw [List.getElem?_set_ne hk]
theorem set_mid {α : Type} (x y : α) (B : List α) : ∀ A : List α, (A ++ x :: B).set A.length y = A ++ y :: B
  | [] => rfl
  | a :: A => by show a :: (A ++ x :: B).set A.length y = _; rw [set_mid x y B A]; rfl
theorem ints_set (l : List Int) (k : Nat) (u : Int) : (ints l).set k (.int .i64 u) = ints (l.set k u) := by unfold ints; rw [List.map_set]
theorem map_step {l : List Int} {k : Nat} (f : Int → Int) (h : k < l.length) : ((l.take k).map f ++ l.drop k).set k (f l[k]) = (l.take (k + 1)).map f ++ l.drop (k + 1) := by
  have hl : ((l.take k).map f).length = k := by rw [List.length_map, List.length_take]; omega
  have hd : l.drop k = l[k] :: l.drop (k + 1) := List.drop_eq_getElem_cons h
  rw [hd]
  have := set_mid l[k] (f l[k]) (l.drop (k + 1)) ((l.take k).map f)
  rw [hl] at this
  rw [this, List.take_add_one, List.getElem?_eq_getElem h, List.map_append]
  simp
def swp (i j x : Int) : Int := if x = i then j else if x = j then i else x
set_option maxRecDepth 100000 in
set_option maxHeartbeats 8000000 in
theorem turn_c {A : Nat → Prop} {w0 : World} (w : World) (rs : List Res) (l : List Int) (v : Value) (i j : Int) (kx : Nat) (hkx : rs[kx]? = some (.row 3 1 v l.length (ints l))) (H : Hs A w0 w rs) (hl : l.length ≤ 1000000000) :
    Calls Tryd.prog 23 #[v, .int .i64 i, .int .i64 j] w fun e w' => e = .returned (.tuple #[]) ∧ Hs A w0 w' (rs.set kx (.row 3 1 v l.length (ints (l.map (swp i j))))) := by
  obtain ⟨a, c, rfl, hc, hg⟩ := H.form kx hkx
  have hrs : rs.set kx (.row 3 1 (.slice a l.length c) l.length (ints ((l.take 0).map (swp i j) ++ l.drop 0))) = rs := by
    rw [List.take_zero, List.map_nil, List.nil_append, List.drop_zero]
    exact set_self hkx
  have H1 : Hid (Hs A w0 w (rs.set kx (.row 3 1 (.slice a l.length c) l.length (ints ((l.take 0).map (swp i j) ++ l.drop 0))))) := Lib.hid (by rw [hrs]; exact H)
  have hkl : kx < rs.length := (List.getElem?_eq_some_iff.1 hkx).1
  have HKl := Lib.hid hkl
  have hcl : (l.length : Int) ≤ (c : Int) := by omega
  clear H hrs hkl hkx
  go_enter Tryd.func23, Tryd.ntmps23
  go_wp2_with fail
  go_loopg [6] l.length (fun m v6 wr => ∃ k : Nat, k + m = l.length ∧ v6 = .int .i64 (k : Int) ∧ Hs A w0 wr (rs.set kx (.row 3 1 (.slice a l.length c) l.length (ints ((l.take k).map (swp i j) ++ l.drop k)))))
  case atStart => exact ⟨0, by omega, rfl, H1.out⟩
  case round =>
  obtain ⟨k, hk, rfl, hh⟩ := hrel
  have Hh := Lib.hid hh
  have hget : (rs.set kx (.row 3 1 (.slice a l.length c) l.length (ints ((l.take k).map (swp i j) ++ l.drop k))))[kx]? = some (.row 3 1 (.slice a l.length c) l.length (ints ((l.take k).map (swp i j) ++ l.drop k))) := List.getElem?_set_self HKl.out
  clear H1
  by_cases hlt : k < l.length
  case neg =>
    have hki : ¬ (k : Int) < (l.length : Int) := by omega
    have he : (l.take k).map (swp i j) ++ l.drop k = l.map (swp i j) := by rw [List.take_of_length_le (by omega), List.drop_eq_nil_of_le (by omega), List.append_nil]
    have HE := Lib.hid he
    clear he hget hh
    go_wp2_with fail
    go_end0
    refine ⟨rfl, ?_⟩
    have h := Hh.out
    rw [HE.out] at h
    exact h
  case pos =>
    have hki : (k : Int) < (l.length : Int) := by omega
    have hk0 : (0 : Int) ≤ (k : Int) := by omega
    have hx : ((l.take k).map (swp i j) ++ l.drop k)[k]? = some l[k] := by
      rw [List.getElem?_append_right (by rw [List.length_map, List.length_take]; omega), List.length_map, List.length_take, List.getElem?_drop]
      rw [show k + (k - min k l.length) = k by omega]
      exact List.getElem?_eq_getElem hlt
    have hix := ints_get hx
    obtain ⟨g, rfl, hcell⟩ := hh.rdRow kx hget (fun h => by rw [h] at hix; cases hix)
    have cx := hcell k _ hix
    have zx := hh.rfroz kx hget (g := g) rfl k
    have hms := map_step (swp i j) hlt
    have hset : ∀ u : Int, u = swp i j l[k] → Hs A w0 (wr.setCell ⟨g, k, none⟩ (.int .i64 u)) (rs.set kx (.row 3 1 (.slice (some ⟨g, 0, none⟩) l.length c) l.length (ints ((l.take (k + 1)).map (swp i j) ++ l.drop (k + 1))))) := by
      intro u hu
      subst hu
      have h := hh.rset kx hget (g := g) rfl k (.int .i64 (swp i j l[k]))
      rw [List.set_set, ints_set, hms] at h
      exact h
    have hsame : l[k] = swp i j l[k] → (l.take k).map (swp i j) ++ l.drop k = (l.take (k + 1)).map (swp i j) ++ l.drop (k + 1) := by
      intro h0
      rw [← hms, ← h0]
      exact (set_self hx).symm
    have HSet := Lib.hid hset
    have HSame := Lib.hid hsame
    clear hms hset hsame hget hh hix hcell hx
    generalize l[k] = x at cx HSet HSame
    cases e1 : (x == i) with
    | true =>
      have hs1 : j = swp i j x := by unfold swp; rw [if_pos (beq_iff_eq.1 e1)]
      have H2 := Lib.hid (HSet.out j hs1)
      clear hs1
      go_wp2_with fail
      go_roundg (gk - 1)
      case measure => omega
      case rel => exact ⟨k + 1, by omega, by go_num, H2.out⟩
    | false =>
      cases e2 : (x == j) with
      | true =>
        have hs1 : i = swp i j x := by unfold swp; rw [if_neg (beq_eq_false_iff_ne.1 e1), if_pos (beq_iff_eq.1 e2)]
        have H2 := Lib.hid (HSet.out i hs1)
        clear hs1
        go_wp2_with fail
        go_roundg (gk - 1)
        case measure => omega
        case rel => exact ⟨k + 1, by omega, by go_num, H2.out⟩
      | false =>
        have hs1 : x = swp i j x := by unfold swp; rw [if_neg (beq_eq_false_iff_ne.1 e1), if_neg (beq_eq_false_iff_ne.1 e2)]
        have H2 := Lib.hid (HSame.out hs1)
        clear hs1
        go_wp2_with fail
        go_roundg (gk - 1)
        case measure => omega
        case rel => exact ⟨k + 1, by omega, by go_num, by rw [← H2.out]; exact Hh.out⟩
end Go.Proofs.YtllahgnpjodgmaaDoor
