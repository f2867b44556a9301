/- The document's own machine and the parser's machine go side by side: the rules but for function. No program here. -/
import Derived.Test.YthodjlhjfaccpaaSim
set_option linter.unusedVariables false
namespace Go.Proofs.Ythodjlhjfaccpaa
open Go Pm
namespace Rf
variable {s : PS} {l : List Int} {d : Int} {la : Tok} {t : List Sym}

theorem cur_kind (h : s.kind ≠ 0) : s.cur.kind = s.kind := by
  unfold PS.kind at h ⊢
  unfold PS.cur
  rw [List.getD_eq_getElem?_getD]
  cases ht : s.toks[s.at_]? with
  | none => rw [ht] at h; exact absurd rfl h
  | some t =>
    rw [ht] at h
    dsimp only at h ⊢
    split
    · rfl
    · rename_i hr; rw [if_neg hr] at h; exact absurd rfl h

/-- A rule that only lays others. -/
theorem sim_lay (x y z : Sym) (w a b : Int) (hl : s.at_ ≤ s.toks.length) (hw : Wt s.todo s.begun l) (hla : LastOk s la) (hx : s.rule x = .ok (s.do_ [y, z])) (h1 : 100 ≤ w) (h2 : w < 1000) (hr : rule w s.kind (s.at_ == s.toks.length) = ([a, b], true))
    (hy : plainSym y = true ∧ syms y = [a]) (hz : plainSym z = true ∧ syms z = [b]) : Go 50 s (w :: l) d la (Out s.toks s.en (s.rule x)) := by
  rw [hx]
  refine go_rule h1 h2 hl hr (go_fin rfl ?_ hla rfl)
  have := Wt.plain hy.1 (Wt.plain hz.1 hw)
  rw [hy.2, hz.2] at this
  exact this

theorem k_range (k : Int) : (k = 49 ∨ k = 50 ∨ k = 51 ∨ k = 52 ∨ k = 53 ∨ k = 54 ∨ k = 55 ∨ k = 56 ∨ k = 57 ∨ k = 58 ∨ k = 59 ∨ k = 60 ∨ k = 61 ∨ k = 62 ∨ k = 63 ∨ k = 64 ∨ k = 65 ∨ k = 66 ∨ k = 67) ∨ (k < 49 ∨ 67 < k) := by omega
theorem op_none (k : Int) (h : k < 49 ∨ 67 < k) : PS.operator k = (0, 0) := by
  unfold PS.operator
  rw [if_neg (by omega), if_neg (by omega), if_neg (by omega), if_neg (by omega), if_neg (by omega), if_neg (by omega), if_neg (by omega), if_neg (by omega), if_neg (by omega), if_neg (by omega), if_neg (by omega), if_neg (by omega), if_neg (by omega), if_neg (by omega)]
theorem op_pos (k : Int) (h : 1 ≤ (PS.operator k).2) : operator k = (PS.operator k).1 ∧ k ≠ 0 ∧ k < 100 ∧ 49 ≤ k ∧ k ≤ 67 := by
  rcases k_range k with hk | hk
  · rcases hk with rfl | rfl | rfl | rfl | rfl | rfl | rfl | rfl | rfl | rfl | rfl | rfl | rfl | rfl | rfl | rfl | rfl | rfl | rfl
    all_goals first
      | exact ⟨by decide, by decide, by decide, by decide, by decide⟩
      | exact absurd h (by decide)
  · rw [op_none k hk] at h
    exact absurd h (by decide)

/-- What stands between two values. -/
theorem sim_joined (x : Sym) (level : Int) (next again : Sym) (w v : Int) (more : List Int) (hlv : 1 ≤ level) (hl : s.at_ ≤ s.toks.length) (hw : Wt s.todo s.begun l) (hla : LastOk s la) (hh : HasLeft s) (hx : s.rule x = .ok (s.joined level next again)) (h1 : 100 ≤ w) (h2 : w < 1000)
    (hr1 : (PS.operator s.kind).2 = level → rule w s.kind (s.at_ == s.toks.length) = (3031 :: s.kind :: 4004 :: v :: 1031 :: more, true)) (hr2 : (PS.operator s.kind).2 ≠ level → rule w s.kind (s.at_ == s.toks.length) = ([], true))
    (hy : plainSym next = true ∧ syms next = [v]) (hz : plainSym again = true ∧ syms again = more) : Go 50 s (w :: l) d la (Out s.toks s.en (s.rule x)) := by
  rw [hx]
  by_cases ho : (PS.operator s.kind).2 = level
  · obtain ⟨hop, hk0, hk1, hk49, hk67⟩ := op_pos s.kind (by omega)
    refine go_rule h1 h2 hl (hr1 ho) ?_
    refine go_left (m := 31) (by decide) (by decide) (by decide) hh hl ?_
    have hj : s.joined level next again = ((s.begin_ { kind := 31, at_ := s.leftAt, where_ := s.cur.at_, op := (PS.operator s.kind).1 } 1).skip).do_ [next, .done, again] := by unfold PS.joined; rw [if_pos ho]
    rw [hj, show (Except.ok (((s.begin_ { kind := 31, at_ := s.leftAt, where_ := s.cur.at_, op := (PS.operator s.kind).1 } 1).skip).do_ [next, .done, again]) : M PS) = if s.kind = s.kind then Except.ok (((s.begin_ { kind := 31, at_ := s.leftAt, where_ := s.cur.at_, op := (PS.operator s.kind).1 } 1).skip).do_ [next, .done, again]) else .error s.fault from (if_pos rfl).symm]
    refine go_t (s := s.begin_ { kind := 31, at_ := s.leftAt } 1) (k := s.kind) hk1 hk0 fun _ hlt => ?_
    have hck : 49 ≤ s.cur.kind ∧ s.cur.kind ≤ 67 := by rw [cur_kind hk0]; exact ⟨hk49, hk67⟩
    refine go_sign (s := (s.begin_ { kind := 31, at_ := s.leftAt } 1).skip) hck rfl hlt ?_
    rw [show (s.begin_ { kind := 31, at_ := s.leftAt } 1).cur = s.cur from rfl, cur_kind hk0, hop]
    refine go_fin rfl ?_ LastOk.skip rfl
    have := Wt.plain hy.1 (Wt.done (f := s.loose.length - 1) (n := { kind := 31, at_ := s.leftAt, where_ := s.cur.at_, op := (PS.operator s.kind).1 }) (show (2 : Int) ≤ 31 by decide) (show (31 : Int) < 1000 by decide) (Wt.plain hz.1 hw))
    rw [hy.2, hz.2] at this
    exact this
  · refine go_rule h1 h2 hl (hr2 ho) ?_
    rw [show s.joined level next again = s by unfold PS.joined; rw [if_neg ho]]
    exact go_fin rfl hw hla rfl

theorem chain_no (k v m : Int) : chain k false v m = ([], true) := rfl
theorem op1 (k : Int) : ((PS.operator k).2 = 1) ↔ (k = 67) := by
  rcases k_range k with hk | hk
  · rcases hk with rfl | rfl | rfl | rfl | rfl | rfl | rfl | rfl | rfl | rfl | rfl | rfl | rfl | rfl | rfl | rfl | rfl | rfl | rfl <;> decide
  · rw [op_none k hk]
    constructor
    · intro h; exact absurd h (by decide)
    · intro h; omega
theorem op2 (k : Int) : ((PS.operator k).2 = 2) ↔ (k = 66) := by
  rcases k_range k with hk | hk
  · rcases hk with rfl | rfl | rfl | rfl | rfl | rfl | rfl | rfl | rfl | rfl | rfl | rfl | rfl | rfl | rfl | rfl | rfl | rfl | rfl <;> decide
  · rw [op_none k hk]
    constructor
    · intro h; exact absurd h (by decide)
    · intro h; omega
theorem op3 (k : Int) : ((PS.operator k).2 = 3) ↔ (49 ≤ k ∧ k ≤ 54) := by
  rcases k_range k with hk | hk
  · rcases hk with rfl | rfl | rfl | rfl | rfl | rfl | rfl | rfl | rfl | rfl | rfl | rfl | rfl | rfl | rfl | rfl | rfl | rfl | rfl <;> decide
  · rw [op_none k hk]
    constructor
    · intro h; exact absurd h (by decide)
    · intro h; omega
theorem op4 (k : Int) : ((PS.operator k).2 = 4) ↔ (k = 55 ∨ k = 56 ∨ k = 61 ∨ k = 62) := by
  rcases k_range k with hk | hk
  · rcases hk with rfl | rfl | rfl | rfl | rfl | rfl | rfl | rfl | rfl | rfl | rfl | rfl | rfl | rfl | rfl | rfl | rfl | rfl | rfl <;> decide
  · rw [op_none k hk]
    constructor
    · intro h; exact absurd h (by decide)
    · intro h; omega
theorem op5 (k : Int) : ((PS.operator k).2 = 5) ↔ (k = 57 ∨ k = 58 ∨ k = 59 ∨ k = 60 ∨ k = 63 ∨ k = 64 ∨ k = 65) := by
  rcases k_range k with hk | hk
  · rcases hk with rfl | rfl | rfl | rfl | rfl | rfl | rfl | rfl | rfl | rfl | rfl | rfl | rfl | rfl | rfl | rfl | rfl | rfl | rfl <;> decide
  · rw [op_none k hk]
    constructor
    · intro h; exact absurd h (by decide)
    · intro h; omega

theorem sim_either (hl : s.at_ ≤ s.toks.length) (hw : Wt s.todo s.begun l) (hla : LastOk s la) (hh : HasLeft s) : Go 50 s (120 :: l) d la (Out s.toks s.en (s.rule .either)) :=
  sim_joined .either 1 .both .either 120 121 [120] (by decide) hl hw hla hh rfl (by decide) (by decide) (fun h => by rw [op1] at h; rw [h]; rfl) (fun h => by rw [Ne, op1] at h; simp [rule, values, chain, h]) ⟨rfl, rfl⟩ ⟨rfl, rfl⟩
theorem sim_andMore (hl : s.at_ ≤ s.toks.length) (hw : Wt s.todo s.begun l) (hla : LastOk s la) (hh : HasLeft s) : Go 50 s (122 :: l) d la (Out s.toks s.en (s.rule .andMore)) :=
  sim_joined .andMore 2 .compared .andMore 122 123 [122] (by decide) hl hw hla hh rfl (by decide) (by decide) (fun h => by rw [op2] at h; rw [h]; rfl) (fun h => by rw [Ne, op2] at h; simp [rule, values, chain, h]) ⟨rfl, rfl⟩ ⟨rfl, rfl⟩
theorem sim_compare (hl : s.at_ ≤ s.toks.length) (hw : Wt s.todo s.begun l) (hla : LastOk s la) (hh : HasLeft s) : Go 50 s (124 :: l) d la (Out s.toks s.en (s.rule .compare)) :=
  sim_joined .compare 3 .sum .nothing 124 125 [] (by decide) hl hw hla hh rfl (by decide) (by decide) (fun h => by rw [op3] at h; simp [rule, values, chain, h.1, h.2]) (fun h => by rw [Ne, op3] at h; simp [rule, values, chain]; omega) ⟨rfl, rfl⟩ ⟨rfl, rfl⟩
theorem sim_sumMore (hl : s.at_ ≤ s.toks.length) (hw : Wt s.todo s.begun l) (hla : LastOk s la) (hh : HasLeft s) : Go 50 s (126 :: l) d la (Out s.toks s.en (s.rule .sumMore)) :=
  sim_joined .sumMore 4 .product .sumMore 126 127 [126] (by decide) hl hw hla hh rfl (by decide) (by decide) (fun h => by rw [op4] at h; rcases h with h | h | h | h <;> (rw [h]; rfl)) (fun h => by rw [Ne, op4] at h; simp [rule, values, chain]; omega) ⟨rfl, rfl⟩ ⟨rfl, rfl⟩
theorem sim_productMore (hl : s.at_ ≤ s.toks.length) (hw : Wt s.todo s.begun l) (hla : LastOk s la) (hh : HasLeft s) : Go 50 s (128 :: l) d la (Out s.toks s.en (s.rule .productMore)) :=
  sim_joined .productMore 5 .signed .productMore 128 129 [128] (by decide) hl hw hla hh rfl (by decide) (by decide) (fun h => by rw [op5] at h; rcases h with h | h | h | h | h | h | h <;> (rw [h]; rfl)) (fun h => by rw [Ne, op5] at h; simp [rule, values, chain]; omega) ⟨rfl, rfl⟩ ⟨rfl, rfl⟩

theorem sim_expression (hl : s.at_ ≤ s.toks.length) (hw : Wt s.todo s.begun l) (hla : LastOk s la) : Go 50 s (119 :: l) d la (Out s.toks s.en (s.rule .expression)) := sim_lay .expression .both .either 119 121 120 hl hw hla rfl (by decide) (by decide) rfl ⟨rfl, rfl⟩ ⟨rfl, rfl⟩
theorem sim_both (hl : s.at_ ≤ s.toks.length) (hw : Wt s.todo s.begun l) (hla : LastOk s la) : Go 50 s (121 :: l) d la (Out s.toks s.en (s.rule .both)) := sim_lay .both .compared .andMore 121 123 122 hl hw hla rfl (by decide) (by decide) rfl ⟨rfl, rfl⟩ ⟨rfl, rfl⟩
theorem sim_compared (hl : s.at_ ≤ s.toks.length) (hw : Wt s.todo s.begun l) (hla : LastOk s la) : Go 50 s (123 :: l) d la (Out s.toks s.en (s.rule .compared)) := sim_lay .compared .sum .compare 123 125 124 hl hw hla rfl (by decide) (by decide) rfl ⟨rfl, rfl⟩ ⟨rfl, rfl⟩
theorem sim_sum (hl : s.at_ ≤ s.toks.length) (hw : Wt s.todo s.begun l) (hla : LastOk s la) : Go 50 s (125 :: l) d la (Out s.toks s.en (s.rule .sum)) := sim_lay .sum .product .sumMore 125 127 126 hl hw hla rfl (by decide) (by decide) rfl ⟨rfl, rfl⟩ ⟨rfl, rfl⟩
theorem sim_product (hl : s.at_ ≤ s.toks.length) (hw : Wt s.todo s.begun l) (hla : LastOk s la) : Go 50 s (127 :: l) d la (Out s.toks s.en (s.rule .product)) := sim_lay .product .signed .productMore 127 129 128 hl hw hla rfl (by decide) (by decide) rfl ⟨rfl, rfl⟩ ⟨rfl, rfl⟩

theorem sim_signed1 (k op : Int) (hkk : s.kind = k) (hk : k < 100) (hk0 : k ≠ 0) (hop : RS.own k = op) (hr : rule 129 k (s.at_ == s.toks.length) = ([2030, k, 4005, 4000, 129, 4001, 1030], true)) (hl : s.at_ ≤ s.toks.length) (hw : Wt s.todo s.begun l) (hn : s.nest ≠ []) :
    Go 50 s (129 :: l) d la (Out s.toks s.en (.ok (((s.begin_ { kind := 30, at_ := s.cur.at_, op := op } 0).skip.enter).do_ [.signed, .leave, .done]))) := by
  refine go_rule (row := [2030, k, 4005, 4000, 129, 4001, 1030]) (by decide) (by decide) hl (by rw [hkk]; exact hr) ?_
  rw [show (Except.ok (((s.begin_ { kind := 30, at_ := s.cur.at_, op := op } 0).skip.enter).do_ [.signed, .leave, .done]) : M PS) = if s.kind = k then Except.ok (((s.begin_ { kind := 30, at_ := s.cur.at_, op := op } 0).skip.enter).do_ [.signed, .leave, .done]) else .error s.fault from (if_pos hkk).symm]
  refine go_mt (m := 30) (k := k) (by decide) (by decide) (by decide) hl hk hk0 fun _ hlt => ?_
  refine go_own (s := (s.begin_ { kind := 30, at_ := s.cur.at_ } 0).skip) rfl hlt ?_
  rw [cur_kind (by rw [hkk]; exact hk0), hkk, hop]
  refine go_enter (by exact hn) hlt ?_
  exact go_fin rfl (Wt.plain rfl (Wt.plain rfl (Wt.done (n := { kind := 30, at_ := s.cur.at_, op := op }) (show (2 : Int) ≤ 30 by decide) (show (30 : Int) < 1000 by decide) hw))) LastOk.skip rfl
theorem sim_signed (hl : s.at_ ≤ s.toks.length) (hw : Wt s.todo s.begun l) (hla : LastOk s la) (hn : s.nest ≠ []) : Go 50 s (129 :: l) d la (Out s.toks s.en (s.rule .signed)) := by
  by_cases h1 : s.kind = 56
  · rw [show s.rule .signed = .ok (((s.begin_ { kind := 30, at_ := s.cur.at_, op := 20 } 0).skip.enter).do_ [.signed, .leave, .done]) by simp only [PS.rule, PS.signed, h1, if_true]]
    exact sim_signed1 56 20 h1 (by decide) (by decide) rfl rfl hl hw hn
  by_cases h2 : s.kind = 68
  · rw [show s.rule .signed = .ok (((s.begin_ { kind := 30, at_ := s.cur.at_, op := 21 } 0).skip.enter).do_ [.signed, .leave, .done]) by simp only [PS.rule, PS.signed, h2, if_neg (show ¬ (68 : Int) = 56 by decide), if_true]]
    exact sim_signed1 68 21 h2 (by decide) (by decide) rfl rfl hl hw hn
  by_cases h3 : s.kind = 62
  · rw [show s.rule .signed = .ok (((s.begin_ { kind := 30, at_ := s.cur.at_, op := 22 } 0).skip.enter).do_ [.signed, .leave, .done]) by simp only [PS.rule, PS.signed, h3, if_neg (show ¬ (62 : Int) = 56 by decide), if_neg (show ¬ (62 : Int) = 68 by decide), if_true]]
    exact sim_signed1 62 22 h3 (by decide) (by decide) rfl rfl hl hw hn
  rw [show s.rule .signed = .ok (s.do_ [.plain, .index]) by simp only [PS.rule, PS.signed, h1, h2, h3, if_false]]
  refine go_rule (row := [131, 130]) (by decide) (by decide) hl (by simp [rule, values, h1, h2, h3]) ?_
  exact go_fin rfl (Wt.plain rfl (Wt.plain rfl hw)) hla rfl

theorem sim_tok (k : Int) (x : Sym) (hk : k < 100) (hk0 : k ≠ 0) (hx : s.rule x = s.expect k) (hl : s.at_ ≤ s.toks.length) (hw : Wt s.todo s.begun l) : Go 50 s (k :: l) d la (Out s.toks s.en (s.rule x)) := by
  rw [hx, expect_e]
  refine go_t hk hk0 fun _ hlt => ?_
  exact go_fin rfl hw LastOk.skip rfl
theorem sim_closed (hl : s.at_ ≤ s.toks.length) (hw : Wt s.todo s.begun l) : Go 50 s (41 :: 4001 :: l) d la (Out s.toks s.en (s.rule .closed)) := by
  rw [show s.rule .closed = s.closed from rfl, closed_e]
  refine go_t (by decide) (by decide) fun _ hlt => ?_
  exact go_leave hlt (go_fin rfl hw LastOk.skip rfl)
theorem sim_shut (hl : s.at_ ≤ s.toks.length) (hw : Wt s.todo s.begun l) : Go 50 s (45 :: 4001 :: l) d la (Out s.toks s.en (s.rule .shut)) := by
  rw [show s.rule .shut = s.shut from rfl, shut_e]
  refine go_t (by decide) (by decide) fun _ hlt => ?_
  exact go_leave hlt (go_fin rfl hw LastOk.skip rfl)
theorem sim_leave (hl : s.at_ ≤ s.toks.length) (hw : Wt s.todo s.begun l) (hla : LastOk s la) : Go 50 s (4001 :: l) d la (Out s.toks s.en (s.rule .leave)) := go_leave hl (go_fin rfl hw hla rfl)
theorem sim_nothing (hw : Wt s.todo s.begun l) (hla : LastOk s la) : Go 50 s l d la (Out s.toks s.en (s.rule .nothing)) := go_fin rfl hw hla rfl
theorem sim_done {n : Nd} {f : Nat} {B : List (Nd × Nat)} (hl : s.at_ ≤ s.toks.length) (hb : s.begun = (n, f) :: B) (h1 : 2 ≤ n.kind) (h2 : n.kind < 1000) (hf : f ≤ s.loose.length) (hw : Wt s.todo B l) (hla : LastOk s la) : Go 50 s ((1000 + n.kind) :: l) d la (Out s.toks s.en (s.rule .done)) := by
  refine go_node (by omega) (by omega) hb (by omega) hf hl ?_
  have e : s.done.toks = s.toks ∧ s.done.en = s.en ∧ s.done.at_ = s.at_ ∧ s.done.todo = s.todo ∧ s.done.begun = B := by unfold PS.done; rw [hb]; exact ⟨rfl, rfl, rfl, rfl, rfl⟩
  have := go_fin (K := 49) (s := s.done) (s' := s.done) (l := l) (d := d) (la := la) rfl (by rw [e.2.2.2.1, e.2.2.2.2]; exact hw) (by unfold LastOk at hla ⊢; rw [e.1, e.2.2.1]; exact hla) rfl
  rw [e.1, e.2.1] at this
  exact this
theorem sim_block (hl : s.at_ ≤ s.toks.length) (hw : Wt s.todo s.begun l) (hn : s.nest ≠ []) : Go 50 s (107 :: l) d la (Out s.toks s.en (s.rule .block)) := by
  rw [show s.rule .block = (s.take 42).bind (fun x => Except.ok ((x.2.begin_ { kind := 3, at_ := x.1.at_ } 0).enter.do_ [.statements])) from rfl, take_b]
  by_cases hk : s.kind = 42
  · refine go_rule (row := [2003, 42, 4000, 108, 43, 4001, 1003]) (by decide) (by decide) hl (by rw [hk]; rfl) ?_
    refine go_mt (m := 3) (k := 42) (by decide) (by decide) (by decide) hl (by decide) (by decide) fun _ hlt => ?_
    refine go_enter (by exact hn) hlt ?_
    exact go_fin rfl (Wt.statements rfl hw) LastOk.skip rfl
  · rw [if_neg hk]
    exact go_bad (row := [2003, 42, 4000, 108, 43, 4001, 1003]) (by decide) (by decide) (by simp [rule, heads, hk])
theorem sim_statements {n : Nd} {f : Nat} {B : List (Nd × Nat)} (hl : s.at_ ≤ s.toks.length) (hb : s.begun = (n, f) :: B) (hk : n.kind = 3) (hf : f ≤ s.loose.length) (hw : Wt s.todo B l) (hla : LastOk s la) : Go 50 s (108 :: 43 :: 4001 :: 1003 :: l) d la (Out s.toks s.en (s.rule .statements)) := by
  by_cases h : s.kind = 43
  · rw [show s.rule .statements = if s.kind = 43 then .ok s.skip.leave.done else .error s.fault by rw [if_pos h]; simp only [PS.rule, PS.statements, h, if_true]]
    refine go_rule (row := []) (by decide) (by decide) hl (by rw [h]; rfl) ?_
    refine go_t (by decide) (by decide) fun _ hlt => ?_
    refine go_leave hlt ?_
    refine go_node (s := s.skip.leave) (by decide) (by decide) hb (by rw [hk]; decide) hf hlt ?_
    have e : s.skip.leave.done.toks = s.toks ∧ s.skip.leave.done.en = s.en ∧ s.skip.leave.done.at_ = s.at_ + 1 ∧ s.skip.leave.done.todo = s.todo ∧ s.skip.leave.done.begun = B := by
      unfold PS.done; rw [show s.skip.leave.begun = (n, f) :: B from hb]; exact ⟨rfl, rfl, rfl, rfl, rfl⟩
    have := go_fin (K := 46) (s := s.skip.leave.done) (s' := s.skip.leave.done) (l := l) (d := declOf 108 s.kind [] d) (la := s.cur) rfl (by rw [e.2.2.2.1, e.2.2.2.2]; exact hw) (by unfold LastOk; rw [e.1, e.2.2.1]; exact fun _ => rfl) rfl
    rw [e.1, e.2.1] at this
    exact this
  · rw [show s.rule .statements = .ok (s.do_ [.statement, .statements]) by simp only [PS.rule, PS.statements, h, if_false]]
    refine go_rule (row := [109, 108]) (by decide) (by decide) hl (by simp [rule, statements, h]) ?_
    refine go_fin rfl ?_ hla rfl
    show Wt (.statement :: .statements :: s.todo) s.begun _
    rw [hb]
    exact Wt.plain (x := .statement) rfl (Wt.statements hk hw)
theorem any_if (h : s.at_ ≤ s.toks.length) : (s.toks[s.at_ + 1]?).any (fun t => t.kind == 12) = true ↔ s.skip.kind = 12 := by
  unfold PS.kind
  show _ ↔ (match s.toks[s.at_ + 1]? with | none => 0 | some t => if right t then t.kind else 0) = 12
  cases ht : s.toks[s.at_ + 1]? with
  | none => simp
  | some t =>
    simp only [Option.any_some, beq_iff_eq]
    constructor
    · intro h
      rw [if_pos]
      · exact h
      · simp [right, h]
    · intro h
      split at h
      · exact h
      · simp at h
theorem sim_otherwise {n : Nd} {f : Nat} {B : List (Nd × Nat)} (hl : s.at_ ≤ s.toks.length) (hb : s.begun = (n, f) :: B) (hk : n.kind = 10) (hf : f ≤ s.loose.length) (hw : Wt s.todo B l) (hla : LastOk s la) (hn : s.nest ≠ []) : Go 50 s (113 :: 1010 :: l) d la (Out s.toks s.en (s.rule .otherwise)) := by
  by_cases h : s.kind = 13
  · refine go_rule (row := [13, 114]) (by decide) (by decide) hl (by rw [h]; rfl) ?_
    have hdone : Wt (.done :: s.todo) s.begun (1010 :: l) := by rw [hb]; have := Wt.done (f := f) (n := n) (by omega) (by omega) hw; rw [hk] at this; exact this
    by_cases h2 : s.skip.kind = 12
    · rw [show s.rule .otherwise = if s.kind = 13 then .ok (s.skip.enter.do_ [.condition, .leave, .done]) else .error s.fault by rw [if_pos h]; simp only [PS.rule, PS.otherwise, h, if_true, (any_if hl).2 h2]]
      refine go_t (by decide) (by decide) fun _ hlt => ?_
      refine go_rule (s := s.skip) (row := [4000, 112, 4001]) (by decide) (by decide) hlt (by rw [h2]; rfl) ?_
      refine go_enter (by exact hn) hlt ?_
      exact go_fin rfl (Wt.plain rfl (Wt.plain rfl hdone)) LastOk.skip rfl
    · rw [show s.rule .otherwise = if s.kind = 13 then .ok (s.skip.do_ [.block, .done]) else .error s.fault by
        rw [if_pos h]; simp only [PS.rule, PS.otherwise, h, if_true]; rw [if_neg (fun hh => h2 ((any_if hl).1 hh))]]
      refine go_t (by decide) (by decide) fun _ hlt => ?_
      by_cases h3 : s.skip.kind = 42
      · refine go_rule (s := s.skip) (row := [107]) (by decide) (by decide) hlt (by rw [h3]; rfl) ?_
        exact go_fin rfl (Wt.plain rfl hdone) LastOk.skip rfl
      · refine go_early (s := s.skip) (row := [107]) (x := .block) (t := .done :: s.todo) (by decide) (by decide) (by simp [rule, statements, h2, h3]) rfl ?_
        have hbk : ∀ u : PS, u.kind ≠ 42 → u.rule .block = .error u.fault := fun u hu => by
          rw [show u.rule .block = (u.take 42).bind (fun x => Except.ok ((x.2.begin_ { kind := 3, at_ := x.1.at_ } 0).enter.do_ [.statements])) from rfl, take_b, if_neg hu]
        exact hbk { s.skip with todo := .done :: s.todo } h3
  · rw [show s.rule .otherwise = s.rule .done by simp only [PS.rule, PS.otherwise, h, if_false]]
    refine go_rule (row := []) (by decide) (by decide) hl (by simp [rule, statements, h]) ?_
    have := sim_done (l := l) (d := d) hl hb (by omega) (by omega) hf hw hla
    rw [hk] at this
    refine Go.mono (K := 49) ?_ (Nat.le_refl _)
    have e : s.done.toks = s.toks ∧ s.done.en = s.en ∧ s.done.at_ = s.at_ ∧ s.done.todo = s.todo ∧ s.done.begun = B := by unfold PS.done; rw [hb]; exact ⟨rfl, rfl, rfl, rfl, rfl⟩
    refine go_node (by decide) (by decide) hb (by omega) hf hl ?_
    have := go_fin (K := 48) (s := s.done) (s' := s.done) (l := l) (d := declOf 113 s.kind [] d) (la := la) rfl (by rw [e.2.2.2.1, e.2.2.2.2]; exact hw) (by unfold LastOk at hla ⊢; rw [e.1, e.2.2.1]; exact hla) rfl
    rw [e.1, e.2.1] at this
    exact this
end Rf
end Go.Proofs.Ythodjlhjfaccpaa
