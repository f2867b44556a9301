/- The document's own machine and the parser's machine go side by side: values, functions, all. No program here. -/
import Derived.Test.YthodjlhjfaccpaaSim3
import Derived.Test.YthodjlhjfaccpaaPrun
set_option linter.unusedVariables false
namespace Go.Proofs.Ythodjlhjfaccpaa
open Go Pm
namespace Rf
variable {s : PS} {l : List Int} {d : Int} {la : Tok} {t : List Sym}

theorem sim_index (hl : s.at_ ≤ s.toks.length) (hw : Wt s.todo s.begun l) (hla : LastOk s la) (hn : s.nest ≠ []) (hh : HasLeft s) : Go 50 s (130 :: l) d la (Out s.toks s.en (s.rule .index)) := by
  rw [show s.rule .index = if s.kind = 44 then ((s.begin_ { kind := 29, at_ := s.leftAt } 1).opened 44).bind (fun x => Except.ok (x.do_ [.expression, .shut, .done, .index])) else .ok s from rfl]
  by_cases hk : s.kind = 44
  · rw [if_pos hk, opened_b]
    refine go_rule (row := [3029, 44, 4000, 119, 45, 4001, 1029, 130]) (by decide) (by decide) hl (by rw [hk]; rfl) ?_
    refine go_left (m := 29) (by decide) (by decide) (by decide) hh hl ?_
    refine go_t (s := s.begin_ { kind := 29, at_ := s.leftAt } 1) (by decide) (by decide) fun _ hlt => ?_
    refine go_enter hn hlt ?_
    exact go_fin rfl (Wt.plain (x := .expression) rfl (Wt.plain (x := .shut) rfl (wdone 29 rfl (by decide) (by decide) (by decide) (Wt.plain (x := .index) rfl hw)))) LastOk.skip rfl
  · rw [if_neg hk]
    refine go_rule (row := []) (by decide) (by decide) hl (by simp [rule, values, hk]) ?_
    exact go_fin rfl hw hla rfl
theorem sim_arguments (hl : s.at_ ≤ s.toks.length) (hw : Wt s.todo s.begun l) (hla : LastOk s la) : Go 50 s (117 :: 41 :: 4001 :: l) d la (Out s.toks s.en (s.rule .arguments)) := by
  rw [show s.rule .arguments = if s.kind = 41 then s.closed else .ok (s.do_ [.expression, .moreArguments]) from rfl]
  by_cases hk : s.kind = 41
  · rw [if_pos hk, closed_e]
    refine go_rule (row := []) (by decide) (by decide) hl (by rw [hk]; rfl) ?_
    refine go_t (by decide) (by decide) fun _ hlt => ?_
    exact go_leave hlt (go_fin rfl hw LastOk.skip rfl)
  · rw [if_neg hk]
    refine go_rule (row := [119, 118]) (by decide) (by decide) hl (by simp [rule, values, hk]) ?_
    exact go_fin rfl (Wt.plain (x := .expression) rfl (Wt.plain (x := .moreArguments) rfl hw)) hla rfl
theorem sim_moreArguments (hl : s.at_ ≤ s.toks.length) (hw : Wt s.todo s.begun l) (hla : LastOk s la) : Go 50 s (118 :: 41 :: 4001 :: l) d la (Out s.toks s.en (s.rule .moreArguments)) := by
  rw [show s.rule .moreArguments = if s.kind = 46 then .ok (s.skip.do_ [.expression, .moreArguments]) else s.closed from rfl]
  by_cases hk : s.kind = 41
  · rw [if_neg (by rw [hk]; decide), closed_e]
    refine go_rule (row := []) (by decide) (by decide) hl (by rw [hk]; rfl) ?_
    refine go_t (by decide) (by decide) fun _ hlt => ?_
    exact go_leave hlt (go_fin rfl hw LastOk.skip rfl)
  · by_cases hk2 : s.kind = 46
    · rw [if_pos hk2, as_if hk2 (Except.ok _)]
      refine go_rule (row := [46, 119, 118]) (by decide) (by decide) hl (by rw [hk2]; rfl) ?_
      refine go_t (by decide) (by decide) fun _ hlt => ?_
      exact go_fin rfl (Wt.plain (x := .expression) rfl (Wt.plain (x := .moreArguments) rfl hw)) LastOk.skip rfl
    · rw [if_neg hk2, closed_e, if_neg hk]
      exact go_bad (row := [46, 119, 118]) (by decide) (by decide) (by simp [rule, values, hk, hk2])
theorem sim_program (hl : s.at_ ≤ s.toks.length) (hw : Wt s.todo s.begun l) (hla : LastOk s la) : Go 50 s (100 :: l) d la (Out s.toks s.en (s.rule .program)) := by
  rw [show s.rule .program = .ok (if s.at_ < s.toks.length then s.do_ [.function, .program] else s) from rfl]
  by_cases h : s.at_ < s.toks.length
  · rw [if_pos h]
    have hov : (s.at_ == s.toks.length) = false := by rw [beq_eq_false_iff_ne]; omega
    by_cases hk : s.kind = 10
    · refine go_rule (row := [101, 100]) (by decide) (by decide) hl (by rw [hov, hk]; rfl) ?_
      exact go_fin rfl (Wt.plain (x := .function) rfl (Wt.plain (x := .program) rfl hw)) hla rfl
    · refine go_early (row := [101, 100]) (x := .function) (t := .program :: s.todo) (by decide) (by decide) (by rw [hov]; simp [rule, heads, hk]) rfl ?_
      have hf : ∀ v : PS, v.kind ≠ 10 → v.rule .function = .error v.fault := fun v hv => by
        rw [show v.rule .function = (v.take 10).bind _ from rfl, take_b, if_neg hv]
      exact hf _ hk
  · rw [if_neg h]
    have hov : (s.at_ == s.toks.length) = true := by rw [beq_iff_eq]; omega
    refine go_rule (row := []) (by decide) (by decide) hl (by rw [hov]; rfl) ?_
    exact go_fin rfl hw hla rfl
theorem sim_functionEnd {n : Nd} {f : Nat} {B : List (Nd × Nat)} (hl : s.at_ ≤ s.toks.length) (hb : s.begun = (n, f) :: B) (hk : n.kind = 1) (hf : f ≤ s.loose.length) (hw : Wt s.todo B l) (hla : LastOk s la) (h1 : 1 ≤ s.at_) : Go 50 s (4007 :: 1001 :: l) d la (Out s.toks s.en (s.rule .functionEnd)) := by
  refine go_close hb hl ?_
  refine go_fn (s := { s with begun := ({ n with close := la.at_ }, f) :: B }) rfl hk hf hl ?_
  have e : s.rule .functionEnd = .ok { s with begun := B, nodes := s.nodes ++ [{ n with close := la.at_, kids := s.loose.drop f }], funcs := s.funcs ++ [(s.nodes.length : Int)], loose := [] } := by
    have : s.rule .functionEnd = .ok s.functionEnd := rfl
    rw [this]
    unfold PS.functionEnd PS.top
    rw [hb]
    unfold PS.done
    dsimp only
    rw [← hla h1]
    have : ((s.nodes ++ [{ n with close := la.at_, kids := s.loose.drop f }]).length : Int) - 1 = s.nodes.length := by rw [List.length_append, List.length_singleton]; omega
    rw [this]
  rw [e]
  exact go_fin rfl hw hla rfl

theorem sim_leafr {w m k z : Int} {g : Nd} (hm : w - 2000 = m) (h1 : 2000 ≤ w) (h2 : w < 3000) (hk0 : k < 100 ∧ k ≠ 0) (hz : z = 1000 + m) (hm2 : 2 ≤ m ∧ m < 1000) (hk : s.kind = k) (hl : s.at_ ≤ s.toks.length) (hw : Wt s.todo s.begun l) :
    Go 45 s (w :: k :: z :: l) d la (Out s.toks s.en (.ok (s.skip.leaf { kind := m, at_ := s.cur.at_ }))) := by
  rw [as_if hk (Except.ok _)]
  refine go_mt (m := m) hm h1 h2 hl hk0.1 hk0.2 fun _ hlt => ?_
  refine go_node (s := (s.begin_ { kind := m, at_ := s.cur.at_ } 0).skip) (by omega) (by omega) rfl (show m ≠ 1 by omega) (Nat.le_refl _) hlt ?_
  exact go_fin rfl hw LastOk.skip rfl

theorem sim_name (hl : s.at_ ≤ s.toks.length) (hw : Wt s.todo s.begun l) (hn : s.nest ≠ []) (hk : s.kind = 1) : Go 45 s (2024 :: 1 :: 4002 :: 132 :: l) d la (Out s.toks s.en (s.skip.name s.cur)) := by
  rw [as_if hk (s.skip.name s.cur)]
  refine go_mt (m := 24) (by decide) (by decide) (by decide) hl (by decide) (by decide) fun _ hlt => ?_
  refine go_name (s := (s.begin_ { kind := 24, at_ := s.cur.at_ } 0).skip) rfl hlt ?_
  rw [show s.skip.name s.cur = if s.skip.kind = 40 then ((s.skip.begin_ { kind := 25, at_ := s.cur.at_, where_ := s.cur.at_, name := s.cur.name } 0).opened 40).bind (fun x => Except.ok (x.do_ [.arguments, .done]))
    else .ok (s.skip.leaf { kind := 24, at_ := s.cur.at_, where_ := s.cur.at_, name := s.cur.name }) from rfl]
  by_cases h : s.skip.kind = 40
  · rw [if_pos h, opened_b]
    refine go_rule (s := { s.skip with begun := ({ kind := 24, at_ := s.cur.at_, where_ := s.cur.at_, name := s.cur.name }, s.loose.length) :: s.begun }) (row := [5025, 40, 4000, 117, 41, 4001, 1025]) (by decide) (by decide) hlt
      (by rw [show ({ s.skip with begun := ({ kind := 24, at_ := s.cur.at_, where_ := s.cur.at_, name := s.cur.name }, s.loose.length) :: s.begun } : PS).kind = 40 from h]; rfl) ?_
    refine go_as (m := 25) (by decide) (by decide) (by decide) rfl hlt ?_
    refine go_t (s := { s.skip with begun := ({ kind := 25, at_ := s.cur.at_, where_ := s.cur.at_, name := s.cur.name }, s.loose.length) :: s.begun }) (by decide) (by decide) fun _ hlt2 => ?_
    refine go_enter hn hlt2 ?_
    exact go_fin rfl (Wt.plain (x := .arguments) rfl (wdone 25 rfl (by decide) (by decide) (by decide) hw)) LastOk.skip rfl
  · rw [if_neg h]
    refine go_rule (s := { s.skip with begun := ({ kind := 24, at_ := s.cur.at_, where_ := s.cur.at_, name := s.cur.name }, s.loose.length) :: s.begun }) (row := [1024]) (by decide) (by decide) hlt
      (by rw [show ({ s.skip with begun := ({ kind := 24, at_ := s.cur.at_, where_ := s.cur.at_, name := s.cur.name }, s.loose.length) :: s.begun } : PS).kind = s.skip.kind from rfl]; simp [rule, values, h]) ?_
    refine go_node (s := { s.skip with begun := ({ kind := 24, at_ := s.cur.at_, where_ := s.cur.at_, name := s.cur.name }, s.loose.length) :: s.begun }) (by decide) (by decide) rfl (show (24 : Int) ≠ 1 by decide) (Nat.le_refl _) hlt ?_
    exact go_fin rfl hw LastOk.skip rfl

theorem sim_plain (hl : s.at_ ≤ s.toks.length) (hw : Wt s.todo s.begun l) (hn : s.nest ≠ []) : Go 50 s (131 :: l) d la (Out s.toks s.en (s.rule .plain)) := by
  rw [show s.rule .plain = s.plain from rfl]
  have hr : ∀ k row b, s.kind = k → prim k = (row, b) → rule 131 s.kind (s.at_ == s.toks.length) = (row, b) := fun k row b h1 h2 => by rw [h1, ← h2]; rfl
  unfold PS.plain
  dsimp only
  by_cases h0 : s.kind = 0
  · rw [if_pos h0]; exact go_bad (row := []) (by decide) (by decide) (hr _ _ _ h0 rfl)
  rw [if_neg h0]
  by_cases h2 : s.kind = 2
  · rw [if_pos h2, as_if h2 (Except.ok _)]
    refine go_rule (by decide) (by decide) hl (hr _ _ _ h2 rfl) ?_
    refine go_mt (m := 20) (by decide) (by decide) (by decide) hl (by decide) (by decide) fun _ hlt => ?_
    refine go_value (s := (s.begin_ { kind := 20, at_ := s.cur.at_ } 0).skip) rfl hlt ?_
    refine go_node (s := { s.skip with begun := ({ kind := 20, at_ := s.cur.at_, value := s.cur.value }, s.loose.length) :: s.begun }) (by decide) (by decide) rfl (show (20 : Int) ≠ 1 by decide) (Nat.le_refl _) hlt ?_
    exact go_fin rfl hw LastOk.skip rfl
  rw [if_neg h2]
  by_cases h25 : s.kind = 25
  · rw [if_pos h25]; exact (go_rule (by decide) (by decide) hl (hr _ _ _ h25 rfl) (sim_leafr (g := {}) (by decide) (by decide) (by decide) (by decide) (by decide) (by decide) h25 hl hw)).mono (by decide)
  rw [if_neg h25]
  by_cases h26 : s.kind = 26
  · rw [if_pos h26]; exact (go_rule (by decide) (by decide) hl (hr _ _ _ h26 rfl) (sim_leafr (g := {}) (by decide) (by decide) (by decide) (by decide) (by decide) (by decide) h26 hl hw)).mono (by decide)
  rw [if_neg h26]
  by_cases h27 : s.kind = 27
  · rw [if_pos h27]; exact (go_rule (by decide) (by decide) hl (hr _ _ _ h27 rfl) (sim_leafr (g := {}) (by decide) (by decide) (by decide) (by decide) (by decide) (by decide) h27 hl hw)).mono (by decide)
  rw [if_neg h27]
  by_cases h20 : s.kind = 20
  · rw [if_pos h20, show (do let s1 ← s.skip.opened 40; let s2 ← s1.closed; pure (s2.leaf { kind := 26, at_ := s.cur.at_ }) : M PS) = (s.skip.opened 40).bind (fun x => x.closed.bind (fun y => Except.ok (y.leaf { kind := 26, at_ := s.cur.at_ }))) from rfl, opened_b, closed_b, as_if h20 (ite _ _ _)]
    refine go_rule (by decide) (by decide) hl (hr _ _ _ h20 rfl) ?_
    refine go_mt (m := 26) (by decide) (by decide) (by decide) hl (by decide) (by decide) fun _ hlt => ?_
    refine go_t (s := (s.begin_ { kind := 26, at_ := s.cur.at_ } 0).skip) (by decide) (by decide) fun _ hlt2 => ?_
    refine go_enter hn hlt2 ?_
    refine go_t (s := (s.begin_ { kind := 26, at_ := s.cur.at_ } 0).skip.skip.enter) (by decide) (by decide) fun _ hlt3 => ?_
    refine go_leave hlt3 ?_
    refine go_node (s := (s.begin_ { kind := 26, at_ := s.cur.at_ } 0).skip.skip.enter.skip.leave) (by decide) (by decide) rfl (show (26 : Int) ≠ 1 by decide) (Nat.le_refl _) hlt3 ?_
    exact go_fin rfl hw LastOk.skip rfl
  rw [if_neg h20]
  by_cases h1 : s.kind = 1
  · rw [if_pos h1]; exact (go_rule (by decide) (by decide) hl (hr _ _ _ h1 rfl) (sim_name hl hw hn h1)).mono (by decide)
  rw [if_neg h1]
  by_cases h21 : s.kind = 21
  · rw [if_pos h21, show (do let s1 ← (s.skip.begin_ { kind := 27, at_ := s.cur.at_ } 0).opened 40; pure (s1.do_ [.expression, .closed, .done]) : M PS) = ((s.skip.begin_ { kind := 27, at_ := s.cur.at_ } 0).opened 40).bind (fun x => Except.ok (x.do_ [.expression, .closed, .done])) from rfl, opened_b, as_if h21 (ite _ _ _)]
    refine go_rule (by decide) (by decide) hl (hr _ _ _ h21 rfl) ?_
    refine go_mt (m := 27) (by decide) (by decide) (by decide) hl (by decide) (by decide) fun _ hlt => ?_
    refine go_t (s := (s.begin_ { kind := 27, at_ := s.cur.at_ } 0).skip) (by decide) (by decide) fun _ hlt2 => ?_
    refine go_enter hn hlt2 ?_
    exact go_fin rfl (Wt.plain (x := .expression) rfl (Wt.plain (x := .closed) rfl (wdone 27 rfl (by decide) (by decide) (by decide) hw))) LastOk.skip rfl
  rw [if_neg h21]
  by_cases h22 : s.kind = 22
  · rw [if_pos h22, show s.skip.made s.cur = ((s.skip.begin_ { kind := 28, at_ := s.cur.at_ } 0).opened 40).bind (fun a => (a.expect 44).bind (fun b => (b.expect 45).bind (fun c => (c.expect 23).bind (fun e => (e.expect 46).bind (fun g => Except.ok (g.do_ [.expression, .closed, .done])))))) from rfl,
      opened_b, expect_b, expect_b, expect_b, expect_b, as_if h22 (ite _ _ _)]
    refine go_rule (by decide) (by decide) hl (hr _ _ _ h22 rfl) ?_
    refine go_mt (m := 28) (by decide) (by decide) (by decide) hl (by decide) (by decide) fun _ hlt => ?_
    refine go_t (s := (s.begin_ { kind := 28, at_ := s.cur.at_ } 0).skip) (by decide) (by decide) fun _ hlt2 => ?_
    refine go_enter hn hlt2 ?_
    refine go_t (s := (s.begin_ { kind := 28, at_ := s.cur.at_ } 0).skip.skip.enter) (by decide) (by decide) fun _ hlt3 => ?_
    refine go_t (s := (s.begin_ { kind := 28, at_ := s.cur.at_ } 0).skip.skip.enter.skip) (by decide) (by decide) fun _ hlt4 => ?_
    refine go_t (s := (s.begin_ { kind := 28, at_ := s.cur.at_ } 0).skip.skip.enter.skip.skip) (by decide) (by decide) fun _ hlt5 => ?_
    refine go_t (s := (s.begin_ { kind := 28, at_ := s.cur.at_ } 0).skip.skip.enter.skip.skip.skip) (by decide) (by decide) fun _ hlt6 => ?_
    exact go_fin rfl (Wt.plain (x := .expression) rfl (Wt.plain (x := .closed) rfl (wdone 28 rfl (by decide) (by decide) (by decide) hw))) LastOk.skip rfl
  rw [if_neg h22]
  by_cases h40 : s.kind = 40
  · rw [if_pos h40, as_if h40 (Except.ok _)]
    refine go_rule (by decide) (by decide) hl (hr _ _ _ h40 rfl) ?_
    refine go_t (by decide) (by decide) fun _ hlt => ?_
    refine go_enter hn hlt ?_
    exact go_fin rfl (Wt.plain (x := .expression) rfl (Wt.plain (x := .closed) rfl hw)) LastOk.skip rfl
  rw [if_neg h40]
  exact go_bad (row := []) (by decide) (by decide) (hr _ _ _ rfl (by simp [prim, h2, h25, h26, h27, h20, h1, h21, h22, h40]))

/-- A parameter. -/
theorem go_param {K : Nat} {F : PS → M PS} (hl : s.at_ ≤ s.toks.length)
    (h : ∀ (u : PS) (dd : Int) (v : Tok), u.toks = s.toks → u.en = s.en → u.begun = s.begun → u.todo = s.todo → u.funcs = s.funcs → u.nest = s.nest → u.open_ = s.open_ → s.loose.length ≤ u.loose.length → s.at_ < u.at_ → u.at_ ≤ s.toks.length → LastOk u v → Go K u l dd v (Out s.toks s.en (F u))) :
    Go (K + 10) s (103 :: l) d la (Out s.toks s.en (s.param.bind F)) := by
  rw [show s.param.bind F = (s.take 1).bind (fun x => x.2.typed.bind (fun y => F (y.2.leaf { kind := 2, at_ := x.1.at_, where_ := x.1.at_, name := x.1.name, decl := y.1 }))) from by
    show ((s.take 1).bind (fun x => x.2.typed.bind (fun y => (Except.ok (y.2.leaf { kind := 2, at_ := x.1.at_, where_ := x.1.at_, name := x.1.name, decl := y.1 }) : M PS)))).bind F = _
    cases s.take 1 with
    | error e => rfl
    | ok x =>
      show (x.2.typed.bind _).bind F = x.2.typed.bind _
      cases x.2.typed with
      | error e => rfl
      | ok y => rfl, take_b]
  refine go_rule (row := [2002, 1, 4002, 106, 4003, 1002]) (by decide) (by decide) hl rfl ?_
  refine go_mt (m := 2) (by decide) (by decide) (by decide) hl (by decide) (by decide) fun _ hlt => ?_
  refine go_name (s := (s.begin_ { kind := 2, at_ := s.cur.at_ } 0).skip) rfl hlt ?_
  rw [typed_b]
  have tail : ∀ (u : PS) (dd : Int) (v : Tok), u.toks = s.toks → u.en = s.en → u.begun = s.begun → u.todo = s.todo → u.funcs = s.funcs → u.nest = s.nest → u.open_ = s.open_ → u.loose = s.loose → s.at_ < u.at_ → u.at_ ≤ s.toks.length → LastOk u v →
      Go (K + 2) { u with begun := ({ kind := 2, at_ := s.cur.at_, where_ := s.cur.at_, name := s.cur.name }, s.loose.length) :: s.begun } (4003 :: 1002 :: l) dd v (Out s.toks s.en (F (u.leaf { kind := 2, at_ := s.cur.at_, where_ := s.cur.at_, name := s.cur.name, decl := dd }))) := by
    intro u dd v h1 h2 h3 h4 h5 h6 h7 h8 h9 h10 h11
    refine go_decl rfl (by show u.at_ ≤ u.toks.length; rw [h1]; exact h10) ?_
    refine go_node (s := { u with begun := ({ kind := 2, at_ := s.cur.at_, where_ := s.cur.at_, name := s.cur.name, decl := dd }, s.loose.length) :: s.begun }) (by decide) (by decide) rfl (show (2 : Int) ≠ 1 by decide) (by rw [← h8]; exact Nat.le_refl _) (by show u.at_ ≤ u.toks.length; rw [h1]; exact h10) ?_
    have e : ({ u with begun := ({ kind := 2, at_ := s.cur.at_, where_ := s.cur.at_, name := s.cur.name, decl := dd }, s.loose.length) :: s.begun } : PS).done = u.leaf { kind := 2, at_ := s.cur.at_, where_ := s.cur.at_, name := s.cur.name, decl := dd } := by
      rw [← h8, ← h3]; rfl
    rw [e]
    refine h _ dd v h1 h2 h3 h4 h5 h6 h7 ?_ h9 h10 h11
    show _ ≤ (u.loose.take (u.loose.length - 0) ++ [(u.nodes.length : Int)]).length
    rw [List.length_append, List.length_take, h8]
    simp
  refine go_ty (s := { s.skip with begun := ({ kind := 2, at_ := s.cur.at_, where_ := s.cur.at_, name := s.cur.name }, s.loose.length) :: s.begun }) hlt (fun _ h => ?_) (fun _ h => ?_) (fun h => ?_)
  · exact tail s.skip.skip 1 _ rfl rfl rfl rfl rfl rfl rfl rfl (by show s.at_ < s.at_ + 1 + 1; omega) h fun _ => rfl
  · exact tail s.skip.skip 2 _ rfl rfl rfl rfl rfl rfl rfl rfl (by show s.at_ < s.at_ + 1 + 1; omega) h fun _ => rfl
  · exact tail s.skip.skip.skip.skip 3 _ rfl rfl rfl rfl rfl rfl rfl rfl (by show s.at_ < s.at_ + 1 + 1 + 1 + 1; omega) h fun _ => rfl

/-- More parameters. -/
theorem go_params {F : PS → M PS} {K : Nat} (hF : ∀ u : PS, u.kind ≠ 41 → F u = .error u.fault) : ∀ (n : Nat) (s : PS) (d : Int) (la : Tok), s.toks.length ≤ s.at_ + n → s.at_ ≤ s.toks.length → LastOk s la →
    (∀ (u : PS) (dd : Int) (v : Tok), u.toks = s.toks → u.en = s.en → u.begun = s.begun → u.todo = s.todo → u.funcs = s.funcs → u.nest = s.nest → u.open_ = s.open_ → s.loose.length ≤ u.loose.length → s.at_ ≤ u.at_ → u.at_ ≤ s.toks.length → LastOk u v → Go K u l dd v (Out s.toks s.en (F u))) →
    Go (K + 12 * (s.toks.length - s.at_) + 1) s (104 :: l) d la (Out s.toks s.en ((PS.params n s).bind F))
  | n, s, d, la, hn, hl, hla, h => by
    by_cases hk : s.kind = 41
    · have e : PS.params n s = .ok s := by cases n with
        | zero => rfl
        | succ n => show (if s.kind = 41 then Except.ok s else _) = _; rw [if_pos hk]
      rw [e]
      refine go_rule (row := []) (by decide) (by decide) hl (by rw [hk]; rfl) ?_
      exact (h s (declOf 104 s.kind [] d) la rfl rfl rfl rfl rfl rfl rfl (Nat.le_refl _) (Nat.le_refl _) hl hla).mono (by omega)
    · by_cases hk2 : s.kind = 46
      · have hlt : s.at_ < s.toks.length := kind_lt (by rw [hk2]; decide)
        cases n with
        | zero => omega
        | succ n =>
          have e : (PS.params (n + 1) s).bind F = if s.kind = 46 then s.skip.param.bind (fun u => (PS.params n u).bind F) else .error s.fault := by
            show (if s.kind = 41 then Except.ok s else (s.expect 46).bind (fun a => a.param.bind (fun b => PS.params n b))).bind F = _
            rw [if_neg hk, expect_b, if_pos hk2, if_pos hk2]
            cases s.skip.param <;> rfl
          rw [e]
          refine go_rule (row := [46, 103, 104]) (by decide) (by decide) hl (by rw [hk2]; rfl) ?_
          obtain ⟨m, hm⟩ : ∃ m, s.toks.length - s.at_ = m + 1 := ⟨s.toks.length - s.at_ - 1, by omega⟩
          rw [hm]
          refine Go.mono (K := K + 12 * m + 1 + 10 + 1) ?_ (by omega)
          refine go_t (by decide) (by decide) fun _ hlt => ?_
          refine go_param (s := s.skip) hlt fun u dd v h1 h2 h3 h4 h5 h6 h7 h8 h9 h10 h11 => ?_
          have h1' : u.toks = s.toks := h1
          have h2' : u.en = s.en := h2
          have h9' : s.at_ + 1 < u.at_ := h9
          have h10' : u.at_ ≤ s.toks.length := h10
          have ih := go_params hF n u dd v (by rw [h1']; omega) (by rw [h1']; omega) h11 (fun x dd v g1 g2 g3 g4 g5 g6 g7 g8 g9 g10 g11 => by
            have := h x dd v (g1.trans h1') (g2.trans h2') (g3.trans h3) (g4.trans h4) (g5.trans h5) (g6.trans h6) (g7.trans h7) (Nat.le_trans h8 g8) (by omega) (by rw [h1'] at g10; exact g10) g11
            rw [h1', h2']; exact this)
          rw [h1', h2'] at ih
          exact ih.mono (by omega)
      · have e : (PS.params n s).bind F = .error s.fault := by
          cases n with
          | zero => exact hF s hk
          | succ n =>
            show (if s.kind = 41 then Except.ok s else (s.expect 46).bind (fun a => a.param.bind (fun b => PS.params n b))).bind F = _
            rw [if_neg hk, expect_b, if_neg hk2]
            rfl
        rw [e]
        exact go_bad (row := [46, 103, 104]) (by decide) (by decide) (by simp [rule, heads, hk, hk2])

/-- A function's end of its head. -/
def fnTail (s : PS) : M PS := if s.kind = 41 then (if s.skip.kind = 42 then .ok (({ s.skip with nest := s.skip.nest ++ [0] } : PS).do_ [.block, .functionEnd]) else s.skip.typed.bind (fun x => .ok (({ (x.2.top fun n => { n with decl := x.1 }) with nest := (x.2.top fun n => { n with decl := x.1 }).nest ++ [0] } : PS).do_ [.block, .functionEnd]))) else .error s.fault
theorem function_eq (s : PS) : s.function = (s.take 10).bind (fun x => (x.2.take 1).bind (fun y => ((y.2.begin_ { kind := 1, at_ := x.1.at_, where_ := y.1.at_, name := y.1.name } 0).expect 40).bind (fun u =>
    if u.kind = 41 then (PS.params (u.toks.length - u.at_) u).bind fnTail else u.param.bind (fun v => (PS.params (v.toks.length - v.at_) v).bind fnTail)))) := by
  unfold PS.function
  change Except.bind (s.take 10) _ = _
  congr 1
  funext x
  obtain ⟨x1, x2⟩ := x
  change Except.bind (x2.take 1) _ = _
  congr 1
  funext y
  obtain ⟨y1, y2⟩ := y
  change Except.bind (PS.expect _ 40) _ = _
  congr 1
  funext u
  have tail : ∀ v : PS, (do
      let s ← v.expect 41
      let s ← if s.kind = 42 then pure s else (do
        let (d, s) ← s.typed
        pure (s.top fun n => { n with decl := d }))
      pure (({ s with nest := s.nest ++ [0] } : PS).do_ [.block, .functionEnd]) : M PS) = fnTail v := by
    intro v
    unfold fnTail
    change Except.bind (v.expect 41) _ = _
    rw [expect_b]
    split
    · dsimp only
      split
      · rfl
      · change Except.bind (Except.bind v.skip.typed _) _ = Except.bind v.skip.typed _
        cases v.skip.typed <;> rfl
    · rfl
  split
  · change Except.bind (PS.params (u.toks.length - u.at_) u) _ = _
    congr 1
    funext z
    exact tail z
  · change Except.bind u.param _ = _
    congr 1
    funext v
    change Except.bind (PS.params (v.toks.length - v.at_) v) _ = _
    congr 1
    funext z
    exact tail z

theorem go_fnTail {n : Nd} {f : Nat} {B : List (Nd × Nat)} (hl : s.at_ ≤ s.toks.length) (hb : s.begun = (n, f) :: B) (hk : n.kind = 1) (hd : n.decl = 0) (hw : Wt s.todo B l) :
    Go 15 s (41 :: 105 :: 4003 :: 4008 :: 107 :: 4007 :: 1001 :: l) d la (Out s.toks s.en (fnTail s)) := by
  unfold fnTail
  refine go_t (by decide) (by decide) fun _ hlt => ?_
  by_cases h42 : s.skip.kind = 42
  · rw [if_pos h42]
    refine go_rule (s := s.skip) (row := []) (by decide) (by decide) hlt (by rw [h42]; rfl) ?_
    refine go_decl (s := s.skip) hb hlt ?_
    refine go_nest hlt ?_
    have e0 : declOf 105 s.skip.kind [] d = 0 := by unfold declOf; rw [if_neg (by decide), if_pos ⟨rfl, rfl⟩]
    have en : ({ n with decl := 0 } : Nd) = n := by cases n; cases hd; rfl
    have e : ({ s.skip with begun := ({ n with decl := 0 }, f) :: B } : PS) = s.skip := by rw [en, ← hb]; rfl
    rw [e0, e]
    refine go_fin rfl ?_ LastOk.skip rfl
    have h := Wt.plain (x := .block) rfl (Wt.functionEnd (f := f) hk hw)
    rw [← hb] at h
    exact h
  · rw [if_neg h42, typed_b]
    by_cases hty : s.skip.kind = 23 ∨ s.skip.kind = 24 ∨ s.skip.kind = 44
    · refine go_rule (s := s.skip) (row := [106]) (by decide) (by decide) hlt (by simp [rule, heads, h42]; omega) ?_
      have tail : ∀ (u : PS) (dd : Int) (v : Tok), u.toks = s.toks → u.en = s.en → u.begun = s.begun → u.todo = s.todo → u.at_ ≤ s.toks.length → LastOk u v →
          Go 5 u (4003 :: 4008 :: 107 :: 4007 :: 1001 :: l) dd v (Out s.toks s.en (.ok (({ (u.top fun n => { n with decl := dd }) with nest := (u.top fun n => { n with decl := dd }).nest ++ [0] } : PS).do_ [.block, .functionEnd]))) := by
        intro u dd v h1 h2 h3 h4 h5 h6
        have hb' : u.begun = (n, f) :: B := h3.trans hb
        refine go_decl hb' (by rw [h1]; exact h5) ?_
        refine go_nest (by show u.at_ ≤ u.toks.length; rw [h1]; exact h5) ?_
        have e : (u.top fun n => { n with decl := dd }) = { u with begun := ({ n with decl := dd }, f) :: B } := by unfold PS.top; rw [hb']
        rw [e, ← h1, ← h2]
        refine go_fin rfl ?_ h6 rfl
        have h := Wt.plain (x := .block) rfl (Wt.functionEnd (f := f) (n := { n with decl := dd }) hk hw)
        rw [← h4] at h
        exact h
      refine Go.mono (K := 5 + 4) ?_ (by decide)
      refine go_ty (s := s.skip) hlt (fun _ h => ?_) (fun _ h => ?_) (fun h => ?_)
      · exact tail s.skip.skip 1 _ rfl rfl rfl rfl h fun _ => rfl
      · exact tail s.skip.skip 2 _ rfl rfl rfl rfl h fun _ => rfl
      · exact tail s.skip.skip.skip.skip 3 _ rfl rfl rfl rfl h fun _ => rfl
    · rw [if_neg (by omega), if_neg (by omega), if_neg (by omega)]
      exact go_bad (s := s.skip) (row := [106]) (by decide) (by decide) (by simp [rule, heads, h42]; omega)

theorem sim_function (hl : s.at_ ≤ s.toks.length) (hw : Wt s.todo s.begun l) : Go (60 + 12 * s.toks.length) s (101 :: l) d la (Out s.toks s.en (s.rule .function)) := by
  rw [show s.rule .function = s.function from rfl, function_eq, take_b]
  refine Go.mono (K := (12 * s.toks.length + 40) + 2 + 1) ?_ (by omega)
  refine go_rule (row := [2001, 10, 1, 4002, 40, 102, 41, 105, 4003, 4008, 107, 4007, 1001]) (by decide) (by decide) hl rfl ?_
  refine go_mt (m := 1) (by decide) (by decide) (by decide) hl (by decide) (by decide) fun _ hlt => ?_
  rw [take_b]
  refine go_t (s := (s.begin_ { kind := 1, at_ := s.cur.at_ } 0).skip) (by decide) (by decide) fun _ hlt2 => ?_
  refine go_name (s := (s.begin_ { kind := 1, at_ := s.cur.at_ } 0).skip.skip) rfl hlt2 ?_
  rw [expect_b]
  refine go_t (s := { s.skip.skip with begun := ({ kind := 1, at_ := s.cur.at_, where_ := s.skip.cur.at_, name := s.skip.cur.name }, s.loose.length) :: s.begun }) (by decide) (by decide) fun _ hlt3 => ?_
  have hF : ∀ u : PS, u.kind ≠ 41 → fnTail u = .error u.fault := fun u hu => by unfold fnTail; rw [if_neg hu]
  have key : ∀ (u : PS) (dd : Int) (v : Tok), u.toks = s.toks → u.en = s.en → u.begun = ({ kind := 1, at_ := s.cur.at_, where_ := s.skip.cur.at_, name := s.skip.cur.name }, s.loose.length) :: s.begun → u.todo = s.todo → u.at_ ≤ s.toks.length → LastOk u v →
      Go (15 + 12 * (u.toks.length - u.at_) + 1) u (104 :: 41 :: 105 :: 4003 :: 4008 :: 107 :: 4007 :: 1001 :: l) dd v (Out s.toks s.en ((PS.params (u.toks.length - u.at_) u).bind fnTail)) := by
    intro u dd v h1 h2 h3 h4 h5 h6
    have h5' : u.at_ ≤ u.toks.length := by rw [h1]; exact h5
    have := go_params (F := fnTail) (l := 41 :: 105 :: 4003 :: 4008 :: 107 :: 4007 :: 1001 :: l) (K := 15) hF (u.toks.length - u.at_) u dd v (by omega) h5' h6 (fun x dd v g1 g2 g3 g4 g5 g6 g7 g8 g9 g10 g11 => by
      have := go_fnTail (s := x) (l := l) (d := dd) (la := v) (by rw [g1]; exact g10) (g3.trans h3) rfl rfl (by rw [g4, h4]; exact hw)
      rw [g1, g2] at this
      exact this)
    rw [h1, h2] at this
    rw [h1]
    exact this
  by_cases h41 : s.skip.skip.skip.kind = 41
  · rw [if_pos (show (s.skip.skip.begin_ { kind := 1, at_ := s.cur.at_, where_ := s.skip.cur.at_, name := s.skip.cur.name } 0).skip.kind = 41 from h41)]
    refine go_rule (s := { s.skip.skip.skip with begun := ({ kind := 1, at_ := s.cur.at_, where_ := s.skip.cur.at_, name := s.skip.cur.name }, s.loose.length) :: s.begun }) (row := []) (by decide) (by decide) hlt3
      (by rw [show ({ s.skip.skip.skip with begun := ({ kind := 1, at_ := s.cur.at_, where_ := s.skip.cur.at_, name := s.skip.cur.name }, s.loose.length) :: s.begun } : PS).kind = 41 from h41]; rfl) ?_
    have e : ∀ u : PS, u.kind = 41 → PS.params (u.toks.length - u.at_) u = .ok u := fun u hu => by
      cases (u.toks.length - u.at_) with
      | zero => rfl
      | succ n => show (if u.kind = 41 then Except.ok u else _) = _; rw [if_pos hu]
    rw [e (s.skip.skip.begin_ { kind := 1, at_ := s.cur.at_, where_ := s.skip.cur.at_, name := s.skip.cur.name } 0).skip h41]
    exact (go_fnTail (s := { s.skip.skip.skip with begun := ({ kind := 1, at_ := s.cur.at_, where_ := s.skip.cur.at_, name := s.skip.cur.name }, s.loose.length) :: s.begun }) (l := l) hlt3 rfl rfl rfl hw).mono (by omega)
  · rw [if_neg (show ¬ (s.skip.skip.begin_ { kind := 1, at_ := s.cur.at_, where_ := s.skip.cur.at_, name := s.skip.cur.name } 0).skip.kind = 41 from h41)]
    by_cases h1 : s.skip.skip.skip.kind = 1
    · refine go_rule (s := { s.skip.skip.skip with begun := ({ kind := 1, at_ := s.cur.at_, where_ := s.skip.cur.at_, name := s.skip.cur.name }, s.loose.length) :: s.begun }) (row := [103, 104]) (by decide) (by decide) hlt3
        (by rw [show ({ s.skip.skip.skip with begun := ({ kind := 1, at_ := s.cur.at_, where_ := s.skip.cur.at_, name := s.skip.cur.name }, s.loose.length) :: s.begun } : PS).kind = 1 from h1]; rfl) ?_
      refine Go.mono (K := (15 + 12 * s.toks.length + 1) + 10) ?_ (by omega)
      refine go_param (s := { s.skip.skip.skip with begun := ({ kind := 1, at_ := s.cur.at_, where_ := s.skip.cur.at_, name := s.skip.cur.name }, s.loose.length) :: s.begun }) hlt3 fun u dd v g1 g2 g3 g4 g5 g6 g7 g8 g9 g10 g11 => ?_
      have g1' : u.toks.length = s.toks.length := congrArg List.length g1
      exact (key u dd v g1 g2 g3 g4 g10 g11).mono (by omega)
    · have e : ∀ (u : PS) (F : PS → M PS), u.kind ≠ 1 → u.param.bind F = .error u.fault := fun u F hu => by
        rw [show u.param = (u.take 1).bind (fun x => x.2.typed.bind (fun y => (Except.ok (y.2.leaf { kind := 2, at_ := x.1.at_, where_ := x.1.at_, name := x.1.name, decl := y.1 }) : M PS))) from rfl, take_b, if_neg hu]
        rfl
      rw [e _ _ (show (s.skip.skip.begin_ { kind := 1, at_ := s.cur.at_, where_ := s.skip.cur.at_, name := s.skip.cur.name } 0).skip.kind ≠ 1 from h1)]
      exact go_bad (s := { s.skip.skip.skip with begun := ({ kind := 1, at_ := s.cur.at_, where_ := s.skip.cur.at_, name := s.skip.cur.name }, s.loose.length) :: s.begun }) (row := [103, 104]) (by decide) (by decide)
        (by rw [show ({ s.skip.skip.skip with begun := ({ kind := 1, at_ := s.cur.at_, where_ := s.skip.cur.at_, name := s.skip.cur.name }, s.loose.length) :: s.begun } : PS).kind = s.skip.skip.skip.kind from rfl]; simp [rule, heads, h41, h1])

/-- Each rule. -/
theorem sim {x : Sym} (inv : Inv s) (hs : s.todo = x :: t) (hw : Wt s.todo s.begun l) (hla : LastOk s la) : Go (60 + 12 * s.toks.length) s l d la (Out s.toks s.en (({ s with todo := t } : PS).rule x)) := by
  have hpre := inv_pre inv hs
  have hl : ({ s with todo := t } : PS).at_ ≤ ({ s with todo := t } : PS).toks.length := inv.le
  have hla' : LastOk { s with todo := t } la := hla
  have htop : ∀ {n f B}, s.begun = (n, f) :: B → HasTop { s with todo := t } → f ≤ ({ s with todo := t } : PS).loose.length := by
    rintro n f B hb ⟨n', f', r', hb', hf⟩
    have h1 : s.begun = (n', f') :: r' := hb'
    rw [hb] at h1
    injection h1 with h1 _
    injection h1 with _ h1
    rw [h1]; exact hf
  have hn0 : Go (60 + 12 * s.toks.length) { s with todo := t } l d la (Out s.toks s.en (({ s with todo := t } : PS).rule x)) → Go (60 + 12 * s.toks.length) s l d la (Out s.toks s.en (({ s with todo := t } : PS).rule x)) := id
  refine hn0 ?_
  have h50 : ∀ {l' : List Int}, Go 50 { s with todo := t } l' d la (Out s.toks s.en (({ s with todo := t } : PS).rule x)) → Go (60 + 12 * s.toks.length) { s with todo := t } l' d la (Out s.toks s.en (({ s with todo := t } : PS).rule x)) := fun h => h.mono (by omega)
  rw [hs] at hw
  obtain ⟨B0, hB⟩ : ∃ B, B = s.begun := ⟨_, rfl⟩
  rw [← hB] at hw
  have hnest : isTop x = false → ({ s with todo := t } : PS).nest ≠ [] := fun h => inv.nest_of hs h
  cases hw with
  | done h1 h2 hw => exact h50 (sim_done hl hB.symm h1 h2 (htop hB.symm hpre) hw hla')
  | functionEnd h1 hw => exact h50 (sim_functionEnd hl hB.symm h1 (htop hB.symm hpre.1) hw hla' hpre.2)
  | statements h1 hw => exact h50 (sim_statements hl hB.symm h1 (htop hB.symm hpre) hw hla')
  | otherwise h1 hw => exact h50 (sim_otherwise hl hB.symm h1 (htop hB.symm hpre.2) hw hla' hpre.1)
  | plain hp hw =>
    rw [hB] at hw
    cases x with
    | program => exact h50 (sim_program hl hw hla')
    | function => exact sim_function (s := { s with todo := t }) hl hw
    | block => exact h50 (sim_block hl hw (hnest rfl))
    | statement => exact h50 (sim_statement hl hw hla' (hnest rfl))
    | semi => exact h50 (sim_tok 47 .semi (by decide) (by decide) rfl hl hw)
    | closed => exact h50 (sim_closed hl hw)
    | shut => exact h50 (sim_shut hl hw)
    | leave => exact h50 (sim_leave hl hw hla')
    | set => exact h50 (sim_tok 48 .set (by decide) (by decide) rfl hl hw)
    | arguments => exact h50 (sim_arguments hl hw hla')
    | moreArguments => exact h50 (sim_moreArguments hl hw hla')
    | condition => exact h50 ((sim_condition hl hw).mono (by decide))
    | expression => exact h50 (sim_expression hl hw hla')
    | both => exact h50 (sim_both hl hw hla')
    | either => exact h50 (sim_either hl hw hla' hpre)
    | compared => exact h50 (sim_compared hl hw hla')
    | andMore => exact h50 (sim_andMore hl hw hla' hpre)
    | sum => exact h50 (sim_sum hl hw hla')
    | compare => exact h50 (sim_compare hl hw hla' hpre)
    | nothing => exact h50 (sim_nothing hw hla')
    | product => exact h50 (sim_product hl hw hla')
    | sumMore => exact h50 (sim_sumMore hl hw hla' hpre)
    | signed => exact h50 (sim_signed hl hw hla' (hnest rfl))
    | productMore => exact h50 (sim_productMore hl hw hla' hpre)
    | plain => exact h50 (sim_plain hl hw (hnest rfl))
    | index => exact h50 (sim_index hl hw hla' (hnest rfl) hpre.2)
    | done => cases hp
    | functionEnd => cases hp
    | statements => cases hp
    | otherwise => cases hp

/-- Each step makes the state a little larger. -/
theorem heads_len (w k : Int) (b : Bool) : (heads w k b).1.length ≤ 13 := by
  unfold heads
  (repeat' split) <;> (dsimp only [List.length_cons, List.length_nil]; omega)
theorem statement_len (k : Int) : (statement k).1.length ≤ 13 := by
  unfold statement
  (repeat' split) <;> decide
theorem statements_len (w k : Int) : (statements w k).1.length ≤ 13 := by
  unfold statements
  have h := statement_len k
  (repeat' split) <;> first | exact h | (dsimp only [List.length_cons, List.length_nil]; omega)
theorem prim_len (k : Int) : (prim k).1.length ≤ 13 := by
  unfold prim
  (repeat' split) <;> decide
theorem chain_len (k : Int) (b : Bool) (v m : Int) : (chain k b v m).1.length ≤ 13 := by
  unfold chain
  (repeat' split) <;> (simp only [List.length_cons, List.length_nil]; omega)
theorem values_len (w k : Int) : (values w k).1.length ≤ 13 := by
  by_cases hn : w = 117 ∨ w = 118 ∨ w = 119 ∨ w = 120 ∨ w = 121 ∨ w = 122 ∨ w = 123 ∨ w = 124 ∨ w = 125 ∨ w = 126 ∨ w = 127 ∨ w = 128 ∨ w = 129 ∨ w = 130 ∨ w = 132
  · rcases hn with rfl | rfl | rfl | rfl | rfl | rfl | rfl | rfl | rfl | rfl | rfl | rfl | rfl | rfl | rfl
    · show (if k = 41 then (([], true) : List Int × Bool) else ([119, 118], true)).1.length ≤ 13
      split <;> (dsimp only [List.length_cons, List.length_nil]; omega)
    · show (if k = 41 then (([], true) : List Int × Bool) else ([46, 119, 118], k == 46)).1.length ≤ 13
      split <;> (dsimp only [List.length_cons, List.length_nil]; omega)
    · exact (by decide : 2 ≤ 13)
    · exact chain_len k (k == 67) 121 120
    · exact (by decide : 2 ≤ 13)
    · exact chain_len k (k == 66) 123 122
    · exact (by decide : 2 ≤ 13)
    · exact chain_len k (decide (49 ≤ k) && decide (k ≤ 54)) 125 0
    · exact (by decide : 2 ≤ 13)
    · exact chain_len k (((k == 55 || k == 56) || k == 61) || k == 62) 127 126
    · exact (by decide : 2 ≤ 13)
    · exact chain_len k ((((k == 57 || k == 58) || k == 59) || k == 60) || (decide (63 ≤ k) && decide (k ≤ 65))) 129 128
    · show (if k = 56 ∨ k = 68 ∨ k = 62 then (([2030, k, 4005, 4000, 129, 4001, 1030], true) : List Int × Bool) else ([131, 130], true)).1.length ≤ 13
      split <;> (dsimp only [List.length_cons, List.length_nil]; omega)
    · show (if k = 44 then (([3029, 44, 4000, 119, 45, 4001, 1029, 130], true) : List Int × Bool) else ([], true)).1.length ≤ 13
      split <;> (dsimp only [List.length_cons, List.length_nil]; omega)
    · show (if k = 40 then (([5025, 40, 4000, 117, 41, 4001, 1025], true) : List Int × Bool) else ([1024], true)).1.length ≤ 13
      split <;> (dsimp only [List.length_cons, List.length_nil]; omega)
  · have h := prim_len k
    have e : values w k = prim k := by
      unfold values
      rw [if_neg (by omega), if_neg (by omega), if_neg (by omega), if_neg (by omega), if_neg (by omega), if_neg (by omega), if_neg (by omega), if_neg (by omega), if_neg (by omega), if_neg (by omega), if_neg (by omega), if_neg (by omega), if_neg (by omega), if_neg (by omega), if_neg (by omega)]
    rw [e]; exact h
theorem rule_len (w k : Int) (b : Bool) : (rule w k b).1.length ≤ 13 := by
  unfold rule
  split
  · exact heads_len _ _ _
  · split
    · exact statements_len _ _
    · exact values_len _ _
theorem maxLast_len' : ∀ (l : List Int) (m : Int), (PS.maxLast l m).length = l.length
  | [], _ => rfl
  | [_], _ => rfl
  | _ :: y :: l, m => by simp only [PS.maxLast, List.length_cons, maxLast_len' (y :: l) m]
theorem top_sz {r r' : RS} {g : Nd → Nd} (h : r.top g = some r') : r'.sz = r.sz := by
  unfold RS.top at h
  cases hm : r.marks with
  | nil => rw [hm] at h; cases h
  | cons x y =>
    rw [hm] at h
    injection h with h
    subst h
    unfold RS.sz
    rw [hm]
    rfl
theorem node_sz {r r' : RS} (h : r.node = some r') : r'.sz ≤ r.sz + 2 := by
  unfold RS.node at h
  cases hm : r.marks with
  | nil => rw [hm] at h; cases h
  | cons x y =>
    obtain ⟨n, f⟩ := x
    rw [hm] at h
    dsimp only at h
    by_cases h1 : f ≤ r.wait.length
    · rw [if_pos h1] at h
      by_cases h2 : n.kind = 1
      · rw [if_pos h2] at h
        injection h with h; subst h; simp only [RS.sz, hm, List.length_append, List.length_cons, List.length_nil]; omega
      · rw [if_neg h2] at h
        injection h with h; subst h; simp only [RS.sz, hm, List.length_append, List.length_cons, List.length_nil, List.length_take]; omega
    · rw [if_neg h1] at h; cases h
theorem act_sz {r r' : RS} {w : Int} {v : Tok} (h : r.act w v = some r') : r'.sz ≤ r.sz + 2 := by
  unfold RS.act at h
  by_cases c1 : 6000 ≤ w
  · rw [if_pos c1] at h
    by_cases c : w < 10000
    · rw [if_pos c] at h; injection h with h; subst h; simp only [RS.sz, RS.begin_, List.length_cons]; omega
    · rw [if_neg c] at h; cases h
  rw [if_neg c1] at h
  by_cases c2 : 5000 ≤ w
  · rw [if_pos c2] at h; rw [top_sz h]; omega
  rw [if_neg c2] at h
  by_cases c3 : w = 4000
  · rw [if_pos c3] at h
    by_cases c : r.nest = []
    · rw [if_pos c] at h; cases h
    · rw [if_neg c] at h; injection h with h; subst h; simp only [RS.sz, maxLast_len']; omega
  rw [if_neg c3] at h
  by_cases c4 : w = 4001
  · rw [if_pos c4] at h; injection h with h; subst h; simp only [RS.sz]; omega
  rw [if_neg c4] at h
  by_cases c5 : w = 4002
  · rw [if_pos c5] at h; rw [top_sz h]; omega
  rw [if_neg c5] at h
  by_cases c6 : w = 4003
  · rw [if_pos c6] at h; rw [top_sz h]; omega
  rw [if_neg c6] at h
  by_cases c7 : w = 4004
  · rw [if_pos c7] at h
    by_cases c : 49 ≤ r.last.kind ∧ r.last.kind ≤ 67
    · rw [if_pos c] at h; rw [top_sz h]; omega
    · rw [if_neg c] at h; cases h
  rw [if_neg c7] at h
  by_cases c8 : w = 4005
  · rw [if_pos c8] at h; rw [top_sz h]; omega
  rw [if_neg c8] at h
  by_cases c9 : w = 4006
  · rw [if_pos c9] at h; rw [top_sz h]; omega
  rw [if_neg c9] at h
  by_cases c10 : w = 4007
  · rw [if_pos c10] at h; rw [top_sz h]; omega
  rw [if_neg c10] at h
  by_cases c11 : w = 4008
  · rw [if_pos c11] at h; injection h with h; subst h; simp only [RS.sz, List.length_append, List.length_singleton]; omega
  rw [if_neg c11] at h
  by_cases c12 : 3000 ≤ w
  · rw [if_pos c12] at h
    by_cases c : w < 4000
    case neg => rw [if_neg c] at h; cases h
    rw [if_pos c] at h
    cases hx : r.leftAt with
    | none => rw [hx] at h; cases h
    | some x => rw [hx] at h; injection h with h; subst h; simp only [RS.sz, RS.begin_, List.length_cons]; omega
  rw [if_neg c12] at h
  by_cases c13 : 2000 ≤ w
  · rw [if_pos c13] at h; injection h with h; subst h; simp only [RS.sz, RS.begin_, List.length_cons]; omega
  rw [if_neg c13] at h
  exact node_sz h
theorem step_sz {toks : List Tok} {en : Int} {r r' : RS} {i i' : Nat} {w : Int} {rest : List Int} (hr : r.want = w :: rest) (h : step toks en { r with want := rest } i w = .go r' i') : r'.sz ≤ r.sz + 13 := by
  have h0 : r.sz = ({ r with want := rest } : RS).sz + 1 := by unfold RS.sz; rw [hr]; simp only [List.length_cons]; omega
  generalize ({ r with want := rest } : RS) = q at h h0
  unfold step at h
  split at h
  · cases hq : q.act w (next toks en i) with
    | none => rw [hq] at h; cases h
    | some q' =>
      rw [hq] at h
      injection h with h _
      subst h
      have := act_sz hq
      omega
  split at h
  · split at h
    · injection h with h _
      subst h
      have := rule_len w (kind toks i) (i == toks.length)
      unfold RS.sz at *
      simp only [List.length_append]
      omega
    · cases h
  · split at h
    · injection h with h _
      subst h
      show q.sz ≤ _
      omega
    · cases h
theorem Steps.runs {toks : List Tok} {en : Int} {n : Nat} {r r' : RS} {i i' : Nat} (h : Steps toks en n r i r' i') {m : Nat} {x : Except (Int × Int) RS} (hs : r.sz + 13 * n ≤ 900000000) (hr : Runs toks en m r' i' x) : Runs toks en (m + n) r i x := by
  induction h with
  | refl => exact hr
  | cons h1 h2 h3 _ ih =>
    have h4 := step_sz h1 h2
    exact Runs.step h1 h2 (by omega) h3 (ih (by omega) hr)
theorem R_sz (s : PS) (l : List Int) (d : Int) (la : Tok) (h : l.length ≤ 4 * s.todo.length) : (R s l d la).sz ≤ 4 * s.sz := by
  unfold RS.sz PS.sz R
  dsimp only
  omega

/-- What the two machines come to. -/
def Same (o : M PS) (x : Except (Int × Int) RS) : Prop := match o, x with
  | .ok s, .ok r => r.nodes = s.nodes ∧ r.funcs = s.funcs ∧ r.nest = s.nest
  | .error f, .error g => f = g
  | _, _ => False
theorem runs_of {P : Nat} : ∀ (m : Nat) (s : PS) (l : List Int) (d : Int) (la : Tok), Inv s → mu s ≤ m → phi s ≤ P → 4 * P + 13 * (60 + 12 * s.toks.length) ≤ 900000000 → Wt s.todo s.begun l → LastOk s la → ∃ n x, Runs s.toks s.en n (R s l d la) s.at_ x ∧ Same (run m s) x
  | m, s, l, d, la, inv, hm, hp, hb, hw, hla => by
    cases ht : s.todo with
    | nil =>
      rw [ht] at hw
      have hl : l = [] := by cases hw; rfl
      subst hl
      refine ⟨0, .ok (R s [] d la), .done rfl, ?_⟩
      have : run m s = .ok s := by cases m with
        | zero => rfl
        | succ m => unfold run; rw [ht]
      rw [this]
      exact ⟨rfl, rfl, rfl⟩
    | cons x t =>
      cases m with
      | zero =>
        exfalso
        unfold mu at hm
        rw [ht] at hm
        have : 0 < wt x := by cases x <;> decide
        simp only [sumOf_cons] at hm
        omega
      | succ m =>
        obtain ⟨n, r, i, hn, hst, ho⟩ := sim (d := d) inv ht hw hla
        have hsz : (R s l d la).sz + 13 * n ≤ 900000000 := by
          have h1 := R_sz s l d la hw.len
          have h2 : s.sz ≤ phi s := by unfold phi; omega
          omega
        have hrun : run (m + 1) s = (({ s with todo := t } : PS).rule x).bind (run m) := by
          show (match s.todo with | [] => _ | x :: r => _) = _
          rw [ht]
        rw [hrun]
        cases hr : ({ s with todo := t } : PS).rule x with
        | error f =>
          rw [hr] at ho
          obtain ⟨w, q, h1, h2, h3⟩ := ho
          refine ⟨0 + n, .error f, hst.runs hsz ?_, rfl⟩
          rw [← h3]
          exact .bad h1 h2
        | ok s' =>
          rw [hr] at ho
          have nx := step_nx inv ht hr
          have h5 := nx.mu
          have h6 := nx.phi
          rcases ho with ⟨l', d', la', rfl, hw', hla', rfl⟩ | ⟨y, q, f, h1, h2, w, q', h3, h4, h5'⟩
          · have ih := runs_of (P := P) m s' l' d' la' nx.inv (by omega) (by omega) (by rw [nx.toks]; exact hb) hw' hla'
            rw [nx.toks, nx.en] at ih
            obtain ⟨k, z, hk, hz⟩ := ih
            exact ⟨k + n, z, hst.runs hsz hk, hz⟩
          · refine ⟨0 + n, .error f, hst.runs hsz ?_, ?_⟩
            · rw [← h5']
              exact .bad h3 h4
            · show Same (run m s') (.error f)
              have : run m s' = .error f := by
                cases m with
                | zero =>
                  exfalso
                  have h7 : mu s' ≤ 0 := by omega
                  unfold mu at h7
                  rw [h1] at h7
                  have : 0 < wt y := by cases y <;> decide
                  simp only [sumOf_cons] at h7
                  omega
                | succ m =>
                  show (match s'.todo with | [] => _ | x :: r => _) = _
                  rw [h1]
                  show ((({ s' with todo := q } : PS).rule y).bind (run m)) = _
                  rw [h2]
                  rfl
              rw [this]
              rfl
/-- The document's answer is the parser's. -/
theorem same (toks : List Tok) (en : Int) (h : toks.length ≤ 1000000) : ∃ n x, Runs toks en n { want := [100] } 0 x ∧ Same (Pm.parse toks en) x := by
  refine runs_of (P := phi (Pm.start toks en)) (mu (Pm.start toks en)) (Pm.start toks en) [100] 0 ⟨0, 0, 0, ⟨#[]⟩⟩ (start_inv toks en) (Nat.le_refl _) (Nat.le_refl _) ?_ (Wt.plain (x := .program) rfl .nil) (fun h => absurd (show 1 ≤ 0 from h) (by decide))
  have h1 : phi (Pm.start toks en) = 1 + 1 + 12 * toks.length := by
    unfold phi rem PS.sz Pm.start
    simp [sumOf, pot, pen, pen0]
  rw [h1]
  show _ + 13 * (60 + 12 * toks.length) ≤ _
  omega
end Rf
end Go.Proofs.Ythodjlhjfaccpaa
