/- The document's own machine and the parser's machine go side by side: statements and values. No program here. -/
import Derived.Test.YthodjlhjfaccpaaSim2
set_option linter.unusedVariables false
namespace Go.Proofs.Ythodjlhjfaccpaa
open Go Pm
namespace Rf
variable {s : PS} {l : List Int} {d : Int} {la : Tok} {t : List Sym}

/-- A node of a kind is to be ended. -/
theorem wdone {n : Nd} {f : Nat} {B : List (Nd × Nat)} {r : List Sym} {w : Int} (m : Int) (hm : n.kind = m) (hw' : w = 1000 + m) (h1 : 2 ≤ m) (h2 : m < 1000) (hw : Wt r B l) : Wt (.done :: r) ((n, f) :: B) (w :: l) := by
  subst hm hw'
  exact Wt.done h1 h2 hw
theorem as_if {k : Int} (h : s.kind = k) (A : M PS) : A = if s.kind = k then A else .error s.fault := (if_pos h).symm

theorem go_ty {K : Nat} {X1 X2 X3 : M PS} (hl : s.at_ ≤ s.toks.length) (h1 : s.kind = 23 → s.at_ < s.toks.length → Go K s.skip l 1 s.cur (Out s.toks s.en X1)) (h2 : s.kind = 24 → s.at_ < s.toks.length → Go K s.skip l 2 s.cur (Out s.toks s.en X2))
    (h3 : s.at_ + 3 ≤ s.toks.length → Go K s.skip.skip.skip l 3 s.skip.skip.cur (Out s.toks s.en X3)) :
    Go (K + 4) s (106 :: l) d la (Out s.toks s.en (if s.kind = 23 then X1 else if s.kind = 24 then X2 else if s.kind = 44 then if s.skip.kind = 45 then if s.skip.skip.kind = 23 then X3 else .error s.skip.skip.fault else .error s.skip.fault else .error s.fault)) := by
  by_cases k1 : s.kind = 23
  · rw [if_pos k1, as_if k1 X1]
    refine go_rule (row := [23]) (by decide) (by decide) hl (by rw [k1]; rfl) ?_
    refine go_t (by decide) (by decide) fun a b => ?_
    have h := h1 a b
    rw [k1]
    exact h.mono (by omega)
  by_cases k2 : s.kind = 24
  · rw [if_neg k1, if_pos k2, as_if k2 X2]
    refine go_rule (row := [24]) (by decide) (by decide) hl (by rw [k2]; rfl) ?_
    refine go_t (by decide) (by decide) fun a b => ?_
    have h := h2 a b
    rw [k2]
    exact h.mono (by omega)
  rw [if_neg k1, if_neg k2]
  by_cases k3 : s.kind = 44
  · refine go_rule (row := [44, 45, 23]) (by decide) (by decide) hl (by rw [k3]; rfl) ?_
    refine go_t (by decide) (by decide) fun _ b => ?_
    refine go_t (s := s.skip) (by decide) (by decide) fun _ b2 => ?_
    refine go_t (s := s.skip.skip) (by decide) (by decide) fun _ b3 => ?_
    rw [k3]
    exact h3 b3
  · rw [if_neg k3]
    exact go_bad (row := [s.kind]) (by decide) (by decide) (by simp [rule, heads, k1, k2, k3])
theorem typed_b {α : Type} (f : Int × PS → M α) : (s.typed.bind f) = if s.kind = 23 then f (1, s.skip) else if s.kind = 24 then f (2, s.skip) else if s.kind = 44 then if s.skip.kind = 45 then if s.skip.skip.kind = 23 then f (3, s.skip.skip.skip) else .error s.skip.skip.fault else .error s.skip.fault else .error s.fault := by
  unfold PS.typed
  split
  · rfl
  · split
    · rfl
    · show ((s.expect 44).bind fun s1 => (s1.expect 45).bind fun s2 => (s2.expect 23).bind fun s3 => (Except.ok (3, s3) : M (Int × PS))).bind f = _
      rw [expect_b, expect_b, expect_b]
      repeat' split
      all_goals rfl

theorem wt_ess (n : Nd) (f m : Nat) (hn : n.kind = 4 ∨ n.kind = 5 ∨ n.kind = 12) (h : Wt s.todo s.begun l) : Wt (.expression :: .semi :: .done :: s.todo) ((n, f) :: s.begun) (119 :: 47 :: (1000 + n.kind) :: l) :=
  Wt.plain (x := .expression) rfl (Wt.plain (x := .semi) rfl (Wt.done (by omega) (by omega) h))

theorem sim_variable (hk : s.kind = 11) (hl : s.at_ ≤ s.toks.length) (hw : Wt s.todo s.begun l) : Go 45 s (2004 :: 11 :: 1 :: 4002 :: 106 :: 4003 :: 110 :: 47 :: 1004 :: l) d la (Out s.toks s.en s.variable_) := by
  rw [show s.variable_ = (s.take 11).bind (fun x => (x.2.take 1).bind (fun y => y.2.typed.bind (fun z =>
    if (z.2.begin_ { kind := 4, at_ := x.1.at_, where_ := y.1.at_, name := y.1.name, decl := z.1 } 0).kind = 48 then Except.ok ((z.2.begin_ { kind := 4, at_ := x.1.at_, where_ := y.1.at_, name := y.1.name, decl := z.1 } 0).skip.do_ [.expression, .semi, .done])
    else Except.ok ((z.2.begin_ { kind := 4, at_ := x.1.at_, where_ := y.1.at_, name := y.1.name, decl := z.1 } 0).do_ [.semi, .done])))) from rfl, take_b]
  refine go_mt (m := 4) (k := 11) (by decide) (by decide) (by decide) hl (by decide) (by decide) fun _ hlt => ?_
  rw [take_b]
  refine go_t (s := (s.begin_ { kind := 4, at_ := s.cur.at_ } 0).skip) (by decide) (by decide) fun _ hlt2 => ?_
  refine go_name (s := (s.begin_ { kind := 4, at_ := s.cur.at_ } 0).skip.skip) rfl hlt2 ?_
  rw [typed_b]
  have tail : ∀ (u : PS) (dd : Int) (v : Tok), u.toks = s.toks → u.en = s.en → u.todo = s.todo → u.begun = ({ kind := 4, at_ := s.cur.at_, where_ := s.skip.cur.at_, name := s.skip.cur.name }, s.loose.length) :: s.begun → u.at_ ≤ s.toks.length → u.loose = s.loose → (1 ≤ u.at_ → v = u.toks.getD (u.at_ - 1) ⟨0, 0, 0, ⟨#[]⟩⟩) →
      Go 34 u (4003 :: 110 :: 47 :: 1004 :: l) dd v (Out u.toks u.en (if ({ u with begun := s.begun }.begin_ { kind := 4, at_ := s.cur.at_, where_ := s.skip.cur.at_, name := s.skip.cur.name, decl := dd } 0).kind = 48 then Except.ok (({ u with begun := s.begun }.begin_ { kind := 4, at_ := s.cur.at_, where_ := s.skip.cur.at_, name := s.skip.cur.name, decl := dd } 0).skip.do_ [.expression, .semi, .done])
        else Except.ok (({ u with begun := s.begun }.begin_ { kind := 4, at_ := s.cur.at_, where_ := s.skip.cur.at_, name := s.skip.cur.name, decl := dd } 0).do_ [.semi, .done]))) := by
    intro u dd v h1 h2 h3 h4 h5 h6 h7
    have h5' : u.at_ ≤ u.toks.length := by rw [h1]; exact h5
    refine go_decl h4 h5' ?_
    rw [← h6]
    have hW : ∀ (n : Nd) (f : Nat) (lx : List Int) (ts : List Sym), n.kind = 4 → Wt (ts ++ .done :: s.todo) ((n, f) :: s.begun) (lx ++ 1004 :: l) → Wt (ts ++ .done :: u.todo) ((n, f) :: s.begun) (lx ++ 1004 :: l) := fun n f lx ts _ h => by rw [h3]; exact h
    by_cases hk : u.kind = 48
    · have hc : ∀ n : Nd, ({ u with begun := s.begun }.begin_ n 0).kind = 48 := fun _ => hk
      rw [if_pos (hc _), as_if (s := u) hk (Except.ok _)]
      refine go_rule (row := [48, 119]) (by decide) (by decide) h5' (by rw [show ({ u with begun := ({ kind := 4, at_ := s.cur.at_, where_ := s.skip.cur.at_, name := s.skip.cur.name, decl := dd }, u.loose.length) :: s.begun } : PS).kind = 48 from hk]; rfl) ?_
      refine go_t (s := { u with begun := ({ kind := 4, at_ := s.cur.at_, where_ := s.skip.cur.at_, name := s.skip.cur.name, decl := dd }, u.loose.length) :: s.begun }) (by decide) (by decide) fun _ hlt => ?_
      refine go_fin rfl (hW _ _ [119, 47] [.expression, .semi] rfl (Wt.plain (x := .expression) rfl (Wt.plain (x := .semi) rfl (wdone 4 rfl (by decide) (by decide) (by decide) hw)))) LastOk.skip rfl
    · have hc : ∀ n : Nd, ¬ ({ u with begun := s.begun }.begin_ n 0).kind = 48 := fun _ => hk
      rw [if_neg (hc _)]
      by_cases hk2 : u.kind = 47
      · refine go_rule (row := []) (by decide) (by decide) h5' (by rw [show ({ u with begun := ({ kind := 4, at_ := s.cur.at_, where_ := s.skip.cur.at_, name := s.skip.cur.name, decl := dd }, u.loose.length) :: s.begun } : PS).kind = 47 from hk2]; rfl) ?_
        refine go_fin rfl (hW _ _ [47] [.semi] rfl (Wt.plain (x := .semi) rfl (wdone 4 rfl (by decide) (by decide) (by decide) hw))) h7 rfl
      · refine go_early (s := { u with begun := ({ kind := 4, at_ := s.cur.at_, where_ := s.skip.cur.at_, name := s.skip.cur.name, decl := dd }, u.loose.length) :: s.begun }) (row := [48, 119]) (x := .semi) (t := .done :: u.todo) (by decide) (by decide) ?_ rfl ?_
        · have e : ({ u with begun := ({ kind := 4, at_ := s.cur.at_, where_ := s.skip.cur.at_, name := s.skip.cur.name, decl := dd }, u.loose.length) :: s.begun } : PS).kind = u.kind := rfl
          rw [e]; simp [rule, statements, hk, hk2]
        · have hsm : ∀ v : PS, v.kind ≠ 47 → v.rule .semi = .error v.fault := fun v hv => by
            rw [show v.rule .semi = v.expect 47 from rfl, expect_e, if_neg hv]
          exact hsm _ hk2
  refine go_ty (s := { (s.begin_ { kind := 4, at_ := s.cur.at_ } 0).skip.skip with begun := ({ kind := 4, at_ := s.cur.at_, where_ := s.skip.cur.at_, name := s.skip.cur.name }, s.loose.length) :: s.begun }) hlt2 (fun _ h => ?_) (fun _ h => ?_) (fun h => ?_)
  · exact (tail { s.skip.skip.skip with begun := ({ kind := 4, at_ := s.cur.at_, where_ := s.skip.cur.at_, name := s.skip.cur.name }, s.loose.length) :: s.begun } 1 _ rfl rfl rfl rfl h rfl fun _ => rfl).mono (by omega)
  · exact (tail { s.skip.skip.skip with begun := ({ kind := 4, at_ := s.cur.at_, where_ := s.skip.cur.at_, name := s.skip.cur.name }, s.loose.length) :: s.begun } 2 _ rfl rfl rfl rfl h rfl fun _ => rfl).mono (by omega)
  · exact (tail { s.skip.skip.skip.skip.skip with begun := ({ kind := 4, at_ := s.cur.at_, where_ := s.skip.cur.at_, name := s.skip.cur.name }, s.loose.length) :: s.begun } 3 _ rfl rfl rfl rfl h rfl fun _ => rfl).mono (by omega)

theorem sim_named (hk : s.kind = 1) (hl : s.at_ ≤ s.toks.length) (hw : Wt s.todo s.begun l) (hn : s.nest ≠ []) : Go 45 s (2007 :: 1 :: 111 :: l) d la (Out s.toks s.en s.named) := by
  rw [show s.named = (s.take 1).bind (fun x => if x.2.kind = 48 then Except.ok ((x.2.skip.begin_ { kind := 5, at_ := x.1.at_, where_ := x.1.at_, name := x.1.name } 0).do_ [.expression, .semi, .done])
    else if x.2.kind = 44 then (x.2.opened 44).bind (fun y => Except.ok ((y.begin_ { kind := 6, at_ := x.1.at_, where_ := x.1.at_, name := x.1.name } 0).do_ [.expression, .shut, .set, .expression, .semi, .done]))
    else (x.2.opened 40).bind (fun y => Except.ok (((y.begin_ { kind := 7, at_ := x.1.at_ } 0).begin_ { kind := 25, at_ := x.1.at_, where_ := x.1.at_, name := x.1.name } 0).do_ [.arguments, .done, .semi, .done]))) from rfl, take_b]
  refine go_mt (m := 7) (k := 1) (by decide) (by decide) (by decide) hl (by decide) (by decide) fun _ hlt => ?_
  have e : ∀ (n : Nd) (B : List (Nd × Nat)), ({ (s.begin_ n 0).skip with begun := B } : PS).kind = s.skip.kind := fun _ _ => rfl
  by_cases k1 : s.skip.kind = 48
  · rw [if_pos k1, as_if k1 (Except.ok _)]
    refine go_rule (s := (s.begin_ { kind := 7, at_ := s.cur.at_ } 0).skip) (row := [4002, 5005, 48, 119, 47, 1005]) (by decide) (by decide) hlt (by rw [show (s.begin_ { kind := 7, at_ := s.cur.at_ } 0).skip.kind = 48 from k1]; rfl) ?_
    refine go_name (s := (s.begin_ { kind := 7, at_ := s.cur.at_ } 0).skip) rfl hlt ?_
    refine go_as (m := 5) (by decide) (by decide) (by decide) rfl hlt ?_
    refine go_t (s := { s.skip with begun := ({ kind := 5, at_ := s.cur.at_, where_ := s.cur.at_, name := s.cur.name }, s.loose.length) :: s.begun }) (by decide) (by decide) fun _ hlt2 => ?_
    exact go_fin rfl (Wt.plain (x := .expression) rfl (Wt.plain (x := .semi) rfl (wdone 5 rfl (by decide) (by decide) (by decide) hw))) LastOk.skip rfl
  rw [if_neg k1]
  by_cases k2 : s.skip.kind = 44
  · rw [if_pos k2, opened_b]
    refine go_rule (s := (s.begin_ { kind := 7, at_ := s.cur.at_ } 0).skip) (row := [4002, 5006, 44, 4000, 119, 45, 4001, 48, 119, 47, 1006]) (by decide) (by decide) hlt (by rw [show (s.begin_ { kind := 7, at_ := s.cur.at_ } 0).skip.kind = 44 from k2]; rfl) ?_
    refine go_name (s := (s.begin_ { kind := 7, at_ := s.cur.at_ } 0).skip) rfl hlt ?_
    refine go_as (m := 6) (by decide) (by decide) (by decide) rfl hlt ?_
    refine go_t (s := { s.skip with begun := ({ kind := 6, at_ := s.cur.at_, where_ := s.cur.at_, name := s.cur.name }, s.loose.length) :: s.begun }) (by decide) (by decide) fun _ hlt2 => ?_
    refine go_enter hn hlt2 ?_
    exact go_fin rfl (Wt.plain (x := .expression) rfl (Wt.plain (x := .shut) rfl (Wt.plain (x := .set) rfl (Wt.plain (x := .expression) rfl (Wt.plain (x := .semi) rfl (wdone 6 rfl (by decide) (by decide) (by decide) hw)))))) LastOk.skip rfl
  rw [if_neg k2, opened_b]
  by_cases k3 : s.skip.kind = 40
  · refine go_rule (s := (s.begin_ { kind := 7, at_ := s.cur.at_ } 0).skip) (row := [6025, 4002, 40, 4000, 117, 41, 4001, 1025, 47, 1007]) (by decide) (by decide) hlt (by rw [show (s.begin_ { kind := 7, at_ := s.cur.at_ } 0).skip.kind = 40 from k3]; rfl) ?_
    refine go_last (m := 25) (by decide) (by decide) (by decide) hlt ?_
    refine go_name (s := ((s.begin_ { kind := 7, at_ := s.cur.at_ } 0).skip.begin_ { kind := 25, at_ := s.cur.at_ } 0)) rfl hlt ?_
    refine go_t (s := { s.skip with begun := ({ kind := 25, at_ := s.cur.at_, where_ := s.cur.at_, name := s.cur.name }, s.loose.length) :: ({ kind := 7, at_ := s.cur.at_ }, s.loose.length) :: s.begun }) (by decide) (by decide) fun _ hlt2 => ?_
    refine go_enter hn hlt2 ?_
    exact go_fin rfl (Wt.plain (x := .arguments) rfl (wdone 25 rfl (by decide) (by decide) (by decide) (Wt.plain (x := .semi) rfl (wdone 7 rfl (by decide) (by decide) (by decide) hw)))) LastOk.skip rfl
  · rw [if_neg k3]
    exact go_bad (s := (s.begin_ { kind := 7, at_ := s.cur.at_ } 0).skip) (row := []) (by decide) (by decide) (by rw [show (s.begin_ { kind := 7, at_ := s.cur.at_ } 0).skip.kind = s.skip.kind from rfl]; simp [rule, statements, k1, k2, k3])

theorem sim_told {w k m z : Int} (hm : w - 2000 = m) (h1 : 2000 ≤ w) (h2 : w < 3000) (hk0 : k < 100 ∧ k ≠ 0) (hz : z = 1000 + m) (hm2 : 2 ≤ m ∧ m < 1000) (hk : s.kind = k) (hl : s.at_ ≤ s.toks.length) (hw : Wt s.todo s.begun l) (hn : s.nest ≠ []) :
    Go 45 s (w :: k :: 40 :: 4000 :: 119 :: 41 :: 4001 :: 47 :: z :: l) d la (Out s.toks s.en (s.told m)) := by
  rw [show s.told m = ((s.skip.begin_ { kind := m, at_ := s.cur.at_ } 0).opened 40).bind (fun x => Except.ok (x.do_ [.expression, .closed, .semi, .done])) from rfl, opened_b, as_if hk (ite _ _ _)]
  refine go_mt (m := m) hm h1 h2 hl hk0.1 hk0.2 fun _ hlt => ?_
  refine go_t (s := (s.begin_ { kind := m, at_ := s.cur.at_ } 0).skip) (by decide) (by decide) fun _ hlt2 => ?_
  refine go_enter hn hlt2 ?_
  exact go_fin rfl (Wt.plain (x := .expression) rfl (Wt.plain (x := .closed) rfl (Wt.plain (x := .semi) rfl (wdone m rfl hz hm2.1 hm2.2 hw)))) LastOk.skip rfl
theorem sim_word {w k m z : Int} (hm : w - 2000 = m) (h1 : 2000 ≤ w) (h2 : w < 3000) (hk0 : k < 100 ∧ k ≠ 0) (hz : z = 1000 + m) (hm2 : 2 ≤ m ∧ m < 1000) (hk : s.kind = k) (hl : s.at_ ≤ s.toks.length) (hw : Wt s.todo s.begun l) :
    Go 45 s (w :: k :: 47 :: z :: l) d la (Out s.toks s.en (.ok (s.word m))) := by
  rw [as_if hk (Except.ok _)]
  refine go_mt (m := m) hm h1 h2 hl hk0.1 hk0.2 fun _ hlt => ?_
  exact go_fin rfl (Wt.plain (x := .semi) rfl (wdone m rfl hz hm2.1 hm2.2 hw)) LastOk.skip rfl
theorem sim_condition (hl : s.at_ ≤ s.toks.length) (hw : Wt s.todo s.begun l) : Go 45 s (112 :: l) d la (Out s.toks s.en s.condition) := by
  rw [show s.condition = (s.take 12).bind (fun x => Except.ok ((x.2.begin_ { kind := 10, at_ := x.1.at_ } 0).do_ [.expression, .block, .otherwise])) from rfl, take_b]
  by_cases hk : s.kind = 12
  · refine go_rule (row := [2010, 12, 119, 107, 113, 1010]) (by decide) (by decide) hl (by rw [hk]; rfl) ?_
    refine go_mt (m := 10) (by decide) (by decide) (by decide) hl (by decide) (by decide) fun _ hlt => ?_
    exact go_fin rfl (Wt.plain (x := .expression) rfl (Wt.plain (x := .block) rfl (Wt.otherwise rfl hw))) LastOk.skip rfl
  · rw [if_neg hk]
    exact go_bad (row := [2010, 12, 119, 107, 113, 1010]) (by decide) (by decide) (by simp [rule, statements, hk])
theorem sim_loop (hl : s.at_ ≤ s.toks.length) (hw : Wt s.todo s.begun l) : Go 45 s (2011 :: 14 :: 115 :: 107 :: 1011 :: l) d la (Out s.toks s.en s.loop) := by
  rw [show s.loop = (s.take 14).bind (fun x => if (x.2.begin_ { kind := 11, at_ := x.1.at_ } 0).kind = 42 then Except.ok ((x.2.begin_ { kind := 11, at_ := x.1.at_ } 0).do_ [.block, .done]) else Except.ok ((x.2.begin_ { kind := 11, at_ := x.1.at_ } 0).do_ [.expression, .block, .done])) from rfl, take_b]
  refine go_mt (m := 11) (by decide) (by decide) (by decide) hl (by decide) (by decide) fun _ hlt => ?_
  by_cases hk : s.skip.kind = 42
  · rw [if_pos (show (s.skip.begin_ { kind := 11, at_ := s.cur.at_ } 0).kind = 42 from hk)]
    refine go_rule (s := (s.begin_ { kind := 11, at_ := s.cur.at_ } 0).skip) (row := []) (by decide) (by decide) hlt (by rw [show (s.begin_ { kind := 11, at_ := s.cur.at_ } 0).skip.kind = 42 from hk]; rfl) ?_
    exact go_fin rfl (Wt.plain (x := .block) rfl (wdone 11 rfl (by decide) (by decide) (by decide) hw)) LastOk.skip rfl
  · rw [if_neg (show ¬ (s.skip.begin_ { kind := 11, at_ := s.cur.at_ } 0).kind = 42 from hk)]
    refine go_rule (s := (s.begin_ { kind := 11, at_ := s.cur.at_ } 0).skip) (row := [119]) (by decide) (by decide) hlt (by rw [show (s.begin_ { kind := 11, at_ := s.cur.at_ } 0).skip.kind = s.skip.kind from rfl]; simp [rule, statements, hk]) ?_
    exact go_fin rfl (Wt.plain (x := .expression) rfl (Wt.plain (x := .block) rfl (wdone 11 rfl (by decide) (by decide) (by decide) hw))) LastOk.skip rfl
theorem sim_returned (hl : s.at_ ≤ s.toks.length) (hw : Wt s.todo s.begun l) : Go 45 s (2012 :: 15 :: 116 :: 47 :: 1012 :: l) d la (Out s.toks s.en s.returned) := by
  rw [show s.returned = (s.take 15).bind (fun x => if (x.2.begin_ { kind := 12, at_ := x.1.at_ } 0).kind = 47 then Except.ok ((x.2.begin_ { kind := 12, at_ := x.1.at_ } 0).do_ [.semi, .done]) else Except.ok ((x.2.begin_ { kind := 12, at_ := x.1.at_ } 0).do_ [.expression, .semi, .done])) from rfl, take_b]
  refine go_mt (m := 12) (by decide) (by decide) (by decide) hl (by decide) (by decide) fun _ hlt => ?_
  by_cases hk : s.skip.kind = 47
  · rw [if_pos (show (s.skip.begin_ { kind := 12, at_ := s.cur.at_ } 0).kind = 47 from hk)]
    refine go_rule (s := (s.begin_ { kind := 12, at_ := s.cur.at_ } 0).skip) (row := []) (by decide) (by decide) hlt (by rw [show (s.begin_ { kind := 12, at_ := s.cur.at_ } 0).skip.kind = 47 from hk]; rfl) ?_
    exact go_fin rfl (Wt.plain (x := .semi) rfl (wdone 12 rfl (by decide) (by decide) (by decide) hw)) LastOk.skip rfl
  · rw [if_neg (show ¬ (s.skip.begin_ { kind := 12, at_ := s.cur.at_ } 0).kind = 47 from hk)]
    refine go_rule (s := (s.begin_ { kind := 12, at_ := s.cur.at_ } 0).skip) (row := [119]) (by decide) (by decide) hlt (by rw [show (s.begin_ { kind := 12, at_ := s.cur.at_ } 0).skip.kind = s.skip.kind from rfl]; simp [rule, statements, hk]) ?_
    exact go_fin rfl (Wt.plain (x := .expression) rfl (Wt.plain (x := .semi) rfl (wdone 12 rfl (by decide) (by decide) (by decide) hw))) LastOk.skip rfl

theorem sim_statement (hl : s.at_ ≤ s.toks.length) (hw : Wt s.todo s.begun l) (hla : LastOk s la) (hn : s.nest ≠ []) : Go 50 s (109 :: l) d la (Out s.toks s.en (s.rule .statement)) := by
  rw [show s.rule .statement = s.statement from rfl]
  have hr : ∀ k row b, s.kind = k → statement k = (row, b) → rule 109 s.kind (s.at_ == s.toks.length) = (row, b) := fun k row b h1 h2 => by rw [h1, ← h2]; rfl
  unfold PS.statement
  by_cases h11 : s.kind = 11
  · rw [if_pos h11]; exact (go_rule (by decide) (by decide) hl (hr _ _ _ h11 rfl) (sim_variable h11 hl hw)).mono (by decide)
  rw [if_neg h11]
  by_cases h1 : s.kind = 1
  · rw [if_pos h1]; exact (go_rule (by decide) (by decide) hl (hr _ _ _ h1 rfl) (sim_named h1 hl hw hn)).mono (by decide)
  rw [if_neg h1]
  by_cases h18 : s.kind = 18
  · rw [if_pos h18]; exact (go_rule (by decide) (by decide) hl (hr _ _ _ h18 rfl) (sim_told (by decide) (by decide) (by decide) (by decide) (by decide) (by decide) h18 hl hw hn)).mono (by decide)
  rw [if_neg h18]
  by_cases h19 : s.kind = 19
  · rw [if_pos h19]; exact (go_rule (by decide) (by decide) hl (hr _ _ _ h19 rfl) (sim_told (by decide) (by decide) (by decide) (by decide) (by decide) (by decide) h19 hl hw hn)).mono (by decide)
  rw [if_neg h19]
  by_cases h12 : s.kind = 12
  · rw [if_pos h12]; exact (go_rule (by decide) (by decide) hl (hr _ _ _ h12 rfl) (sim_condition hl hw)).mono (by decide)
  rw [if_neg h12]
  by_cases h14 : s.kind = 14
  · rw [if_pos h14]; exact (go_rule (by decide) (by decide) hl (hr _ _ _ h14 rfl) (sim_loop hl hw)).mono (by decide)
  rw [if_neg h14]
  by_cases h15 : s.kind = 15
  · rw [if_pos h15]; exact (go_rule (by decide) (by decide) hl (hr _ _ _ h15 rfl) (sim_returned hl hw)).mono (by decide)
  rw [if_neg h15]
  by_cases h16 : s.kind = 16
  · rw [if_pos h16]; exact (go_rule (by decide) (by decide) hl (hr _ _ _ h16 rfl) (sim_word (by decide) (by decide) (by decide) (by decide) (by decide) (by decide) h16 hl hw)).mono (by decide)
  rw [if_neg h16]
  by_cases h17 : s.kind = 17
  · rw [if_pos h17]; exact (go_rule (by decide) (by decide) hl (hr _ _ _ h17 rfl) (sim_word (by decide) (by decide) (by decide) (by decide) (by decide) (by decide) h17 hl hw)).mono (by decide)
  rw [if_neg h17]
  by_cases h42 : s.kind = 42
  · rw [if_pos h42]
    refine go_rule (by decide) (by decide) hl (hr _ _ _ h42 rfl) ?_
    exact go_fin rfl (Wt.plain (x := .block) rfl hw) hla rfl
  rw [if_neg h42]
  exact go_bad (row := []) (by decide) (by decide) (hr _ _ _ rfl (by simp [statement, h11, h1, h18, h19, h12, h14, h15, h16, h17, h42]))
end Rf
end Go.Proofs.Ythodjlhjfaccpaa
