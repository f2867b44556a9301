/- The document's machine reads tokens one by one: a run that ends in a fault has looked no further than the faulty token, so it is the same over all tokens that begin so. No program here.
ParseFirst's plain law: of tokens whose places tell which they are, the place of a fault tells how far they begin a program. No program here.
ParseFirst's walk: quernlaw4's statement on the place of a fault answers true. -/
import Derived.Test.YthodjlhjfaccpaaRf
import Derived.Test.YthodjlhjfaccpaaLt
import Derived.Test.YthodjlhjfaccpaaTr
import Derived.Test.YthodjlhjfaccpaaHt
set_option linter.unusedVariables false
namespace Go.Proofs.Ythodjlhjfaccpaa
open Pm
namespace Rf
variable {toks toks' : List Tok} {en : Int}

theorem runs_det {n : Nat} {s : RS} {i : Nat} {x : Except (Int × Int) RS} (h : Runs toks en n s i x) : ∀ {n' : Nat} {x' : Except (Int × Int) RS}, Runs toks en n' s i x' → x = x' := by
  induction h with
  | done hw =>
    intro n' x' h'
    cases h' with
    | done _ => rfl
    | bad hw' _ => rw [hw] at hw'; cases hw'
    | step hw' _ _ _ _ => rw [hw] at hw'; cases hw'
  | bad hw hb =>
    intro n' x' h'
    cases h' with
    | done hw' => rw [hw'] at hw; cases hw
    | bad _ _ => rfl
    | step hw' hs' _ _ _ =>
      rw [hw] at hw'
      injection hw' with e1 e2
      subst e1 e2
      rw [hb] at hs'
      cases hs'
  | step hw hs _ _ _ ih =>
    intro n' x' h'
    cases h' with
    | done hw' => rw [hw'] at hw; cases hw
    | bad hw' hb =>
      rw [hw] at hw'
      injection hw' with e1 e2
      subst e1 e2
      rw [hb] at hs
      cases hs
    | step hw' hs' _ _ hr =>
      rw [hw] at hw'
      injection hw' with e1 e2
      subst e1 e2
      rw [hs] at hs'
      injection hs' with e1 e2
      subst e1 e2
      exact ih hr

theorem step_loc {s : RS} {i : Nat} {w : Int} (h : toks'[i]? = toks[i]?) (hi : i < toks.length) : step toks' en s i w = step toks en s i w := by
  have hi' : i < toks'.length := by
    rw [List.getElem?_eq_getElem hi] at h
    exact (List.getElem?_eq_some_iff.1 h).1
  have e1 : (i == toks.length) = false := beq_eq_false_iff_ne.2 (by omega)
  have e2 : (i == toks'.length) = false := beq_eq_false_iff_ne.2 (by omega)
  have e3 : next toks' en i = next toks en i := by
    unfold next
    rw [List.getD_eq_getElem?_getD, List.getD_eq_getElem?_getD, h]
  have e4 : kind toks' i = kind toks i := by unfold kind; rw [h]
  unfold step
  rw [e1, e2, e3, e4]

theorem step_up {s s' : RS} {i i' : Nat} {w : Int} (h : step toks en s i w = .go s' i') : i ≤ i' := by
  unfold step at h
  split at h
  · split at h
    · cases h
    · injection h with _ h; omega
  · split at h
    · split at h
      · injection h with _ h; omega
      · cases h
    · split at h
      · injection h with _ h; omega
      · cases h

/-- A run that ends in a fault. -/
theorem runs_err {n : Nat} {s : RS} {i : Nat} {x : Except (Int × Int) RS} (h : Runs toks en n s i x) : ∀ f, x = .error f → i ≤ toks.length →
    ∃ j, i ≤ j ∧ j ≤ toks.length ∧ f = fault toks en j ∧ (j < toks.length → ∀ toks' : List Tok, (∀ m, m ≤ j → toks'[m]? = toks[m]?) → Runs toks' en n s i (.error (fault toks' en j))) := by
  induction h with
  | done hw => intro f hf; cases hf
  | @bad s i w r hw hb =>
    intro f hf hi
    injection hf with hf
    exact ⟨i, Nat.le_refl _, hi, hf.symm, fun hlt toks' ha => .bad hw (by rw [step_loc (ha i (Nat.le_refl _)) hlt]; exact hb)⟩
  | @step n s i w r s' i' x hw hs hsz hi' _ ih =>
    intro f hf hi
    have hu := step_up hs
    obtain ⟨j, h1, h2, h3, h4⟩ := ih f hf hi'
    refine ⟨j, Nat.le_trans hu h1, h2, h3, fun hlt toks' ha => ?_⟩
    have hj' : j < toks'.length := by
      have := ha j (Nat.le_refl _)
      rw [List.getElem?_eq_getElem hlt] at this
      exact (List.getElem?_eq_some_iff.1 this).1
    exact .step hw (by rw [step_loc (ha i (by omega)) (by omega)]; exact hs) hsz (by omega) (h4 hlt toks' ha)
end Rf

/-- Tokens whose places tell which they are. -/
def reAt (l : List Tok) : List Tok := l.mapIdx fun i t => { t with at_ := (i : Int) }
theorem reAt_len (l : List Tok) : (reAt l).length = l.length := by simp [reAt]
theorem reAt_get (l : List Tok) (i : Nat) (h : i < l.length) : (reAt l)[i]? = some { l[i] with at_ := (i : Int) } := by
  unfold reAt
  rw [List.getElem?_mapIdx, List.getElem?_eq_getElem h]
  rfl
/-- So many of them. -/
def mixAt (l : List Tok) (k : Nat) : List Tok := (reAt l).take k ++ l.drop k
theorem mixAt_len (l : List Tok) (k : Nat) : (mixAt l k).length = l.length := by simp [mixAt, reAt_len]; omega
theorem mixAt_zero (l : List Tok) : mixAt l 0 = l := by simp [mixAt]
theorem mixAt_all (l : List Tok) : mixAt l l.length = reAt l := by
  unfold mixAt
  rw [List.drop_length, List.append_nil, ← reAt_len l, List.take_length]
theorem mixAt_get (l : List Tok) (k : Nat) (h : k < l.length) : (mixAt l k)[k]? = some l[k] := by
  unfold mixAt
  rw [List.getElem?_append_right (by simp [reAt_len]; omega)]
  simp [reAt_len, Nat.min_eq_left (Nat.le_of_lt h), List.getElem?_drop]
theorem mixAt_succ (l : List Tok) (k : Nat) (h : k < l.length) : mixAt l (k + 1) = (mixAt l k).set k { l[k] with at_ := (k : Int) } := by
  unfold mixAt
  have e0 : ((reAt l).take k).length = k := by simp [reAt_len]; omega
  rw [List.set_append_right _ _ (by omega), e0, Nat.sub_self, List.drop_eq_getElem_cons h, List.set_cons_zero, List.take_add_one, reAt_get l k h, List.append_assoc]
  rfl
end Go.Proofs.Ythodjlhjfaccpaa

set_option linter.unusedVariables false
namespace Go.Proofs.Ythodjlhjfaccpaa
open Go Pm

theorem ans_run (toks : List Tok) (en : Int) (h : toks.length ≤ 1000000) : ∃ n x, Rf.Runs toks en n { want := [100] } 0 x ∧ ans toks en = pres (outR x) := by
  obtain ⟨n, x, hr, hs⟩ := Rf.same toks en h
  exact ⟨n, x, hr, by unfold ans; rw [same_out hs]⟩
/-- A parse that tells no fault, or the fault at one token, or the end. -/
theorem ans_end (toks : List Tok) (en : Int) (h : toks.length ≤ 1000000) : ((ans toks en).code = 0 ∧ (ans toks en).at_ = 0) ∨
    ∃ j, j ≤ toks.length ∧ (ans toks en).code = (Rf.fault toks en j).2 ∧ (ans toks en).at_ = (Rf.fault toks en j).1 ∧
      (j < toks.length → ∀ toks' : List Tok, toks'.length ≤ 1000000 → (∀ m, m ≤ j → toks'[m]? = toks[m]?) → (ans toks' en).code = (Rf.fault toks' en j).2 ∧ (ans toks' en).at_ = (Rf.fault toks' en j).1) := by
  obtain ⟨n, x, hr, he⟩ := ans_run toks en h
  rw [he]
  cases x with
  | ok s => exact .inl ⟨rfl, rfl⟩
  | error f =>
    obtain ⟨j, _, h2, h3, h4⟩ := Rf.runs_err hr f rfl (Nat.zero_le _)
    subst h3
    refine .inr ⟨j, h2, rfl, rfl, fun hlt toks' hl' ha => ?_⟩
    obtain ⟨n', x', hr', he'⟩ := ans_run toks' en hl'
    have := Rf.runs_det hr' (h4 hlt toks' ha)
    subst this
    rw [he']
    exact ⟨rfl, rfl⟩
theorem fault_in {toks : List Tok} {en : Int} {j : Nat} {t : Tok} (h : toks[j]? = some t) : Rf.fault toks en j = (t.at_, 40) := by unfold Rf.fault; rw [h]
theorem fault_out {toks : List Tok} {en : Int} : Rf.fault toks en toks.length = (en, 41) := by unfold Rf.fault; rw [List.getElem?_eq_none (Nat.le_refl _)]
theorem fault_re {l : List Tok} {j : Nat} (h : j < l.length) : Rf.fault (reAt l) (-1) j = ((j : Int), 40) := by rw [fault_in (reAt_get l j h)]

theorem first_end (l : List Tok) (hl : l.length ≤ 1000) : ((ans (reAt l) (-1)).code = 0 ∧ (ans (reAt l) (-1)).at_ = 0) ∨ ((ans (reAt l) (-1)).code = 41 ∧ (ans (reAt l) (-1)).at_ = -1) ∨
    ∃ j : Nat, j < l.length ∧ (ans (reAt l) (-1)).code = 40 ∧ (ans (reAt l) (-1)).at_ = (j : Int) := by
  have hL := reAt_len l
  rcases ans_end (reAt l) (-1) (by omega) with h | ⟨j, h1, h2, h3, _⟩
  · exact .inl h
  · rcases Nat.lt_or_ge j l.length with h | h
    · rw [fault_re h] at h2 h3
      exact .inr (.inr ⟨j, h, h2, h3⟩)
    · obtain rfl : j = (reAt l).length := by omega
      rw [fault_out] at h2 h3
      exact .inr (.inl ⟨h2, h3⟩)
/-- All that stands ahead of a fault begins a program. -/
theorem first_pre (l : List Tok) (hl : l.length ≤ 1000) (k : Nat) (hk : k ≤ l.length) (he : ∀ j : Nat, (ans (reAt l) (-1)).code = 40 → (ans (reAt l) (-1)).at_ = (j : Int) → k ≤ j) :
    (ans ((reAt l).take k) (-1)).code = 0 ∨ ((ans ((reAt l).take k) (-1)).code = 41 ∧ (ans ((reAt l).take k) (-1)).at_ = -1) := by
  have hL := reAt_len l
  have hT : ((reAt l).take k).length = k := by simp [hL]; omega
  rcases ans_end ((reAt l).take k) (-1) (by omega) with h | ⟨j, h1, h2, h3, h4⟩
  · exact .inl h.1
  · rcases Nat.lt_or_ge j k with h | h
    · exfalso
      obtain ⟨g1, g2⟩ := h4 (by omega) (reAt l) (by omega) (fun m hm => by rw [List.getElem?_take_of_lt (by omega)])
      rw [fault_re (by omega)] at g1 g2
      have := he j g1 g2
      omega
    · have : j = ((reAt l).take k).length := by omega
      rw [this, fault_out] at h2 h3
      exact .inr ⟨h2, h3⟩
/-- With the faulty token they are none, whatever comes behind. -/
theorem first_more (l more : List Tok) (hl : l.length + more.length ≤ 1000) (j : Nat) (hj : j < l.length) (hc : (ans (reAt l) (-1)).code = 40) (ha : (ans (reAt l) (-1)).at_ = (j : Int)) :
    (ans ((reAt l).take (j + 1) ++ more) (-1)).code = 40 ∧ (ans ((reAt l).take (j + 1) ++ more) (-1)).at_ = (j : Int) := by
  have hL := reAt_len l
  have hT : ((reAt l).take (j + 1)).length = j + 1 := by simp [hL]; omega
  rcases ans_end (reAt l) (-1) (by omega) with h | ⟨i, h1, h2, h3, h4⟩
  · rw [h.1] at hc; cases hc
  · rcases Nat.lt_or_ge i l.length with h | h
    · rw [fault_re h] at h2 h3
      rw [ha] at h3
      have hij : j = i := by
        have h3' : (j : Int) = (i : Int) := h3
        omega
      subst hij
      have hg : ∀ m, m ≤ j → ((reAt l).take (j + 1) ++ more)[m]? = (reAt l)[m]? := fun m hm => by
        rw [List.getElem?_append_left (by omega), List.getElem?_take_of_lt (by omega)]
      have := h4 (by omega) ((reAt l).take (j + 1) ++ more) (by rw [List.length_append]; omega) hg
      rw [fault_in ((hg j (Nat.le_refl _)).trans (reAt_get l j hj))] at this
      exact this
    · have : i = (reAt l).length := by omega
      rw [this, fault_out] at h2
      rw [hc] at h2
      exact absurd h2 (by decide)
end Go.Proofs.Ythodjlhjfaccpaa

set_option linter.unusedVariables false
namespace Go.Proofs.Ythodjlhjfaccpaa
open Go Go.RowKit Mem Pm

theorem Mem.Hs.of_fr {w w1 : World} (h : Fr w w1) : Hs (fun k => k < w.heap.size) w w1 [] := ⟨fr_kp h, fun _ h => h, (fun _ h => nomatch h), List.Pairwise.nil⟩
theorem RdS.src {w : World} {a : Option Addr} {n cap : Nat} {xs : List Value} (h : RdS w (.slice a n cap) n xs) (hp : 0 < n → xs ≠ []) : 0 < n → ∃ d, a = some d ∧ ∀ j u, xs[j]? = some u → w.cell? (d.add j) = some u := by
  obtain ⟨a0, c0, he, _, hr⟩ := h
  injection he with he1 _ he2
  subst he1 he2
  intro h0
  obtain ⟨g, off, h1, h2⟩ := hr (hp h0)
  exact ⟨⟨g, off, none⟩, h1, fun j u hu => by rw [Addr.add_lit]; exact h2 j u hu⟩
theorem toksC_ne {l : List Tok} (h : 0 < l.length) : toksC l ≠ [] := fun he => by have := toksC_len l; rw [he] at this; simp at this; omega
theorem toksC_append (a b : List Tok) : toksC (a ++ b) = toksC a ++ toksC b := by unfold toksC; rw [List.flatMap_append]
theorem ans_nil : ((fun r : PRes => (r.code, r.at_)) (ans [] (-1))) = (0, 0) := by kernel_rfl
theorem toksC_take {l : List Tok} {k : Nat} : toksC l = toksC (l.take k) ++ toksC (l.drop k) := by rw [← toksC_append, List.take_append_drop]
set_option maxRecDepth 100000 in
set_option maxHeartbeats 16000000 in
theorem parseFirst_c (l more : List Tok) (a b : Option Addr) (cap cap2 : Nat) (w : World) (h : RdS w (.slice a l.length cap) l.length (toksC l)) (h2 : RdS w (.slice b more.length cap2) more.length (toksC more))
    (hl : l.length ≤ 4000000000000000000) (hl2 : more.length ≤ 4000000000000000000) :
    Calls Try.prog 6 #[.slice a l.length cap, .slice b more.length cap2] w fun e w' => e = .returned (.bool true) ∧ Kp (fun k => k < w.heap.size) w w' := by
  have HL := Lib.hid h
  have HM := Lib.hid h2
  clear h h2
  have hs0 : (l.length : Int) + (more.length : Int) ≤ 9000000000000000000 := by omega
  by_cases hm : 300 < l.length + more.length
  · have hmi : (300 : Int) < (l.length : Int) + (more.length : Int) := by omega
    go_enter Try.func6, Try.ntmps6
    go_wp2_with fail
    go_ret
    exact ⟨rfl, Kp.refl _ _⟩
  have hmi : ¬ (300 : Int) < (l.length : Int) + (more.length : Int) := by omega
  obtain ⟨i0, hi0, hz0, hz1, hz2⟩ := info_parts infoTok
  go_enter Try.func6, Try.ntmps6
  go_wp2_with fail
  refine (alive_c0 w).mono ?_
  rintro e w1 ⟨rfl, hk1⟩
  have hf1 : Fr w w1 := ⟨hk1.os, hk1.tape, hk1.output, hk1.size, fun k hk _ => hk1.block k hk⟩
  have H1 := Lib.hid (Mem.Hs.of_fr hf1)
  have Hr := Lib.hid ((HL.out.fr hf1).src toksC_ne)
  clear hk1 hf1
  go_wp2_with (at_builtin; go_must (refine Hs.copy rfl _ _ 22 rfl 48 i0 _ 4 40 (by kernel_rfl) hi0 hz0 hz1 hz2 rfl (Nat.succ_pos _) (Nat.le_of_ble_eq_true rfl) a l.length cap (toksC l) rfl rfl (toksC_len l) (toksC_one l) (by omega) Hr.out H1.out ?_))
  intro v2 w2 hh2
  have hf2 := hh2.form2 0 rfl
  obtain ⟨a2, c2, rfl, hc2, hg2⟩ := hh2.form 0 rfl
  have H2 := Lib.hid hh2
  clear hh2
  rcases Nat.eq_zero_or_pos l.length with hl0 | hl0
  case inl =>
    have hnil : l = [] := List.eq_nil_of_length_eq_zero hl0
    subst hnil
    have ha0 := congrArg Prod.fst ans_nil
    have ha1 := congrArg Prod.snd ans_nil
    have A0 := Lib.hid ha0
    have A1 := Lib.hid ha1
    have hv : (a2 = none ∧ c2 = 0) ∨ ∃ g, a2 = some ⟨g, 0, none⟩ := by
      rcases hf2 with ⟨h, _⟩ | ⟨g, cp, h, _⟩
      · injection h with h1 _ h3
        exact .inl ⟨h1, h3⟩
      · injection h with h1 _ h3
        exact .inr ⟨g, h1⟩
    have hp0 := parse_f [] (-1) w2 a2 c2 (rdS_row H2.out 0 rfl) (by decide)
    have Hp0 := Lib.hid hp0
    clear hl0 hg2 hf2 ha0 ha1 hp0
    have fin : ∀ (w3 : World) (nd fu ne : Value) (kvs : List Value), Hs (fun k => k < w.heap.size) w w3 (treeRes (ans [] (-1)).nodes (ans [] (-1)).funcs (ans [] (-1)).nest nd fu ne kvs ++ [.row 48 4 (.slice a2 ([] : List Tok).length c2) ([] : List Tok).length (toksC [])]) →
        ∃ an cn af cf, nd = .slice an (ans [] (-1)).nodes.length cn ∧ fu = .slice af (ans [] (-1)).funcs.length cf ∧ ∀ o, Hs (fun k => k < w.heap.size) w (w3.alloc o) [.row 48 4 (.slice a2 ([] : List Tok).length c2) ([] : List Tok).length (toksC [])] := by
      intro w3 nd fu ne kvs h3
      obtain ⟨an, cn, rfl, _, _⟩ := h3.form 0 rfl
      obtain ⟨af, cf, rfl, _, _⟩ := h3.form 1 rfl
      exact ⟨an, cn, af, cf, rfl, rfl, fun o => (h3.sub (List.sublist_append_right _ _)).alloc' o⟩
    have Fin := Lib.hid fin
    clear fin
    rcases hv with ⟨rfl, rfl⟩ | ⟨g, rfl⟩
    all_goals
      go_wp2_with fail
      refine wp_loop_rounds 1 ?_
      rw [rounds_succ]
      go_wp2_with fail
      refine Hp0.out.mono ?_
      clear Hp0
      rintro e w3 ⟨nd, fu, ne, kvs, hkv, he, hg3⟩
      obtain ⟨an, cn, af, cf, rfl, rfl, h3⟩ := Fin.out w3 nd fu ne kvs (hg3 _ _ _ H2.out)
      have H3 := Lib.hid (h3 (.cells #[.slice an (ans [] (-1)).nodes.length cn, .slice af (ans [] (-1)).funcs.length cf] 35))
      rw [A0.out, A1.out] at he
      subst he
      clear h3 hg3 hkv
      go_wp2_with (go_at_call 15; refine (num_c _ _).mono ?_; rintro e w' ⟨rfl, rfl⟩)
      generalize World.alloc w3 _ = W3 at H3 ⊢
      go_wp2_with (go_at_call 15; refine (num_c _ _).mono ?_; rintro e w' ⟨rfl, rfl⟩)
      have hp1 := parse_f [] (-1) W3 _ _ (rdS_row H3.out 0 rfl) (by decide)
      have Hp1 := Lib.hid hp1
      clear hp1
      refine wp_loop_rounds 2 ?_
      rw [rounds_succ]
      go_wp2_with fail
      refine Hp1.out.mono ?_
      clear Hp1
      rintro e w4 ⟨nd', fu', ne', kvs', hkv, he, hg4⟩
      obtain ⟨an', cn', af', cf', rfl, rfl, h4⟩ := Fin.out w4 nd' fu' ne' kvs' (hg4 _ _ _ H3.out)
      have H4 := Lib.hid (h4 (.cells #[.slice an' (ans [] (-1)).nodes.length cn', .slice af' (ans [] (-1)).funcs.length cf'] 35))
      rw [A0.out, A1.out] at he
      subst he
      clear h4 hg4 hkv
      go_wp2_with (go_at_call 15; refine (num_c _ _).mono ?_; rintro e w' ⟨rfl, rfl⟩)
      rw [rounds_succ]
      go_wp2_with (go_at_call 15; refine (num_c _ _).mono ?_; rintro e w' ⟨rfl, rfl⟩)
      go_ret
      exact ⟨rfl, H4.out.kp⟩
  case inr =>
  obtain ⟨gc, rfl, hgc⟩ := hg2 hl0
  have Hgc := Lib.hid hgc
  have hcc : (l.length : Int) ≤ (c2 : Int) := by omega
  clear hg2 hgc hf2
  go_wp2_with fail
  go_loopg [6] l.length (fun m i wr => ∃ k : Nat, k + m = l.length ∧ i = .int .i64 (k : Int) ∧
    Hs (fun k => k < w.heap.size) w wr [.row 48 4 (.slice (some ⟨gc, 0, none⟩) l.length c2) l.length (toksC (mixAt l k))])
  case atStart => exact ⟨0, by omega, rfl, by rw [mixAt_zero]; exact H2.out⟩
  case round =>
  obtain ⟨k, hk, rfl, hh⟩ := hrel
  have Hh := Lib.hid hh
  by_cases hlt : k < l.length
  case pos =>
    have hki : (k : Int) < (l.length : Int) := by omega
    have hk0 : (0 : Int) ≤ (k : Int) := by omega
    have z1 := hh.rfroz 0 rfl Hgc.out (k * 4 + 1)
    have d1 := hh.rcell 0 rfl Hgc.out (k * 4 + 1) (u := .int .i64 (l[k]).at_) (by rw [toksC_get (mixAt_get l k hlt) 1 (by omega)]; rfl)
    have hset : (toksC (mixAt l k)).set (k * 4 + 1) (.int .i64 (k : Int)) = toksC (mixAt l (k + 1)) := by
      rw [mixAt_succ l k hlt, toksC_set _ k 1 l[k] { l[k] with at_ := (k : Int) } _ (mixAt_get l k hlt) (by omega) rfl]
    have Hs1 := Lib.hid hset
    clear hh hset
    go_wp2_with fail
    go_roundg (gk - 1)
    case measure => omega
    case rel =>
      refine ⟨k + 1, by omega, by go_num, ?_⟩
      have h3 := Hh.out.rset 0 rfl Hgc.out (k * 4 + 1) (.int .i64 (k : Int))
      simp only [List.set_cons_zero] at h3
      rw [Hs1.out] at h3
      exact h3
  case neg =>
  obtain rfl : k = l.length := by omega
  have hki : ¬ (l.length : Int) < (l.length : Int) := by omega
  rw [mixAt_all] at Hh hh
  have hL := reAt_len l
  have hE := first_end l (by omega)
  have hP := first_pre l (by omega)
  have hM := first_more l more (by omega)
  generalize reAt l = C at *
  have Hrow := Lib.hid hh
  have HLc := Lib.hid hL
  have HE := Lib.hid hE
  have HP := Lib.hid hP
  have HMo := Lib.hid hM
  have Rc := Lib.hid (rdS_row hh 0 rfl)
  have hpf := parse_f C (-1) wr (some ⟨gc, 0, none⟩) c2 (by rw [hL]; exact rdS_row hh 0 rfl) (by omega)
  rw [hL] at hpf
  clear hh hL hE hP hM Hh
  go_wp2_with fail
  refine hpf.mono ?_
  clear hpf
  rintro e w3 ⟨nd, fu, ne, kvs, hkv, he, hg3⟩
  have h3 := hg3 _ _ _ Hrow.out
  obtain ⟨an, cn, rfl, _, _⟩ := h3.form 0 rfl
  obtain ⟨af, cf, rfl, _, _⟩ := h3.form 1 rfl
  have hs3 := h3.sub (List.sublist_append_right _ _)
  clear h3 hg3 hkv
  rcases HE.out with ⟨hc, ha⟩ | ⟨hc, ha⟩ | ⟨j, hj, hc, ha⟩
  ·
    rw [hc, ha] at he
    subst he
    have H3 := Lib.hid (hs3.alloc' (.cells #[.slice an (ans C (-1)).nodes.length cn, .slice af (ans C (-1)).funcs.length cf] 35))
    clear hs3
    have hP : ∀ k, k ≤ l.length → (ans (C.take k) (-1)).code = 0 ∨ ((ans (C.take k) (-1)).code = 41 ∧ (ans (C.take k) (-1)).at_ = -1) := fun k hk => HP.out k (by omega) (fun i h _ => by rw [hc] at h; exact absurd h (by decide))
    have HPk := Lib.hid hP
    clear hc ha hP
    go_wp2_with (go_at_call 15; refine (num_c _ _).mono ?_; rintro e w' ⟨rfl, rfl⟩)
    generalize World.alloc w3 _ = W3 at H3 ⊢
    go_wp2_with (go_at_call 15; refine (num_c _ _).mono ?_; rintro e w' ⟨rfl, rfl⟩)
    go_loopg [12] (l.length + 1) (fun m i wr => ∃ k : Nat, i = .int .i64 (k : Int) ∧ k + m = l.length + 1 ∧ Hs (fun k => k < w.heap.size) w wr [.row 48 4 (.slice (some ⟨gc, 0, none⟩) l.length c2) l.length (toksC C)])
    case atStart => exact ⟨0, rfl, by omega, H3.out⟩
    case round =>
    obtain ⟨k, rfl, hk, hh⟩ := hrel
    have Hk := Lib.hid hh
    by_cases hke : k ≤ l.length
    case pos =>
      have hk1 : (k : Int) ≤ (l.length : Int) := by omega
      have hk2 : (k : Int) ≤ (l.length : Int) := by omega
      have hk3 : (k : Int) ≤ (c2 : Int) := by omega
      have hk4 : (0 : Int) ≤ (k : Int) := by omega
      have hTk : (C.take k).length = k := by rw [List.length_take]; have := HLc.out; omega
      have rk : RdS wr (.slice (some ⟨gc, 0, none⟩) k c2) k (toksC (C.take k)) := RdS.pre (ys := toksC (C.drop k)) (by rw [← toksC_take]; exact rdS_row hh 0 rfl) (by omega)
      have hpk := parse_f (C.take k) (-1) wr (some ⟨gc, 0, none⟩) c2 (by rw [hTk]; exact rk) (by omega)
      rw [hTk] at hpk
      have Hpk := Lib.hid hpk
      clear hh rk hTk hpk
      go_wp2_with fail
      refine Hpk.out.mono ?_
      clear Hpk
      rintro e w4 ⟨nd', fu', ne', kvs', hkv, he, hg4⟩
      have h4 := hg4 _ _ _ Hk.out
      obtain ⟨an', cn', rfl, _, _⟩ := h4.form 0 rfl
      obtain ⟨af', cf', rfl, _, _⟩ := h4.form 1 rfl
      have hs4 := h4.sub (List.sublist_append_right _ _)
      have H4 := Lib.hid (hs4.alloc' (.cells #[.slice an' (ans (C.take k) (-1)).nodes.length cn', .slice af' (ans (C.take k) (-1)).funcs.length cf'] 35))
      clear h4 hg4 hkv hs4
      rcases HPk.out k hke with h0 | ⟨h0, h1⟩
      · rw [h0] at he
        subst he
        clear h0
        go_wp2_with (go_at_call 15; refine (num_c _ _).mono ?_; rintro e w' ⟨rfl, rfl⟩)
        go_roundg (gk - 1)
        case measure => omega
        case rel => exact ⟨k + 1, by go_num, by omega, H4.out⟩
      · rw [h0, h1] at he
        subst he
        clear h0 h1
        go_wp2_with (go_at_call 15; refine (num_c _ _).mono ?_; rintro e w' ⟨rfl, rfl⟩)
        go_roundg (gk - 1)
        case measure => omega
        case rel => exact ⟨k + 1, by go_num, by omega, H4.out⟩
    case neg =>
      have hk1 : ¬ (k : Int) ≤ (l.length : Int) := by omega
      clear hh
      go_wp2_with (go_at_call 15; refine (num_c _ _).mono ?_; rintro e w' ⟨rfl, rfl⟩)
      go_ret
      exact ⟨rfl, Hk.out.kp⟩
  ·
    rw [hc, ha] at he
    subst he
    have H3 := Lib.hid (hs3.alloc' (.cells #[.slice an (ans C (-1)).nodes.length cn, .slice af (ans C (-1)).funcs.length cf] 35))
    clear hs3
    have hP : ∀ k, k ≤ l.length → (ans (C.take k) (-1)).code = 0 ∨ ((ans (C.take k) (-1)).code = 41 ∧ (ans (C.take k) (-1)).at_ = -1) := fun k hk => HP.out k (by omega) (fun i h _ => by rw [hc] at h; exact absurd h (by decide))
    have HPk := Lib.hid hP
    clear hc ha hP
    go_wp2_with (go_at_call 15; refine (num_c _ _).mono ?_; rintro e w' ⟨rfl, rfl⟩)
    generalize World.alloc w3 _ = W3 at H3 ⊢
    go_wp2_with (go_at_call 15; refine (num_c _ _).mono ?_; rintro e w' ⟨rfl, rfl⟩)
    go_loopg [12] (l.length + 1) (fun m i wr => ∃ k : Nat, i = .int .i64 (k : Int) ∧ k + m = l.length + 1 ∧ Hs (fun k => k < w.heap.size) w wr [.row 48 4 (.slice (some ⟨gc, 0, none⟩) l.length c2) l.length (toksC C)])
    case atStart => exact ⟨0, rfl, by omega, H3.out⟩
    case round =>
    obtain ⟨k, rfl, hk, hh⟩ := hrel
    have Hk := Lib.hid hh
    by_cases hke : k ≤ l.length
    case pos =>
      have hk1 : (k : Int) ≤ (l.length : Int) := by omega
      have hk2 : (k : Int) ≤ (l.length : Int) := by omega
      have hk3 : (k : Int) ≤ (c2 : Int) := by omega
      have hk4 : (0 : Int) ≤ (k : Int) := by omega
      have hTk : (C.take k).length = k := by rw [List.length_take]; have := HLc.out; omega
      have rk : RdS wr (.slice (some ⟨gc, 0, none⟩) k c2) k (toksC (C.take k)) := RdS.pre (ys := toksC (C.drop k)) (by rw [← toksC_take]; exact rdS_row hh 0 rfl) (by omega)
      have hpk := parse_f (C.take k) (-1) wr (some ⟨gc, 0, none⟩) c2 (by rw [hTk]; exact rk) (by omega)
      rw [hTk] at hpk
      have Hpk := Lib.hid hpk
      clear hh rk hTk hpk
      go_wp2_with fail
      refine Hpk.out.mono ?_
      clear Hpk
      rintro e w4 ⟨nd', fu', ne', kvs', hkv, he, hg4⟩
      have h4 := hg4 _ _ _ Hk.out
      obtain ⟨an', cn', rfl, _, _⟩ := h4.form 0 rfl
      obtain ⟨af', cf', rfl, _, _⟩ := h4.form 1 rfl
      have hs4 := h4.sub (List.sublist_append_right _ _)
      have H4 := Lib.hid (hs4.alloc' (.cells #[.slice an' (ans (C.take k) (-1)).nodes.length cn', .slice af' (ans (C.take k) (-1)).funcs.length cf'] 35))
      clear h4 hg4 hkv hs4
      rcases HPk.out k hke with h0 | ⟨h0, h1⟩
      · rw [h0] at he
        subst he
        clear h0
        go_wp2_with (go_at_call 15; refine (num_c _ _).mono ?_; rintro e w' ⟨rfl, rfl⟩)
        go_roundg (gk - 1)
        case measure => omega
        case rel => exact ⟨k + 1, by go_num, by omega, H4.out⟩
      · rw [h0, h1] at he
        subst he
        clear h0 h1
        go_wp2_with (go_at_call 15; refine (num_c _ _).mono ?_; rintro e w' ⟨rfl, rfl⟩)
        go_roundg (gk - 1)
        case measure => omega
        case rel => exact ⟨k + 1, by go_num, by omega, H4.out⟩
    case neg =>
      have hk1 : ¬ (k : Int) ≤ (l.length : Int) := by omega
      clear hh
      go_wp2_with (go_at_call 15; refine (num_c _ _).mono ?_; rintro e w' ⟨rfl, rfl⟩)
      go_ret
      exact ⟨rfl, Hk.out.kp⟩
  ·
    rw [hc, ha] at he
    subst he
    have H3 := Lib.hid (hs3.alloc' (.cells #[.slice an (ans C (-1)).nodes.length cn, .slice af (ans C (-1)).funcs.length cf] 35))
    clear hs3
    have hj0 : (0 : Int) ≤ (j : Int) := by omega
    have hj1 : (j : Int) < (l.length : Int) := by omega
    have hj5 : decide ((l.length : Int) ≤ (j : Int)) = false := decide_eq_false (by omega)
    have hj7 : decide (l.length ≤ j) = false := decide_eq_false (by omega)
    have hj6 : decide ((j : Int) < 0) = false := decide_eq_false (by omega)
    have hP : ∀ k, k ≤ j → (ans (C.take k) (-1)).code = 0 ∨ ((ans (C.take k) (-1)).code = 41 ∧ (ans (C.take k) (-1)).at_ = -1) := fun k hk => HP.out k (by omega) (fun i _ h => by rw [ha] at h; omega)
    have hMM := HMo.out j hj hc ha
    have HMM := Lib.hid hMM
    clear hMM
    have HPk := Lib.hid hP
    clear hc ha hP
    go_wp2_with (go_at_call 15; refine (num_c _ _).mono ?_; rintro e w' ⟨rfl, rfl⟩)
    generalize World.alloc w3 _ = W3 at H3 ⊢
    go_wp2_with (go_at_call 15; refine (num_c _ _).mono ?_; rintro e w' ⟨rfl, rfl⟩)
    go_loopg [12] (j + 1) (fun m i wr => ∃ k : Nat, i = .int .i64 (k : Int) ∧ k + m = j + 1 ∧ Hs (fun k => k < w.heap.size) w wr [.row 48 4 (.slice (some ⟨gc, 0, none⟩) l.length c2) l.length (toksC C)])
    case atStart => exact ⟨0, rfl, by omega, H3.out⟩
    case round =>
    obtain ⟨k, rfl, hk, hh⟩ := hrel
    have Hk := Lib.hid hh
    by_cases hke : k ≤ j
    case pos =>
      have hk1 : (k : Int) ≤ (j : Int) := by omega
      have hk2 : (k : Int) ≤ (l.length : Int) := by omega
      have hk3 : (k : Int) ≤ (c2 : Int) := by omega
      have hk4 : (0 : Int) ≤ (k : Int) := by omega
      have hTk : (C.take k).length = k := by rw [List.length_take]; have := HLc.out; omega
      have rk : RdS wr (.slice (some ⟨gc, 0, none⟩) k c2) k (toksC (C.take k)) := RdS.pre (ys := toksC (C.drop k)) (by rw [← toksC_take]; exact rdS_row hh 0 rfl) (by omega)
      have hpk := parse_f (C.take k) (-1) wr (some ⟨gc, 0, none⟩) c2 (by rw [hTk]; exact rk) (by omega)
      rw [hTk] at hpk
      have Hpk := Lib.hid hpk
      clear hh rk hTk hpk
      go_wp2_with fail
      refine Hpk.out.mono ?_
      clear Hpk
      rintro e w4 ⟨nd', fu', ne', kvs', hkv, he, hg4⟩
      have h4 := hg4 _ _ _ Hk.out
      obtain ⟨an', cn', rfl, _, _⟩ := h4.form 0 rfl
      obtain ⟨af', cf', rfl, _, _⟩ := h4.form 1 rfl
      have hs4 := h4.sub (List.sublist_append_right _ _)
      have H4 := Lib.hid (hs4.alloc' (.cells #[.slice an' (ans (C.take k) (-1)).nodes.length cn', .slice af' (ans (C.take k) (-1)).funcs.length cf'] 35))
      clear h4 hg4 hkv hs4
      rcases HPk.out k hke with h0 | ⟨h0, h1⟩
      · rw [h0] at he
        subst he
        clear h0
        go_wp2_with (go_at_call 15; refine (num_c _ _).mono ?_; rintro e w' ⟨rfl, rfl⟩)
        go_roundg (gk - 1)
        case measure => omega
        case rel => exact ⟨k + 1, by go_num, by omega, H4.out⟩
      · rw [h0, h1] at he
        subst he
        clear h0 h1
        go_wp2_with (go_at_call 15; refine (num_c _ _).mono ?_; rintro e w' ⟨rfl, rfl⟩)
        go_roundg (gk - 1)
        case measure => omega
        case rel => exact ⟨k + 1, by go_num, by omega, H4.out⟩
    case neg =>
      have hk1 : ¬ (k : Int) ≤ (j : Int) := by omega
      have hj3 : (j : Int) + 1 ≤ (c2 : Int) := by omega
      have hj4 : (0 : Int) ≤ (j : Int) + 1 := by omega
      have hTj : (C.take (j + 1)).length = j + 1 := by rw [List.length_take]; have := HLc.out; omega
      have rj : RdS wr (.slice (some ⟨gc, 0, none⟩) (j + 1) c2) (j + 1) (toksC (C.take (j + 1))) := RdS.pre (ys := toksC (C.drop (j + 1))) (by rw [← toksC_take]; exact rdS_row hh 0 rfl) (by omega)
      have Rj := Lib.hid (rj.src (fun _ => toksC_ne (by omega)))
      have HT := Lib.hid hTj
      clear hh rj hTj
      go_wp2_with (first | (go_at_call 15; refine (num_c _ _).mono ?_; rintro e w' ⟨rfl, rfl⟩) | (at_builtin; go_must (refine Hs.copy rfl _ _ 22 rfl 48 i0 _ 4 40 (by kernel_rfl) hi0 hz0 hz1 hz2 rfl (Nat.succ_pos _) (Nat.le_of_ble_eq_true rfl) (some ⟨gc, 0, none⟩) (j + 1) c2 (toksC (C.take (j + 1))) rfl rfl (by rw [toksC_len, HT.out]) (toksC_one _) (by omega) Rj.out Hk.out ?_)))
      intro v5 w5 hh5
      obtain ⟨a5, c5, rfl, _, _⟩ := hh5.form 0 rfl
      have H5 := Lib.hid hh5
      have Rm := Lib.hid ((HM.out.kp hh5.kp).src toksC_ne)
      clear hh5
      go_wp2_with (at_builtin; go_must (refine Hs.pushS rfl _ _ 22 rfl 48 i0 _ 4 40 (by kernel_rfl) hi0 hz0 hz1 hz2 rfl (Nat.succ_pos _) (Nat.le_of_ble_eq_true rfl) 0 (.slice a5 (j + 1) c5) (j + 1) (toksC (C.take (j + 1))) rfl b more.length cap2 (toksC more) rfl rfl (toksC_len more) (toksC_one more) (by omega) Rm.out H5.out ?_))
      intro v6 w6 hh6
      obtain ⟨a6, c6, rfl, _, _⟩ := hh6.form 0 rfl
      have r6 := rdS_row hh6 0 rfl
      rw [← toksC_append] at r6
      have hL6 : (C.take (j + 1) ++ more).length = j + 1 + more.length := by rw [List.length_append, HT.out]
      have hp6 := parse_f (C.take (j + 1) ++ more) (-1) w6 a6 c6 (by rw [hL6]; exact r6) (by omega)
      rw [hL6] at hp6
      have Hp6 := Lib.hid hp6
      have H6 := Lib.hid hh6
      clear hh6 r6 hL6 hp6
      go_wp2_with fail
      refine Hp6.out.mono ?_
      clear Hp6
      rintro e w7 ⟨nd', fu', ne', kvs', hkv, he, hg7⟩
      have h7 := hg7 _ _ _ H6.out
      obtain ⟨an', cn', rfl, _, _⟩ := h7.form 0 rfl
      obtain ⟨af', cf', rfl, _, _⟩ := h7.form 1 rfl
      have H7 := Lib.hid (h7.alloc' (.cells #[.slice an' (ans (C.take (j + 1) ++ more) (-1)).nodes.length cn', .slice af' (ans (C.take (j + 1) ++ more) (-1)).funcs.length cf'] 35)).kp
      have h0 := HMM.out.1
      have h1 := HMM.out.2
      rw [h0, h1] at he
      subst he
      clear h7 hg7 hkv h0 h1
      go_wp2_with (go_at_call 15; refine (num_c _ _).mono ?_; rintro e w' ⟨rfl, rfl⟩)
      go_ret
      exact ⟨rfl, H7.out⟩
end Go.Proofs.Ythodjlhjfaccpaa
