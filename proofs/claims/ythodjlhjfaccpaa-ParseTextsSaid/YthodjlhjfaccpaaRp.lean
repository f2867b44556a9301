/- quernref4.Parse: what its call does. -/
import Derived.Test.YthodjlhjfaccpaaRt
import Derived.Deep.DeepCutAuto
set_option linter.unusedVariables false
namespace Go.Proofs.Ythodjlhjfaccpaa
open Go Go.RowKit Mem Pm Rf

theorem rd_tok {A : Nat → Prop} {w : World} {ta : Option Addr} {toks : List Tok} (h : Rd A w ta (toksC toks)) {i : Nat} {t : Tok} (ht : toks[i]? = some t) :
    ∃ b off, ta = some ⟨b, off, none⟩ ∧ A b ∧ w.cell? ⟨b, off + i * 4, none⟩ = some (.int .i64 t.kind) ∧ w.cell? ⟨b, off + i * 4 + 1, none⟩ = some (.int .i64 t.at_) ∧ w.cell? ⟨b, off + i * 4 + 2, none⟩ = some (.int .i64 t.value) ∧ w.cell? ⟨b, off + i * 4 + 3, none⟩ = some (.string t.name) := by
  have hx : toksC toks ≠ [] := by
    intro h0
    have := toksC_get ht 0 (by omega)
    rw [h0] at this
    simp [tokC] at this
  obtain ⟨b, off, h1, h2, h3⟩ := h hx
  refine ⟨b, off, h1, h2, ?_, ?_, ?_, ?_⟩
  · exact h3 (i * 4) _ (by have := toksC_get ht 0 (by omega); rwa [Nat.add_zero] at this)
  · rw [Nat.add_assoc]; exact h3 (i * 4 + 1) _ (toksC_get ht 1 (by omega))
  · rw [Nat.add_assoc]; exact h3 (i * 4 + 2) _ (toksC_get ht 2 (by omega))
  · rw [Nat.add_assoc]; exact h3 (i * 4 + 3) _ (toksC_get ht 3 (by omega))
theorem runs_inv {toks : List Tok} {en : Int} {n : Nat} {s : RS} {i : Nat} {x : Except (Int × Int) RS} (h : Runs toks en n s i x) :
    (s.want = [] ∧ x = .ok s) ∨ (∃ w r, s.want = w :: r ∧ Rf.step toks en { s with want := r } i w = .bad ∧ x = .error (Rf.fault toks en i)) ∨
      ∃ m w r s' i', n = m + 1 ∧ s.want = w :: r ∧ Rf.step toks en { s with want := r } i w = .go s' i' ∧ s'.sz ≤ 900000000 ∧ i' ≤ toks.length ∧ Runs toks en m s' i' x := by
  cases h with
  | done h => exact .inl ⟨h, rfl⟩
  | bad h1 h2 => exact .inr (.inl ⟨_, _, h1, h2, rfl⟩)
  | step h1 h2 h3 h4 h5 => exact .inr (.inr ⟨_, _, _, _, _, rfl, h1, h2, h3, h4, h5⟩)
theorem ri_drop {A : Nat → Prop} {w0 w : World} {gs : Nat} {s : RS} {a : Res} {rest : List Res} (h : RI A w0 w gs s (a :: rest)) : RI A w0 w gs s rest := by
  obtain ⟨nd, fu, ne, wa, ma, wt, kvs, hkv, h⟩ := h
  exact ⟨nd, fu, ne, wa, ma, wt, kvs, hkv, h.sub (List.Sublist.append (List.Sublist.refl _) (List.sublist_cons_self _ _))⟩
theorem ri_give {A : Nat → Prop} {w0 w w' : World} {gs : Nat} {s : RS} {a : Res} {rest : List Res} (h : RI A w0 w gs s rest) (hg : ∀ (A : Nat → Prop) (w0 : World) (rs : List Res), Hs A w0 w rs → Hs A w0 w' (a :: rs)) : RI A w0 w' gs s (a :: rest) := by
  obtain ⟨nd, fu, ne, wa, ma, wt, kvs, hkv, h⟩ := h
  exact ⟨nd, fu, ne, wa, ma, wt, kvs, hkv, (hg _ _ _ h).mid⟩
/-- What holds at each round's head. -/
def RInv (toks : List Tok) (en : Int) (x : Except (Int × Int) RS) (w : World) (gs g0 : Nat) (m k : Nat) (wr : World) : Prop :=
  ∃ r, Runs toks en m r k x ∧ r.sz ≤ 900000000 ∧ k ≤ toks.length ∧ RI (fun k => k < g0) w wr gs r [.blk g0 35 [.slice none 0 0, .slice none 0 0]]

set_option maxRecDepth 100000 in
set_option maxHeartbeats 8000000 in
theorem refParse_c (toks : List Tok) (en : Int) (n : Nat) (x : Except (Int × Int) RS) (hr : Runs toks en n { want := [100] } 0 x) (w : World) (ta : Option Addr) (tc : Nat) (ht : Rd (fun k => k < w.heap.size) w ta (toksC toks)) (hc : toks.length ≤ tc) (hn : toks.length ≤ 10000000) (hnm : ∀ t ∈ toks, t.name.size ≤ 9223372036854775807) :
    Calls Try.prog 13 #[.slice ta toks.length tc, .int .i64 en] w (PEnd (outR x) w) := by
  have Ht := Lib.hid ht
  have Hc := Lib.hid hc
  have Hr := Lib.hid hr
  have Hnm := Lib.hid hnm
  have h0 := (((((((Hs.start w).alloc [.slice none 0 0, .slice none 0 0] 35).nil 3 1).nil 85 11).nil 3 1).nil 3 1).nil 3 1).nil 42 10
  have h1 := h0.alloc [.slice none 0 0, .slice none 0 0, .slice none 0 0, .slice none 0 0, .slice none 0 0, .slice none 0 0, .int .i64 0, .int .i64 0, .int .i64 0, .int .i64 0, .int .i64 0, .string ⟨#[]⟩] 68
  have h2 := (h1.alloc [.int .i64 100] 3).asRow 0 rfl 1 1 rfl (by unfold maxLen; omega)
  simp only [size_alloc', List.set_cons_zero] at h2
  have h3 : RI (fun k => k < w.heap.size) w _ (w.heap.size + 1) {} (.row 3 1 (.slice (some ⟨w.heap.size + 1 + 1, 0, none⟩) 1 1) 1 (ints [100]) :: [.blk w.heap.size 35 [.slice none 0 0, .slice none 0 0]]) :=
    ⟨.slice none 0 0, .slice none 0 0, .slice none 0 0, .slice none 0 0, .slice none 0 0, .slice none 0 0, [], rfl, Hs.mid (l := RSt (w.heap.size + 1) {} (.slice none 0 0) (.slice none 0 0) (.slice none 0 0) (.slice none 0 0) (.slice none 0 0) (.slice none 0 0) []) h2⟩
  have H3 := Lib.hid h3
  clear ht hc hr hnm h0 h1 h2 h3
  go_enter Try.func13, Try.ntmps13
  go_wp2_with fail
  generalize World.alloc (World.alloc (World.alloc _ _) _) _ = W at H3 ⊢
  generalize hgs : w.heap.size + 1 = gs at H3 ⊢
  generalize hg0 : w.heap.size = g0 at H3 ⊢
  have Hg := Lib.hid (show gs = w.heap.size + 1 ∧ g0 = w.heap.size by omega)
  clear hgs hg0
  refine (want_c (l := [100]) H3.out (by decide) (by decide)).mono ?_
  rintro e w1 ⟨rfl, hri⟩
  have H4 := Lib.hid hri
  clear hri H3
  go_wp2_with fail
  go_loopg [9] n (fun m i wr => ∃ k : Nat, i = .int .i64 (k : Int) ∧ RInv toks en x w gs g0 m k wr)
  case atStart =>
    refine ⟨0, rfl, { want := [100] }, Hr.out, by decide, Nat.zero_le _, ?_⟩
    obtain ⟨nd, fu, ne, wa, ma, wt, kvs, hkv, h⟩ := H4.out
    exact ⟨nd, fu, ne, wa, ma, wt, kvs, hkv, h.front.tail⟩
  case round =>
    obtain ⟨k, rfl, r, hR, hsz, hk, nd, fu, ne, wa, ma, wt, kvs, hkv, h⟩ := hrel
    have hi := runs_inv hR
    clear hR
    replace h := h.front
    obtain ⟨an, cn, rfl, _, _⟩ := h.form 2 rfl
    obtain ⟨af, cf, rfl, _, _⟩ := h.form 3 rfl
    obtain ⟨ae, ce, rfl, _, _⟩ := h.form 4 rfl
    obtain ⟨aw, cw, rfl, hcw, hgw⟩ := h.form 5 rfl
    have c3 := h.cell 1 rfl 3 rfl
    have Hkv := Lib.hid hkv
    have Hsz := Lib.hid hsz
    rcases hi with ⟨hw0, hx⟩ | hi
    · have c0 := h.cell 1 rfl 0 rfl
      have c1 := h.cell 1 rfl 1 rfl
      have c2 := h.cell 1 rfl 2 rfl
      have t0 := h.cell 0 rfl 0 rfl
      have t1 := h.cell 0 rfl 1 rfl
      have z0 := h.froz 0 rfl 0
      have z1 := h.froz 0 rfl 1
      have hne : g0 ≠ gs := by have := Hg.out; omega
      have hne2 : gs ≠ g0 := hne.symm
      have H := Lib.hid h
      have Hx := Lib.hid hx
      have Hw0 := Lib.hid hw0
      rw [hw0] at c3
      clear h hkv hsz hx hw0 hgw hcw
      go_wp2_with fail
      go_region_held3 (fun w' => w'.cell? ⟨gs, 0, none⟩ = some (.slice an r.nodes.length cn) ∧ w'.cell? ⟨gs, 1, none⟩ = some (.slice af r.funcs.length cf) ∧ w'.cell? ⟨gs, 2, none⟩ = some (.slice ae r.nest.length ce)) (go_keep) (fail)
      go_wp2_with fail
      have h1 := ((H.out.set_ 0 rfl 0 (.slice an r.nodes.length cn)).set_ 0 rfl 1 (.slice af r.funcs.length cf)).drew
      have v0 := h1.cell 0 rfl 0 rfl
      have v1 := h1.cell 0 rfl 1 rfl
      refine bodyPost_ret (v := .tuple #[.agg #[.slice an r.nodes.length cn, .slice af r.funcs.length cf], .slice ae r.nest.length ce, .int .i64 0, .int .i64 0]) (by simp [results, Try.results13, go_sem, v0, v1]) rfl ?_
      rw [Hx.out]
      have eg := Hg.out.2
      subst eg
      refine ⟨_, _, _, kvs, Hkv.out, rfl, gives_of (h1.sub ?_)⟩
      refine .cons _ (.cons _ (.cons_cons _ (.cons_cons _ (.cons_cons _ (.cons _ (.cons _ (.cons _ ?_)))))))
      exact List.sublist_append_left _ _
    · -- the next thing that is wanted, the next token
      obtain ⟨wd, rw_, hwant, hstep⟩ : ∃ wd rw_, r.want = wd :: rw_ ∧ ((Rf.step toks en { r with want := rw_ } k wd = .bad ∧ x = .error (Rf.fault toks en k)) ∨
          ∃ m s' i', gk = m + 1 ∧ Rf.step toks en { r with want := rw_ } k wd = .go s' i' ∧ s'.sz ≤ 900000000 ∧ i' ≤ toks.length ∧ Runs toks en m s' i' x) := by
        rcases hi with ⟨wd, rw_, h1, h2, h3⟩ | ⟨m, wd, rw_, s', i', h1, h2, h3, h4, h5, h6⟩
        · exact ⟨wd, rw_, h1, .inl ⟨h2, h3⟩⟩
        · exact ⟨wd, rw_, h2, .inr ⟨m, s', i', h1, h3, h4, h5, h6⟩⟩
      have hwl : r.want.length = rw_.length + 1 := by rw [hwant]; rfl
      have hsl : r.want.length ≤ 900000000 := by unfold RS.sz at hsz; omega
      obtain ⟨gw, rfl, hgo⟩ := hgw (by omega)
      obtain ⟨T, hT⟩ : ∃ T, T = Rf.next toks en k := ⟨_, rfl⟩
      obtain ⟨kd, hkd⟩ : ∃ kd, kd = Rf.kind toks k := ⟨_, rfl⟩
      have hcw1 : w.heap.size = g0 := Hg.out.2.symm
      have hxs : (ints r.want.reverse)[rw_.length]? = some (.int .i64 wd) := by rw [hwant]; simp [ints]
      have Hxs := Lib.hid hxs
      have Hwant := Lib.hid hwant
      have Hstep := Lib.hid hstep
      have HT := Lib.hid hT
      have Hkd := Lib.hid hkd
      have Hgo := Lib.hid hgo
      have Hwl := Lib.hid hwl
      have Hh := Lib.hid h
      have hgsw := (h.nin (i := 1) rfl rfl).1
      have hwp : 0 < r.want.length := by omega
      have hwpi : (0 : Int) < (r.want.length : Int) := by omega
      have hwi0 : (0 : Int) ≤ (r.want.length : Int) - 1 := by omega
      have hwi1 : (r.want.length : Int) - 1 < (r.want.length : Int) := by omega
      have hwi2 : ((r.want.length : Int) - 1).toNat = rw_.length := by omega
      have hwi3 : (r.want.length : Int) - 1 ≤ (r.want.length : Int) := by omega
      have hwi4 : (r.want.length : Int) - 1 ≤ (cw : Int) := by omega
      have hcx := h.rcell 5 rfl hgo _ hxs
      have hgwl := (h.nin (i := 5) rfl hgo).1
      have z3 := h.froz 1 rfl 3
      clear hi hwant hstep hgw
      have Hcw1 := Lib.hid hcw1
      have Hhb := Lib.hid (h.alloc [.int .i64 0, .int .i64 en, .int .i64 0, .string ⟨#[]⟩] 48)
      clear h hkv hsz hxs hT hkd hgo hwl hcw1
      go_upto_if 32 with fail
      go_cut [11] (fun v11 wx => v11 = .int .i64 kd ∧ Hs (fun k => k < g0) w wx (.blk wr.heap.size 48 (tokC T) :: .blk g0 35 [.slice none 0 0, .slice none 0 0] ::
        (RSt gs r (.slice an r.nodes.length cn) (.slice af r.funcs.length cf) (.slice ae r.nest.length ce) (.slice (some ⟨gw, 0, none⟩) r.want.length cw) ma wt kvs ++ [])))
      case first =>
        by_cases hlt : k < toks.length
        · have htk : toks[k]? = some T := by
            rw [HT.out]
            unfold Rf.next
            rw [List.getD_eq_getElem?_getD, List.getElem?_eq_getElem hlt]
            rfl
          have hkw : Kp (fun k => k < w.heap.size) w wr := by rw [Hcw1.out]; exact Hh.out.kp
          obtain ⟨b, off, rfl, hb, t0, t1, t2, t3⟩ := rd_tok (Ht.out.kp hkw) htk
          have hkk : kd = if right T then T.kind else 0 := by
            rw [Hkd.out]
            unfold Rf.kind
            rw [htk]
          have hlti : (k : Int) < (toks.length : Int) := by omega
          have hk0 : (0 : Int) ≤ (k : Int) := by omega
          have hbw : b < wr.heap.size := Nat.lt_of_lt_of_le hb hkw.size
          have hb' : b < w.heap.size := hb
          have hnl := Hnm.out _ (List.mem_of_getElem? htk)
          have hne : b ≠ gs := by have := Hg.out; omega
          have htl : toks.length ≤ 10000000 := hn
          have Hkk := Lib.hid hkk
          clear htk hkk hb hkw
          go_wp2_with fail
          refine (refRight_c T hnl _).mono ?_
          rintro e w2 ⟨rfl, hf⟩
          have H2 := (Hh.out.alloc (tokC T) 48).ch0 hf
          have x0 : w2.cell? ⟨wr.heap.size, 0, none⟩ = some (.int .i64 T.kind) := H2.cell 0 rfl 0 rfl
          have HH2 := Lib.hid H2
          clear H2 hf
          by_cases hrt : right T = true
          · have hkt : T.kind = kd := by rw [Hkk.out, if_pos hrt]
            rw [hrt]
            have Hkt := Lib.hid hkt
            clear hrt hkt
            go_wp2_with fail
            go_meet
            exact ⟨by rw [Hkt.out], HH2.out⟩
          · have hkt : (0 : Int) = kd := by rw [Hkk.out, if_neg hrt]
            rw [show right T = false by simpa using hrt]
            have Hkt := Lib.hid hkt
            clear hrt hkt
            go_wp2_with fail
            go_meet
            exact ⟨by rw [← Hkt.out], HH2.out⟩
        · have hke : k = toks.length := by omega
          have hTe : tokC T = [.int .i64 0, .int .i64 en, .int .i64 0, .string ⟨#[]⟩] := by
            rw [HT.out]
            unfold Rf.next
            rw [List.getD_eq_getElem?_getD, List.getElem?_eq_none (by omega)]
            rfl
          have hkt : (0 : Int) = kd := by
            rw [Hkd.out]
            unfold Rf.kind
            rw [List.getElem?_eq_none (by omega)]
          have HTe := Lib.hid hTe
          have Hkt := Lib.hid hkt
          have hlti : ¬ (k : Int) < (toks.length : Int) := by omega
          clear hTe hkt hke
          go_wp2_with fail
          go_meet
          refine ⟨by rw [← Hkt.out], ?_⟩
          rw [HTe.out]
          exact Hhb.out
      case rest =>
        obtain ⟨rfl, hc⟩ := hcut
        clear c3 hcx z3 hgsw hgwl
        have hrl : ∀ y, (RSt gs r (.slice an r.nodes.length cn) (.slice af r.funcs.length cf) (.slice ae r.nest.length ce) (.slice (some ⟨gw, 0, none⟩) r.want.length cw) ma wt kvs ++ []) = y → True := fun _ _ => trivial
        clear hrl
        generalize hBx : wr.heap.size = Bx at hc ⊢
        clear hBx
        have c3 := hc.cell 2 rfl 3 rfl
        have hcx := hc.rcell 6 rfl Hgo.out _ Hxs.out
        have z3 := hc.froz 2 rfl 3
        have hcut1 := hc.cut 6 (k := rw_.length) rfl (by omega)
        have e1 : (ints r.want.reverse).take (rw_.length * 1) = ints rw_.reverse := by
          rw [Hwant.out]; simp [ints]
        simp only [List.set_cons_succ, List.set_cons_zero, RSt, List.cons_append] at hcut1
        rw [e1] at hcut1
        have h2 := ((hcut1.set_ 2 rfl 3 (.slice (some ⟨gw, 0, none⟩) rw_.length cw)).drew).drew
        simp only [List.set_cons_succ, List.set_cons_zero] at h2
        have H2 := Lib.hid h2
        clear hc h2 hcut1 e1
        go_wp2_with fail
        refine Reg.wp_region_text (by kernel_rfl) (by kernel_rfl) ?_
        go_wp2_with fail
        refine ⟨by kernel_rfl, ?_⟩
        go_wp2_with fail
        refine Reg.wp_region_text (by kernel_rfl) (by kernel_rfl) ?_
        go_wp2_with fail
        refine ⟨by kernel_rfl, ?_⟩
        generalize World.drew _ = W2 at H2 ⊢
        clear c3 hcx z3
        have hr2 : RI (fun k => k < g0) w W2 gs { r with want := rw_ } [.blk Bx 48 (tokC T), .blk g0 35 [.slice none 0 0, .slice none 0 0]] :=
          ⟨_, _, _, .slice (some ⟨gw, 0, none⟩) rw_.length cw, _, _, kvs, Hkv.out, by
            have h3 := H2.out
            have h4 : Hs (fun k => k < g0) w W2 ([.blk Bx 48 (tokC T), .blk g0 35 [.slice none 0 0, .slice none 0 0]] ++ (RSt gs { r with want := rw_ } (.slice an r.nodes.length cn) (.slice af r.funcs.length cf) (.slice ae r.nest.length ce) (.slice (some ⟨gw, 0, none⟩) rw_.length cw) ma wt kvs)) := by
              have e : kidRows (r.nodes.zip kvs) ++ [] = kidRows (r.nodes.zip kvs) := List.append_nil _
              rw [e] at h3
              exact h3
            exact h4.swap⟩
        have Hr2 := Lib.hid hr2
        have t0 : W2.cell? ⟨Bx, 0, none⟩ = some (.int .i64 T.kind) := H2.out.cell 0 rfl 0 rfl
        have t1 : W2.cell? ⟨Bx, 1, none⟩ = some (.int .i64 T.at_) := H2.out.cell 0 rfl 1 rfl
        have t2 : W2.cell? ⟨Bx, 2, none⟩ = some (.int .i64 T.value) := H2.out.cell 0 rfl 2 rfl
        have t3 : W2.cell? ⟨Bx, 3, none⟩ = some (.string T.name) := H2.out.cell 0 rfl 3 rfl
        have hs2 : ({ r with want := rw_ } : RS).sz ≤ 999999000 := by
          have h1 := Hsz.out
          have h2 := Hwl.out
          unfold RS.sz at h1 ⊢
          dsimp only
          omega
        have Hs2 := Lib.hid hs2
        clear hr2 hs2
        by_cases h1000 : 1000 ≤ wd
        · have hA : ∃ m s', gk = m + 1 ∧ ({ r with want := rw_ } : RS).act wd T = some s' ∧ s'.sz ≤ 900000000 ∧ Runs toks en m s' k x := by
            have h1 := Hstep.out
            unfold Rf.step at h1
            rw [if_pos h1000, ← HT.out] at h1
            cases ha : ({ r with want := rw_ } : RS).act wd T with
            | none => rw [ha] at h1; rcases h1 with ⟨h1, _⟩ | ⟨m, s', i', _, h1, _⟩ <;> cases h1
            | some s' =>
              rw [ha] at h1
              rcases h1 with ⟨h1, _⟩ | ⟨m, s'', i', h0, h1, h2, h3, h4⟩
              · cases h1
              · injection h1 with h1 h5
                subst h1 h5
                exact ⟨m, s', h0, rfl, h2, h4⟩
          obtain ⟨m, s', hgk, hact, hs1, hrun⟩ := hA
          have Hact := Lib.hid hact
          have Hrun := Lib.hid (And.intro hs1 hrun)
          have Hgk := Lib.hid hgk
          have e1000 : decide (1000 ≤ wd) = true := decide_eq_true h1000
          clear hgk hact hs1 hrun
          go_wp2_with fail
          refine (act_c Hr2.out Hs2.out wd h1000 T s' Hact.out).mono ?_
          rintro e w3 ⟨rfl, hr3⟩
          have Hr3 := Lib.hid hr3
          clear hr3
          go_wp2_with fail
          go_roundg m
          case measure => have := Hgk.out; omega
          case rel => exact ⟨k, rfl, s', Hrun.out.2, Hrun.out.1, hk, ri_drop Hr3.out⟩
        have e1000 : decide (1000 ≤ wd) = false := decide_eq_false h1000
        by_cases h100 : 100 ≤ wd
        · have e100 : decide (100 ≤ wd) = true := decide_eq_true h100
          obtain ⟨row, okb, hrule⟩ : ∃ row okb, Rf.rule wd kd (k == toks.length) = (row, okb) := ⟨_, _, rfl⟩
          have hrl : row.length ≤ 13 := by have := rule_len wd kd (k == toks.length); rw [hrule] at this; exact this
          have hst : (okb = false ∧ x = .error (Rf.fault toks en k)) ∨ (okb = true ∧ ∃ m, gk = m + 1 ∧ ({ r with want := row ++ rw_, decl := declOf wd kd row r.decl } : RS).sz ≤ 900000000 ∧ Runs toks en m { r with want := row ++ rw_, decl := declOf wd kd row r.decl } k x) := by
            have h1 := Hstep.out
            unfold Rf.step at h1
            rw [if_neg h1000, if_pos h100, ← Hkd.out, hrule] at h1
            dsimp only at h1
            cases okb with
            | false =>
              rw [if_neg (by decide)] at h1
              rcases h1 with ⟨_, h1⟩ | ⟨m, s'', i', h0, h1, _⟩
              · exact .inl ⟨rfl, h1⟩
              · cases h1
            | true =>
              rw [if_pos rfl] at h1
              rcases h1 with ⟨h1, _⟩ | ⟨m, s'', i', h0, h1, h2, h3, h4⟩
              · cases h1
              · injection h1 with h1 h5
                subst h1 h5
                exact .inr ⟨rfl, m, h0, h2, h4⟩
          have hov : ((k : Int) == (toks.length : Int)) = (k == toks.length) := by rw [Bool.eq_iff_iff]; simp; omega
          generalize (k == toks.length) = ov at hov hrule
          have Hrule := Lib.hid hrule
          have htl : toks.length ≤ 10000000 := hn
          clear hrule
          rcases hst with ⟨rfl, hx⟩ | ⟨rfl, m, hgk, hs1, hrun⟩
          case inl =>
            obtain ⟨ce, hce⟩ : ∃ ce, ce = if k = toks.length then (41 : Int) else 40 := ⟨_, rfl⟩
            have hfa : x = .error (T.at_, ce) := by
              rw [hx, HT.out, hce]
              unfold Rf.fault Rf.next
              rw [List.getD_eq_getElem?_getD]
              by_cases hkl : k = toks.length
              · rw [List.getElem?_eq_none (by omega), if_pos hkl]; rfl
              · rw [List.getElem?_eq_getElem (by omega), if_neg hkl]; rfl
            have Hfa := Lib.hid hfa
            have Hce := Lib.hid hce
            clear hfa hx hce
            go_wp2_with fail
            refine (refRule_c wd kd ov h100 _).mono ?_
            rintro e w3 ⟨a, nn, cap, rfl, hnn, hgive⟩
            rw [Hrule.out] at hgive ⊢
            have H3 := Lib.hid (hgive _ _ _ H2.out)
            have x0 : w3.cell? ⟨Bx, 0, none⟩ = some (.int .i64 T.kind) := H3.out.cell 1 rfl 0 rfl
            have x1 : w3.cell? ⟨Bx, 1, none⟩ = some (.int .i64 T.at_) := H3.out.cell 1 rfl 1 rfl
            have x2 : w3.cell? ⟨Bx, 2, none⟩ = some (.int .i64 T.value) := H3.out.cell 1 rfl 2 rfl
            have x3 : w3.cell? ⟨Bx, 3, none⟩ = some (.string T.name) := H3.out.cell 1 rfl 3 rfl
            clear hgive hnn hov
            go_wp2_with fail
            refine (refused_c k toks.length T _).mono ?_
            rintro e w4 ⟨rfl, hf⟩
            rw [← Hce.out]
            have H5 := H3.out.ch0 hf
            have u0 := H5.cell 2 rfl 0 rfl
            have u1 := H5.cell 2 rfl 1 rfl
            have y0 := H5.froz 2 rfl 0
            have y1 := H5.froz 2 rfl 1
            have HH5 := Lib.hid H5
            clear H5 hf
            go_wp2_with fail
            have h4 := (HH5.out.set_ 2 rfl 0 (.slice none 0 0)).set_ 2 rfl 1 (.slice none 0 0)
            have v0 := h4.cell 2 rfl 0 rfl
            have v1 := h4.cell 2 rfl 1 rfl
            refine bodyPost_ret (v := .tuple #[.agg #[.slice none 0 0, .slice none 0 0], .slice none 0 0, .int .i64 T.at_, .int .i64 ce]) (by simp [results, Try.results13, go_sem, v0, v1]) rfl ?_
            rw [Hfa.out]
            have eg := Hg.out.2
            subst eg
            exact ⟨rfl, gives_of (h4.sub (List.nil_sublist _))⟩
          case inr =>
            have Hrun := Lib.hid (And.intro hs1 hrun)
            have Hgk := Lib.hid hgk
            have Hrl := Lib.hid hrl
            clear hs1 hrun hgk hrl
            go_wp2_with fail
            refine (refRule_c wd kd ov h100 _).mono ?_
            rintro e w3 ⟨a, nn, cap, rfl, hnn, hgive⟩
            rw [Hrule.out] at hnn hgive ⊢
            obtain rfl : nn = row.length := hnn
            have H3 := Lib.hid (ri_give Hr2.out hgive)
            clear hgive hov
            go_wp2_with fail
            refine (want_c (l := row) H3.out (by have := Hrl.out; omega) Hs2.out).mono ?_
            rintro e w4 ⟨rfl, hri4⟩
            obtain ⟨nd4, fu4, ne4, wa4, ma4, wt4, kvs4, hkv4, h4⟩ := hri4
            have c6 := h4.cell 0 rfl 6 rfl
            have z6 := h4.froz 0 rfl 6
            have HH4 := Lib.hid h4
            have Hkv4 := Lib.hid hkv4
            clear h4 hkv4
            have fin : ∀ (W : World) (d : Int), d = declOf wd kd row r.decl → Hs (fun k => k < g0) w W (RSt gs { r with want := row ++ rw_, decl := d } nd4 fu4 ne4 wa4 ma4 wt4 kvs4 ++ (.row 3 1 (.slice a row.length cap) row.length (ints row) :: [.blk Bx 48 (tokC T), .blk g0 35 [.slice none 0 0, .slice none 0 0]])) → RInv toks en x w gs g0 m k W := by
              intro W d hd hW
              subst hd
              exact ⟨_, Hrun.out.2, Hrun.out.1, hk, ri_drop (ri_drop ⟨nd4, fu4, ne4, wa4, ma4, wt4, kvs4, Hkv4.out, hW⟩)⟩
            have Fin := Lib.hid fin
            clear fin
            by_cases h106 : wd = 106
            · subst h106
              by_cases k23 : kd = 23
              · subst k23
                go_wp2_with fail
                go_roundg m
                case measure => have := Hgk.out; omega
                case rel => exact ⟨k, rfl, Fin.out _ 1 rfl ((HH4.out.set_ 0 rfl 6 (.int .i64 3)).set_ 0 rfl 6 (.int .i64 1))⟩
              by_cases k24 : kd = 24
              · subst k24
                go_wp2_with fail
                go_roundg m
                case measure => have := Hgk.out; omega
                case rel => exact ⟨k, rfl, Fin.out _ 2 rfl ((HH4.out.set_ 0 rfl 6 (.int .i64 3)).set_ 0 rfl 6 (.int .i64 2))⟩
              have q23 : (kd == 23) = false := beq_eq_false_iff_ne.2 k23
              have q24 : (kd == 24) = false := beq_eq_false_iff_ne.2 k24
              have Hd := Lib.hid (show (3 : Int) = declOf 106 kd row r.decl by unfold declOf; rw [if_pos rfl, if_neg k24, if_neg k23])
              clear k23 k24
              go_wp2_with fail
              go_roundg m
              case measure => have := Hgk.out; omega
              case rel => exact ⟨k, rfl, Fin.out _ 3 Hd.out (HH4.out.set_ 0 rfl 6 (.int .i64 3))⟩
            have q106 : (wd == 106) = false := beq_eq_false_iff_ne.2 h106
            by_cases h105 : wd = 105
            · subst h105
              by_cases hrow : row = []
              · subst hrow
                go_wp2_with fail
                go_roundg m
                case measure => have := Hgk.out; omega
                case rel => exact ⟨k, rfl, Fin.out _ 0 rfl (HH4.out.set_ 0 rfl 6 (.int .i64 0))⟩
              have hr0 : row.length ≠ 0 := fun h => hrow (List.eq_nil_of_length_eq_zero h)
              have qr : ((row.length : Int) == 0) = false := beq_eq_false_iff_ne.2 (by omega)
              have Hd := Lib.hid (show r.decl = declOf 105 kd row r.decl by unfold declOf; rw [if_neg (by decide), if_neg (fun h => hrow h.2)])
              clear hrow hr0
              go_wp2_with fail
              go_roundg m
              case measure => have := Hgk.out; omega
              case rel => exact ⟨k, rfl, Fin.out _ r.decl Hd.out HH4.out⟩
            have q105 : (wd == 105) = false := beq_eq_false_iff_ne.2 h105
            have Hd := Lib.hid (show r.decl = declOf wd kd row r.decl by unfold declOf; rw [if_neg h106, if_neg (fun h => h105 h.1)])
            clear h105 h106
            go_wp2_with fail
            go_roundg m
            case measure => have := Hgk.out; omega
            case rel => exact ⟨k, rfl, Fin.out _ r.decl Hd.out HH4.out⟩
        have e100 : decide (100 ≤ wd) = false := decide_eq_false h100
        by_cases hkw : kd = wd
        · have hA : ∃ m, gk = m + 1 ∧ ({ r with want := rw_, last := T } : RS).sz ≤ 900000000 ∧ k + 1 ≤ toks.length ∧ Runs toks en m { r with want := rw_, last := T } (k + 1) x := by
            have h1 := Hstep.out
            unfold Rf.step at h1
            rw [if_neg h1000, if_neg h100, ← HT.out, ← Hkd.out, if_pos hkw] at h1
            rcases h1 with ⟨h1, _⟩ | ⟨m, s'', i', h0, h1, h2, h3, h4⟩
            · cases h1
            · injection h1 with h1 h5
              subst h1 h5
              exact ⟨m, h0, h2, h3, h4⟩
          obtain ⟨m, hgk, hs1, hk1, hrun⟩ := hA
          have Hrun := Lib.hid (And.intro hs1 hrun)
          have Hgk := Lib.hid hgk
          have q : (kd != wd) = false := by rw [bne_eq_false_iff_eq]; exact hkw
          have c8 := H2.out.cell 2 rfl 8 rfl
          have c9 := H2.out.cell 2 rfl 9 rfl
          have c10 := H2.out.cell 2 rfl 10 rfl
          have c11 := H2.out.cell 2 rfl 11 rfl
          have z8 := H2.out.froz 2 rfl 8
          have z9 := H2.out.froz 2 rfl 9
          have z10 := H2.out.froz 2 rfl 10
          have z11 := H2.out.froz 2 rfl 11
          have hbg := H2.out.ne (i := 0) (j := 2) rfl rfl (by decide) Bx rfl
          have hbg' : Bx ≠ gs := fun e => hbg (by rw [e]; rfl)
          have hkk2 : k ≤ 10000000 := by omega
          clear hgk hs1 hrun hkw hbg
          go_wp2_with fail
          go_roundg m
          case measure => have := Hgk.out; omega
          case rel =>
            refine ⟨k + 1, by go_num, { r with want := rw_, last := T }, Hrun.out.2, Hrun.out.1, hk1, ?_⟩
            have h5 := ((((H2.out.set_ 2 rfl 8 (.int .i64 T.kind)).set_ 2 rfl 9 (.int .i64 T.at_)).set_ 2 rfl 10 (.int .i64 T.value)).set_ 2 rfl 11 (.string T.name)).tail
            refine ⟨.slice an r.nodes.length cn, .slice af r.funcs.length cf, .slice ae r.nest.length ce, .slice (some ⟨gw, 0, none⟩) rw_.length cw, ma, wt, kvs, Hkv.out, ?_⟩
            have e : kidRows (r.nodes.zip kvs) ++ [] = kidRows (r.nodes.zip kvs) := List.append_nil _
            simp only [List.set_cons_succ, List.set_cons_zero, e] at h5
            exact Hs.swap (l := [.blk g0 35 [.slice none 0 0, .slice none 0 0]]) (m := RSt gs { r with want := rw_, last := T } (.slice an r.nodes.length cn) (.slice af r.funcs.length cf) (.slice ae r.nest.length ce) (.slice (some ⟨gw, 0, none⟩) rw_.length cw) ma wt kvs) h5
        · have hx : x = .error (Rf.fault toks en k) := by
            have h1 := Hstep.out
            unfold Rf.step at h1
            rw [if_neg h1000, if_neg h100, ← Hkd.out, if_neg hkw] at h1
            rcases h1 with ⟨_, h1⟩ | ⟨m, s'', i', h0, h1, _⟩
            · exact h1
            · cases h1
          obtain ⟨ce, hce⟩ : ∃ ce, ce = if k = toks.length then (41 : Int) else 40 := ⟨_, rfl⟩
          have hfa : x = .error (T.at_, ce) := by
            rw [hx, HT.out, hce]
            unfold Rf.fault Rf.next
            rw [List.getD_eq_getElem?_getD]
            by_cases hkl : k = toks.length
            · rw [List.getElem?_eq_none (by omega), if_pos hkl]; rfl
            · rw [List.getElem?_eq_getElem (by omega), if_neg hkl]; rfl
          have Hfa := Lib.hid hfa
          have Hce := Lib.hid hce
          have q : (kd != wd) = true := by rw [bne_iff_ne]; exact hkw
          clear hfa hx hkw hce
          go_wp2_with fail
          refine (refused_c k toks.length T _).mono ?_
          rintro e w3 ⟨rfl, hf⟩
          rw [← Hce.out]
          have H3 := H2.out.ch0 hf
          have u0 := H3.cell 1 rfl 0 rfl
          have u1 := H3.cell 1 rfl 1 rfl
          have y0 := H3.froz 1 rfl 0
          have y1 := H3.froz 1 rfl 1
          have HH3 := Lib.hid H3
          clear H3 hf
          go_wp2_with fail
          have h4 := (HH3.out.set_ 1 rfl 0 (.slice none 0 0)).set_ 1 rfl 1 (.slice none 0 0)
          have v0 := h4.cell 1 rfl 0 rfl
          have v1 := h4.cell 1 rfl 1 rfl
          refine bodyPost_ret (v := .tuple #[.agg #[.slice none 0 0, .slice none 0 0], .slice none 0 0, .int .i64 T.at_, .int .i64 ce]) (by simp [results, Try.results13, go_sem, v0, v1]) rfl ?_
          rw [Hfa.out]
          have eg := Hg.out.2
          subst eg
          exact ⟨rfl, gives_of (h4.sub (List.nil_sublist _))⟩
end Go.Proofs.Ythodjlhjfaccpaa
