/- The walks of the parser's rules: printed by a program of mine (wip/tools/rules.py). -/
import Derived.Test.YthodjlhjfaccpaaPt
set_option linter.unusedVariables false
set_option linter.unusedSimpArgs false
namespace Go.Proofs.Ythodjlhjfaccpaa
open Go Go.RowKit Mem Pm

section
variable {bd : Nat} {L Li : List Nat} {gp b b' : Nat} {s s' : PS} {w0 w w' : World}

/-- What holds ahead of each further parameter. -/
def FnInv (bd : Nat) (L : List Nat) (gp : Nat) (w : World) (Lk : List Nat) (s s3 : PS) (m : Nat) (wr : World) : Prop :=
  ∃ sm, Fx s3 sm ∧ s.function = (PS.params m sm).bind PS.fnTail ∧ sm.toks.length - sm.at_ ≤ m ∧ St bd L gp w Lk 999500000 sm wr
theorem St.resz (h : St bd L gp w0 Li b s w) (hs : s.sz ≤ b') : St bd L gp w0 Li b' s w := { h with sz := hs }


set_option maxRecDepth 100000 in
set_option maxHeartbeats 4000000 in
theorem function_s (h : St bd L gp w0 Li b s w) (hb : b ≤ 999990000) (hb3 : b + 3 * s.toks.length ≤ 999000000) : Calls Try.prog 34 #[.pointer (some ⟨gp, 0, none⟩)] w (PostM bd L gp w0 Li 1000000000 w (s.function)) := by
  have S0 := Lib.hid (St.start h.p h.li h.sz)
  have H := Lib.hid h
  have Hhb3 := Lib.hid hb3
  clear h hb3
  go_enter Try.func34, Try.ntmps34
  go_wp2_with fail
  refine (take_s S0.out (10) (by decide)).mono ?_
  rintro e w1 (⟨hm, rfl, hk⟩ | ⟨hm, rfl, hk, hS⟩)
  · exact ⟨rfl, .err (by first | (simp only [PS.function, PS.expect, PS.take, bind, Except.bind, pure, Except.pure, if_neg hm]; done) | (simp only [PS.function, PS.expect, PS.take, bind, Except.bind, pure, Except.pure, if_neg hm]; rfl) | rfl) (H.out.outk hk)⟩
  have M1 := Lib.hid hm
  clear hm
  have S1 := Lib.hid hS
  clear hk hS
  go_wp2_with fail
  refine (take_s (S1.out.local_ _) (1) (by decide)).mono ?_
  rintro e w2 (⟨hm, rfl, hk⟩ | ⟨hm, rfl, hk, hS⟩)
  · exact ⟨rfl, .err (by first | (simp only [PS.function, PS.expect, PS.take, bind, Except.bind, pure, Except.pure, if_pos M1.out, if_neg hm]; done) | (simp only [PS.function, PS.expect, PS.take, bind, Except.bind, pure, Except.pure, if_pos M1.out, if_neg hm]; rfl) | rfl | exact absurd M1.out hm) (H.out.outk hk)⟩
  have M2 := Lib.hid hm
  clear hm
  have B0 : Blk w2 w1.heap.size 48 [.int .i64 s.cur.kind, .int .i64 s.cur.at_, .int .i64 s.cur.value, .string s.cur.name] := (Blk.new w1 48 [.int .i64 s.cur.kind, .int .i64 s.cur.at_, .int .i64 s.cur.value, .string s.cur.name]).kp hk (.inr (by simp))
  have x0_0 : w2.cell? ⟨w1.heap.size, 0, none⟩ = some (.int .i64 s.cur.kind) := B0.cell 0
  have x0_1 : w2.cell? ⟨w1.heap.size, 1, none⟩ = some (.int .i64 s.cur.at_) := B0.cell 1
  have x0_2 : w2.cell? ⟨w1.heap.size, 2, none⟩ = some (.int .i64 s.cur.value) := B0.cell 2
  have x0_3 : w2.cell? ⟨w1.heap.size, 3, none⟩ = some (.string s.cur.name) := B0.cell 3
  replace B0 := Lib.hid B0
  have S2 := Lib.hid hS
  clear hk hS
  have p3 := B0.out.lt
  go_wp2_with fail
  refine (begin_s (S2.out.local_ _) (by omega) { kind := 1, at_ := s.cur.at_, where_ := s.skip.cur.at_, name := s.skip.cur.name } 0 (Nat.zero_le _)).mono ?_
  rintro e w3 ⟨rfl, hk, hS⟩
  clear x0_0 x0_1 x0_2 x0_3 B0 p3
  have S3 := Lib.hid hS
  clear hk hS
  go_wp2_with fail
  refine (take_s S3.out (40) (by decide)).mono ?_
  rintro e w4 (⟨hm, rfl, hk⟩ | ⟨hm, rfl, hk, hS⟩)
  · exact ⟨rfl, .err (by first | (simp only [PS.function, PS.expect, PS.take, bind, Except.bind, pure, Except.pure, if_pos M1.out, if_pos M2.out, if_neg hm]; done) | (simp only [PS.function, PS.expect, PS.take, bind, Except.bind, pure, Except.pure, if_pos M1.out, if_pos M2.out, if_neg hm]; rfl) | rfl | exact absurd M1.out hm | exact absurd M2.out hm) (H.out.outk hk)⟩
  have M3 := Lib.hid hm
  clear hm
  have S4 := Lib.hid hS
  clear hk hS
  have hl1 := kind_lt (s := s) (by rw [M1.out]; decide)
  have hl2 := kind_lt (s := s.skip) (by rw [M2.out]; decide)
  have hl3 := kind_lt (s := (s.skip.skip.begin_ { kind := 1, at_ := s.cur.at_, where_ := s.skip.cur.at_, name := s.skip.cur.name } 0)) (by rw [M3.out]; decide)
  generalize hs3 : (s.skip.skip.begin_ { kind := 1, at_ := s.cur.at_, where_ := s.skip.cur.at_, name := s.skip.cur.name } 0).skip = s3 at S4
  have hE : s.function = ((if s3.kind = 41 then pure s3 else s3.param) : M PS).bind fun s => (PS.params (s.toks.length - s.at_) s).bind PS.fnTail := by
    subst hs3
    have e1 : s.take 10 = .ok (s.cur, s.skip) := by unfold PS.take; rw [if_pos M1.out]
    have e2 : s.skip.take 1 = .ok (s.skip.cur, s.skip.skip) := by unfold PS.take; rw [if_pos M2.out]
    have e3 : (s.skip.skip.begin_ { kind := 1, at_ := s.cur.at_, where_ := s.skip.cur.at_, name := s.skip.cur.name } 0).expect 40 = .ok (s.skip.skip.begin_ { kind := 1, at_ := s.cur.at_, where_ := s.skip.cur.at_, name := s.skip.cur.name } 0).skip := by unfold PS.expect PS.take; rw [if_pos M3.out]; rfl
    unfold PS.function
    simp only [e1, e2, e3, bind, Except.bind, pure, Except.pure]
    split <;> rfl
  have h3 : s3.toks = s.toks ∧ s3.at_ ≤ s3.toks.length ∧ s3.sz ≤ b + 1 ∧ s3.nest = s.nest := by
    subst hs3
    refine ⟨rfl, hl3, ?_, rfl⟩
    have := H.out.sz
    have h1 : PS.sz ((s.skip.skip.begin_ { kind := 1, at_ := s.cur.at_, where_ := s.skip.cur.at_, name := s.skip.cur.name } 0).skip) = s.sz + 1 := begin_sz (s := s.skip.skip) _ _
    rw [h1]; omega
  obtain ⟨n0, f0, r0, hbe3⟩ : ∃ n f r, s3.begun = (n, f) :: r := by subst hs3; exact ⟨_, _, _, rfl⟩
  have H3 := Lib.hid h3
  have HE := Lib.hid hE
  have Hbe := Lib.hid hbe3
  have Hhb := Hhb3
  clear hs3 h3 hE hbe3 hl1 hl2 hl3 M1 M2 M3 S0 S1 S2 S3
  go_wp2_with fail
  refine (is_s S4.out 41).mono ?_
  rintro e w5 ⟨rfl, hk, hS⟩
  have S5 := Lib.hid hS
  clear hk hS S4
  by_cases hm : s3.kind = 41
  case' pos => have q1 : (s3.kind == 41) = true := by simpa using hm
  case' pos => have hX : ∃ sp, Fx s3 sp ∧ s.function = (PS.params (sp.toks.length - sp.at_) sp).bind PS.fnTail ∧ St bd Li gp w (w2.heap.size :: w1.heap.size :: Li) 999500000 sp w5 := ⟨s3, Fx.refl _, by rw [HE.out, if_pos hm]; rfl, S5.out.le (by have := Hhb.out; omega)⟩
  case' pos => obtain ⟨sp, hfx, he, hsp⟩ := hX
  case' neg => have q1 : (s3.kind == 41) = false := by simpa using hm
  case' neg => have Mn := Lib.hid hm
  case' neg => clear hm
  case' neg => go_wp2_with fail
  case' neg => refine (param_s S5.out (by have := Hhb.out; omega)).mono ?_
  case' neg => rintro e w6 (⟨f, hm, rfl, hk⟩ | ⟨s', hm, rfl, hk, hS⟩)
  case' neg.inl => exact ⟨rfl, .err (by rw [HE.out, if_neg Mn.out, hm]; rfl) (H.out.outk hk)⟩
  case' neg.inr => have hX : ∃ sp, Fx s3 sp ∧ s.function = (PS.params (sp.toks.length - sp.at_) sp).bind PS.fnTail ∧ St bd Li gp w (w2.heap.size :: w1.heap.size :: Li) 999500000 sp w6 := ⟨s', (param_ok hm).1, by rw [HE.out, if_neg Mn.out, hm]; rfl, hS.resz (by have h1 := (param_ok hm).1.sz; have h2 := H3.out; have := Hhb.out; rw [h2.1] at h1; omega)⟩
  case' neg.inr => obtain ⟨sp, hfx, he, hsp⟩ := hX
  case' neg.inr => clear hm hk hS
  all_goals
    have Hfx := Lib.hid hfx
    have Hep := Lib.hid he
    have Sp := Lib.hid hsp
    clear hfx he hsp
    go_wp2_with fail
    go_loopg [] (sp.toks.length - sp.at_) (fun m wr => FnInv bd Li gp w (w2.heap.size :: w1.heap.size :: Li) s s3 m wr)
    case atStart => exact ⟨sp, Hfx.out, Hep.out, Nat.le_refl _, Sp.out⟩
    case round =>
      obtain ⟨sm, hfx, he, hmm, hsm⟩ := hrel
      have Hfm := Lib.hid hfx
      have Hem := Lib.hid he
      have Hmm := Lib.hid hmm
      have Sm := Lib.hid hsm
      clear hfx he hmm hsm Sp Hep Hfx
      go_wp2_with fail
      refine (is_s Sm.out 41).mono ?_
      rintro e w7 ⟨rfl, hk, hS⟩
      have S7 := Lib.hid hS
      clear hk hS
      by_cases hm : sm.kind = 41
      case neg =>
        have q2 : (sm.kind == 41) = false := by simpa using hm
        have Mn2 := Lib.hid hm
        clear hm
        go_wp2_with fail
        refine (take_s S7.out 46 (by decide)).mono ?_
        rintro e w8 (⟨hm, rfl, hk⟩ | ⟨hm, rfl, hk, hS⟩)
        · refine ⟨rfl, .err ?_ (H.out.outk hk)⟩
          rw [Hem.out]
          cases gk with
          | zero => simp only [PS.params, PS.fnTail, PS.expect, PS.take, bind, Except.bind, if_neg Mn2.out]
          | succ n => simp only [PS.params, PS.expect, PS.take, bind, Except.bind, if_neg Mn2.out, if_neg hm]
        have hlt := kind_lt (s := sm) (by rw [hm]; decide)
        have hgk : ∃ n, gk = n + 1 := ⟨gk - 1, by have := Hmm.out; omega⟩
        obtain ⟨n, rfl⟩ := hgk
        have M8 := Lib.hid hm
        have S8 := Lib.hid hS
        clear hk hS hm
        go_wp2_with fail
        refine (param_s S8.out (by have := Hhb.out; omega)).mono ?_
        rintro e w9 (⟨f, hm, rfl, hk⟩ | ⟨s', hm, rfl, hk, hS⟩)
        · refine ⟨rfl, .err ?_ (H.out.outk hk)⟩
          rw [Hem.out]
          simp only [PS.params, PS.expect, PS.take, bind, Except.bind, pure, Except.pure, if_neg Mn2.out, if_pos M8.out, hm]
        have Mp := Lib.hid hm
        have S9 := Lib.hid hS
        clear hk hS hm
        go_wp2_with fail
        go_roundg n
        case measure => omega
        case rel =>
          have fx := (Fx.skip hlt).trans (param_ok Mp.out).1
          have fx3 := Hfm.out.trans fx
          refine ⟨s', fx3, ?_, ?_, S9.out.resz ?_⟩
          · rw [Hem.out]
            simp only [PS.params, PS.expect, PS.take, bind, Except.bind, pure, Except.pure, if_neg Mn2.out, if_pos M8.out, Mp.out]
          · have h1 := fx.toks
            have h2 := (param_ok Mp.out).2
            have h4 : sm.skip.at_ = sm.at_ + 1 := rfl
            have h5 := Hmm.out
            rw [h1]; omega
          · have h1 := fx3.sz
            have h2 := H3.out
            have h4 := Hhb.out
            rw [h2.1] at h1; omega
      have hpar : PS.params gk sm = .ok sm := by cases gk with | zero => rfl | succ n => simp only [PS.params, if_pos hm]
      have hF : s.function = PS.fnTail sm := by rw [Hem.out, hpar]; rfl
      have HF := Lib.hid hF
      have q2 : (sm.kind == 41) = true := by simpa using hm
      have M7 := Lib.hid hm
      clear hm hpar hF
      go_wp2_with fail
      refine (take_s S7.out 41 (by decide)).mono ?_
      rintro e w8 (⟨hm, rfl, hk⟩ | ⟨hm, rfl, hk, hS⟩)
      · exact absurd M7.out hm
      have S8 := Lib.hid hS
      clear hk hS hm
      have hl7 := kind_lt (s := sm) (by rw [M7.out]; decide)
      have hfx8 := Hfm.out.trans (Fx.skip hl7)
      have H8 := Lib.hid hfx8
      clear hfx8 hl7
      go_wp2_with fail
      refine (is_s S8.out 42).mono ?_
      rintro e w9 ⟨rfl, hk, hS⟩
      have S9 := Lib.hid hS
      clear hk hS
      by_cases hm : sm.skip.kind = 42
      case pos =>
        have q3 : (sm.skip.kind == 42) = true := by simpa using hm
        have HG : s.function = .ok (({ sm.skip with nest := sm.skip.nest ++ [0] } : PS).do_ [.block, .functionEnd]) := by
          rw [HF.out]; simp only [PS.fnTail, PS.expect, PS.take, bind, Except.bind, pure, Except.pure, if_pos M7.out, if_pos hm]
        have HG := Lib.hid HG
        clear hm
        obtain ⟨ta, tc, td, nd, fu, lo, be, ne, kvs, hp⟩ := S9.out.p
        have hc := pcells hp.blk
        have z9 := hp.blk.frozen 9
        have hnl : (sm.skip).nest.length ≤ 1000000000 := by have := S9.out.sz; unfold PS.sz at this; (try dsimp only at this ⊢); omega
        have hgs := hp.blk.lt
        have hgs2 : gp ≠ w9.heap.size := by omega
        have HP := Lib.hid hp
        obtain ⟨i0, hi0, hz0, hz1, hz2⟩ := info_parts infoInt
        clear hp
        go_wp2_with (at_builtin; refine wp_push rfl _ _ 33 rfl 3 i0 _ 1 8 (by kernel_rfl) hi0 hz0 hz1 hz2 rfl (Nat.succ_pos _) (Nat.le_of_ble_eq_true rfl) (Out bd (w2.heap.size :: w1.heap.size :: Li)) ne (sm.skip).nest.length (ints (sm.skip).nest) [.int .i64 0] w9.heap.size rfl rfl rfl rfl hnl ?c1 ?c2 ?c3 ?_)
        case c1 => exact HP.out.nest.alloc _
        case c2 => exact fun k hk => Nat.lt_of_lt_of_le (out_lt S9.out.p S9.out.li k hk) (by simp)
        case c3 => exact heap_alloc_new w9 _
        intro v1 wa hown1 hch hat
        obtain ⟨a1, cap1, rfl, _, _⟩ := hown1.form
        have hch0 := ((Ch.refl (fun k => ne.ownBlock = some k) w9).alloc (.cells #[.int .i64 0] 3)).trans hch
        have hb1 := HP.out.blk.ch hch0 (HP.out.nest.ne_blk HP.out.blk (by decide))
        have hc1 := pcells hb1
        have z91 := hb1.frozen 9
        have Hb1 := Lib.hid hb1
        have Hch0 := Lib.hid hch0
        have Hown1 := Lib.hid hown1
        have Hat := Lib.hid hat
        have hch34 : Ch (fun k => k = gp) wa (wa.setCell ⟨gp, 9, none⟩ (.slice a1 ((sm.skip).nest.length + 1) cap1)) := Ch.setCell (S := fun k => k = gp) (p := ⟨gp, 9, none⟩) (Ch.refl _ _) rfl _
        have P1 := HP.out.updNest (ne' := .slice a1 ((sm.skip).nest.length + 1) cap1) (l := (sm.skip).nest ++ [0]) ((Hch0.out.mono fun _ => Or.inr).trans (hch34.mono fun _ => Or.inl)) (Hb1.out.set_ 9 _) (by
          have h1 := Hown1.out.ch hch34 (fun g hg he => Hown1.out.ne_blk Hb1.out (by decide) (he ▸ hg))
          simpa [ints] using h1) (by
          rcases Hat.out with h1 | h1
          · exact .inl h1
          · exact .inr fun g hg => by have := h1 g hg; first | omega | (simp at this; omega))
        have SN := Lib.hid (S9.out.next (b' := 999700000) (kp_row S9.out.p S9.out.li HP.out.nest ((Hch0.out.mono fun _ => Or.inr).trans (hch34.mono fun _ => Or.inl))) ⟨_, _, _, _, _, _, _, _, _, P1⟩ (by have := S9.out.sz; simp only [PS.sz, List.length_append, List.length_cons, List.length_nil] at this ⊢; omega))
        clear hc z9 hb1 hch0 hown1 hch hat P1 hch34
        go_wp2_with fail
        refine (do_s SN.out (by omega) [.block, .functionEnd] 2 rfl (by decide) _ (by simp) _ rfl).mono ?_
        rintro e wz ⟨rfl, hk, hS⟩
        have SZ := Lib.hid hS
        clear hk hS
        go_wp2_with fail
        go_end0
        exact .ok (H.out.out (SZ.out.le (by omega))) HG.out
      have q3 : (sm.skip.kind == 42) = false := by simpa using hm
      have Mk := Lib.hid hm
      clear hm
      go_wp2_with fail
      have hbeq : sm.skip.begun = (n0, f0) :: r0 := H8.out.begun.trans Hbe.out
      obtain ⟨gb, capb, c7, hg1, hg2, _, _⟩ := S9.out.top hbeq
      have hbl : sm.skip.begun.length = r0.length + 1 := by rw [hbeq]; rfl
      have hnb : sm.skip.begun.length ≤ 1000000000 := by have := S9.out.sz; unfold PS.sz at this; omega
      have hi0 : (0 : Int) ≤ (sm.skip.begun.length : Int) - 1 := by omega
      have hi1 : (sm.skip.begun.length : Int) - 1 < (sm.skip.begun.length : Int) := by omega
      have hi2 : ((sm.skip.begun.length : Int) - 1).toNat = r0.length := by omega
      have Hbq := Lib.hid hbeq
      obtain ⟨nb, hnbe⟩ : ∃ nb, nb = sm.skip.begun.length := ⟨_, rfl⟩
      rw [← hnbe] at c7 hbl hnb
      have hc7 := c7
      have Hc7 := Lib.hid hc7
      have k0 : (0 : Int) ≤ (nb : Int) - 1 := by omega
      have k1 : (nb : Int) - 1 < (nb : Int) := by omega
      have k2 : ((nb : Int) - 1).toNat = r0.length := by omega
      have kw : IntKind.i64.wrap ((nb : Int) - 1) = (nb : Int) - 1 := by rw [IntKind.wrap_i64]; omega
      have k3 : 1 ≤ nb := by omega
      have k4 : (1 : Int) ≤ (nb : Int) := by omega
      have Hne := Lib.hid hnbe
      clear hi0 hi1 hi2 hnbe
      have Hbl := Lib.hid hbl
      clear hbeq hc7 hbl
      cases hty : sm.skip.typed with
      | error f =>
        have Hty := Lib.hid hty
        clear hty
        refine Reg.wp_region_doom [_, _, _, _, _, _, _, _, _, _, _] [_, _, _, _] (by kernel_rfl) (by kernel_rfl) (fun c a d v w' h => by cases d <;> exact h) ?_
        go_wp2_with fail
        refine ⟨by kernel_rfl, ?_⟩
        go_wp2_with fail
        refine (typed_s S9.out.drew (by have := Hhb.out; omega)).mono ?_
        rintro e w10 (⟨f', hm, rfl, hk⟩ | ⟨d, a, hm, rfl, hk, hS⟩)
        · rw [Hty.out] at hm
          injection hm with hm
          subst hm
          exact ⟨rfl, .err (by rw [HF.out]; simp only [PS.fnTail, PS.expect, PS.take, bind, Except.bind, pure, Except.pure, if_pos M7.out, if_neg Mk.out, Hty.out]) (H.out.outk hk)⟩
        · rw [Hty.out] at hm; cases hm
      | ok v =>
        have Hty := Lib.hid hty
        clear hty
        go_region_held3 (fun w' => w'.cell? ⟨gp, 7, none⟩ = some (.slice (some ⟨gb, 0, none⟩) nb capb)) (go_keep)
          (first
            | (go_at_call 45
               refine (typed_s7 S9.out.drew (by have := Hhb.out; omega)).mono ?_
               rintro e w10 ⟨(⟨f', hm, rfl, hk⟩ | ⟨d, a, hm, rfl, hk, hS⟩), h7⟩
               · rw [Hty.out] at hm; cases hm
               have MT := Lib.hid hm
               have x7 : w10.cell? ⟨gp, 7, none⟩ = some (.slice (some ⟨gb, 0, none⟩) nb capb) := h7.trans Hc7.out
               have S10 := Lib.hid hS
               obtain ⟨gb2, capb2, c72, _, _, hbc2, hbz2⟩ := S10.out.top Hbq.out
               have hgb : gb2 = gb := by have h1 := c72.symm.trans x7; simpa using (Value.slice.inj (Option.some.inj h1)).1
               subst hgb
               have x4 : w10.cell? ⟨gb2, r0.length * 11 + 4, none⟩ = some (.int .i64 n0.decl) := hbc2 4 _ rfl
               have z4 := hbz2 (r0.length * 11 + 4)
               clear hm hk hS h7 c72 hbc2 hbz2))
        have ST := S10.out.topSet Hbq.out (n' := { n0 with decl := d }) (j := 4) (u := .int .i64 d) rfl (x7.trans (by rw [Hne.out]))
        have HG : s.function = .ok (({ ({ ({ sm.skip with at_ := a } : PS) with begun := ({ n0 with decl := d }, f0) :: r0 } : PS) with nest := sm.skip.nest ++ [0] } : PS).do_ [.block, .functionEnd]) := by
          rw [HF.out]; simp only [PS.fnTail, PS.expect, PS.take, bind, Except.bind, pure, Except.pure, if_pos M7.out, if_neg Mk.out, MT.out, PS.top, Hbq.out]
        have HG := Lib.hid HG
        obtain ⟨W, hW⟩ : ∃ W, W = w10.setCell ⟨gb2, r0.length * 11 + 4, none⟩ (.int .i64 d) := ⟨_, rfl⟩
        rw [← hW] at ST ⊢
        have S11 := Lib.hid ST
        clear ST hW x7 x4 z4
        obtain ⟨ta, tc, td, nd, fu, lo, be, ne, kvs, hp⟩ := S11.out.p
        have hc := pcells hp.blk
        have z9 := hp.blk.frozen 9
        have hnl : (({ ({ sm.skip with at_ := a } : PS) with begun := ({ n0 with decl := d }, f0) :: r0 } : PS)).nest.length ≤ 1000000000 := by have := S11.out.sz; unfold PS.sz at this; (try dsimp only at this ⊢); omega
        have hgs := hp.blk.lt
        have hgs2 : gp ≠ W.heap.size := by omega
        have HP := Lib.hid hp
        obtain ⟨i0, hi0, hz0, hz1, hz2⟩ := info_parts infoInt
        clear hp
        go_wp2_with (at_builtin; refine wp_push rfl _ _ 33 rfl 3 i0 _ 1 8 (by kernel_rfl) hi0 hz0 hz1 hz2 rfl (Nat.succ_pos _) (Nat.le_of_ble_eq_true rfl) (Out bd (w2.heap.size :: w1.heap.size :: Li)) ne (({ ({ sm.skip with at_ := a } : PS) with begun := ({ n0 with decl := d }, f0) :: r0 } : PS)).nest.length (ints (({ ({ sm.skip with at_ := a } : PS) with begun := ({ n0 with decl := d }, f0) :: r0 } : PS)).nest) [.int .i64 0] W.heap.size rfl rfl rfl rfl hnl ?c1 ?c2 ?c3 ?_)
        case c1 => exact HP.out.nest.alloc _
        case c2 => exact fun k hk => Nat.lt_of_lt_of_le (out_lt S11.out.p S11.out.li k hk) (by simp)
        case c3 => exact heap_alloc_new W _
        intro v1 wa hown1 hch hat
        obtain ⟨a1, cap1, rfl, _, _⟩ := hown1.form
        have hch0 := ((Ch.refl (fun k => ne.ownBlock = some k) W).alloc (.cells #[.int .i64 0] 3)).trans hch
        have hb1 := HP.out.blk.ch hch0 (HP.out.nest.ne_blk HP.out.blk (by decide))
        have hc1 := pcells hb1
        have z91 := hb1.frozen 9
        have Hb1 := Lib.hid hb1
        have Hch0 := Lib.hid hch0
        have Hown1 := Lib.hid hown1
        have Hat := Lib.hid hat
        have hch34 : Ch (fun k => k = gp) wa (wa.setCell ⟨gp, 9, none⟩ (.slice a1 ((({ ({ sm.skip with at_ := a } : PS) with begun := ({ n0 with decl := d }, f0) :: r0 } : PS)).nest.length + 1) cap1)) := Ch.setCell (S := fun k => k = gp) (p := ⟨gp, 9, none⟩) (Ch.refl _ _) rfl _
        have P1 := HP.out.updNest (ne' := .slice a1 ((({ ({ sm.skip with at_ := a } : PS) with begun := ({ n0 with decl := d }, f0) :: r0 } : PS)).nest.length + 1) cap1) (l := (({ ({ sm.skip with at_ := a } : PS) with begun := ({ n0 with decl := d }, f0) :: r0 } : PS)).nest ++ [0]) ((Hch0.out.mono fun _ => Or.inr).trans (hch34.mono fun _ => Or.inl)) (Hb1.out.set_ 9 _) (by
          have h1 := Hown1.out.ch hch34 (fun g hg he => Hown1.out.ne_blk Hb1.out (by decide) (he ▸ hg))
          simpa [ints] using h1) (by
          rcases Hat.out with h1 | h1
          · exact .inl h1
          · exact .inr fun g hg => by have := h1 g hg; first | omega | (simp at this; omega))
        have SN := Lib.hid (S11.out.next (b' := 999700000) (kp_row S11.out.p S11.out.li HP.out.nest ((Hch0.out.mono fun _ => Or.inr).trans (hch34.mono fun _ => Or.inl))) ⟨_, _, _, _, _, _, _, _, _, P1⟩ (by have := S11.out.sz; simp only [PS.sz, List.length_append, List.length_cons, List.length_nil] at this ⊢; omega))
        clear hc z9 hb1 hch0 hown1 hch hat P1 hch34
        go_wp2_with fail
        refine (do_s SN.out (by omega) [.block, .functionEnd] 2 rfl (by decide) _ (by simp) _ rfl).mono ?_
        rintro e wz ⟨rfl, hk, hS⟩
        have SZ := Lib.hid hS
        clear hk hS
        go_wp2_with fail
        go_end0
        exact .ok (H.out.out (SZ.out.le (by omega))) HG.out
end
end Go.Proofs.Ythodjlhjfaccpaa
