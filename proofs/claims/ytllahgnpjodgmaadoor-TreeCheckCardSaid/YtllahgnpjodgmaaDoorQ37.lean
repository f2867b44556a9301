/- quernref3.Check. -/
import Derived.Test.YtllahgnpjodgmaaDoorQ33
import Derived.Test.YtllahgnpjodgmaaDoorQ35
import Derived.Test.YtllahgnpjodgmaaDoorQ36
import Derived.Deep.DeepCutAuto
set_option linter.unusedVariables false
namespace Go.Proofs.YtllahgnpjodgmaaDoor
open Go Go.RowKit Mem Pm
theorem scan_step {nodes : List Nd} {m i total : Nat} {N : Nd} (hN : nodes.getD i {} = N) : Tm.scan nodes (m + 1) i total = (decide (total + N.kids.length ≤ nodes.length) && N.kids.all (fun k => decide (0 ≤ k) && decide (k < (i : Int))) &&
      Tm.kidsOk N.kind (N.kids.map (Tm.kindOf nodes)) && Tm.fields N && Tm.scan nodes m (i + 1) (total + N.kids.length)) := by rw [← hN]; rfl
theorem ref_none {nodes : List Nd} {funcs : List Int} (h : Tm.scan nodes nodes.length 0 0 = false) : Tm.refCheck nodes funcs = false := by unfold Tm.refCheck; rw [h]; rfl

set_option maxRecDepth 100000 in
set_option maxHeartbeats 16000000 in
theorem refCheck_c (nodes : List Nd) (funcs : List Int) (nd fu : Value) (w : World) (h : TreeRd w nodes funcs nd fu) (hs : Small nodes funcs) (hkb : ∀ n ∈ nodes, n.kids.length ≤ 1000000000) :
    Calls Tryd.prog 27 #[.agg #[nd, fu]] w fun e w' => e = .returned (.int .i64 (errT (Tm.refCheck nodes funcs))) ∧ Fr w w' := by
  obtain ⟨an, cn, rfl, hcn⟩ : ∃ an cn, nd = .slice an nodes.length cn ∧ nodes.length ≤ cn := by obtain ⟨_, _, ⟨a, c, h1, h2, _⟩, _⟩ := h.nds; exact ⟨a, c, h1, h2⟩
  obtain ⟨af, cf, rfl, hcf⟩ : ∃ af cf, fu = .slice af funcs.length cf ∧ funcs.length ≤ cf := by obtain ⟨a, c, h1, h2, _⟩ := h.funcs; exact ⟨a, c, h1, h2⟩
  have HT := Lib.hid h
  have HS := Lib.hid hs
  have HKb := Lib.hid hkb
  have H1 := Lib.hid ((Hs.start w).alloc [.slice an nodes.length cn, .slice af funcs.length cf] 25)
  have hnl : nodes.length ≤ 9223372036854775807 := by have := hs.nl; omega
  have hfl : funcs.length ≤ 9223372036854775807 := hs.fl
  obtain ⟨G, hG⟩ : ∃ G : Bool, G = Tm.refCheck nodes funcs := ⟨_, rfl⟩
  rw [← hG]
  have HG := Lib.hid hG
  clear h hs hG hkb
  go_enter Tryd.func27, Tryd.ntmps27
  go_wp2_with fail
  generalize World.alloc w _ = W0 at H1 ⊢
  obtain ⟨gt, hgt⟩ : ∃ gt, gt = w.heap.size := ⟨_, rfl⟩
  rw [← hgt]
  have H1 : Hid (Hs (fun k => k < w.heap.size) w W0 [.blk gt 25 [.slice an nodes.length cn, .slice af funcs.length cf]]) := Lib.hid (by rw [hgt]; exact H1.out)
  clear hgt
  go_loopg [3, 4] nodes.length (fun m v3 v4 wr => ∃ i total : Nat, i + m = nodes.length ∧ v4 = .int .i64 (i : Int) ∧ v3 = .int .i64 (total : Int) ∧ total ≤ nodes.length ∧ (∀ j, j < i → ∀ k ∈ (nodes.getD j {}).kids, 0 ≤ k ∧ k < (j : Int)) ∧
    Tm.scan nodes m i total = Tm.scan nodes nodes.length 0 0 ∧ Hs (fun k => k < w.heap.size) w wr [.blk gt 25 [.slice an nodes.length cn, .slice af funcs.length cf]])
  case atStart => exact ⟨0, 0, by omega, rfl, rfl, Nat.zero_le _, (fun j h => absurd h (Nat.not_lt_zero _)), rfl, H1.out⟩
  case round =>
  obtain ⟨i, total, him, rfl, rfl, htot, hlow, hsc, hh⟩ := hrel
  have HLow := Lib.hid hlow
  have HSc := Lib.hid hsc
  have Hh := Lib.hid hh
  have b0 := hh.cell 0 rfl 0 rfl
  have b1 := hh.cell 0 rfl 1 rfl
  have HFr := Lib.hid (fr_of_kp hh.kp)
  clear hlow hsc hh
  by_cases hlt : i < nodes.length
  case pos =>
    have hki : (i : Int) < (nodes.length : Int) := by omega
    have hk0 : (0 : Int) ≤ (i : Int) := by omega
    obtain ⟨g, off, ak, ck, rfl, hkr, x0, x1, x2, x3, x4, x5, x6, x7, x8, x9⟩ := node_at HT.out hlt
    have X9w := Lib.hid x9
    replace x9 := fr_cell HFr.out x9
    have HX := Lib.hid (And.intro x0 (And.intro x1 (And.intro x2 (And.intro x3 (And.intro x4 (And.intro x5 (And.intro x6 (And.intro x7 x8))))))))
    have hkb := HKb.out _ (List.getElem_mem hlt)
    have hnb := HS.out.each _ (List.getElem_mem hlt)
    have hgd : nodes.getD i {} = nodes[i] := Tm.getD_get hlt
    have hgs := scan_step (m := gk - 1) (total := total) hgd
    rw [show gk - 1 + 1 = gk by omega] at hgs
    have HGd := Lib.hid hgd
    have HGs := Lib.hid hgs
    have HKr := Lib.hid hkr
    have HNb := Lib.hid hnb
    clear hgd hgs hkr hnb x0 x1 x2 x3 x4 x5 x6 x7 x8
    generalize nodes[i] = N at *
    have hki2 : (i : Int) ≤ 100000000 := by have := HS.out.nl; omega
    have hT2 : (total : Int) ≤ 100000000 := by have := HS.out.nl; omega
    have hNk : (N.kids.length : Int) ≤ 9223372036854775807 := by have := HNb.out.1; omega
    have nofin : Tm.scan nodes gk i total = false → errT G = 30 := by
      intro h0
      rw [HG.out, ref_none (by rw [← HSc.out]; exact h0)]
      rfl
    have NF := Lib.hid nofin
    clear nofin
    have hNk2 : (N.kids.length : Int) ≤ 1000000000 := by omega
    by_cases hbig : nodes.length < total + N.kids.length
    · have hb1 : (nodes.length : Int) < (total : Int) + (N.kids.length : Int) := by omega
      have HF := Lib.hid (NF.out (by rw [HGs.out, decide_eq_false (by omega)]; rfl))
      go_wp2_with fail
      go_ret
      exact ⟨by rw [HF.out]; rfl, HFr.out⟩
    · have hb1 : ¬ (nodes.length : Int) < (total : Int) + (N.kids.length : Int) := by omega
      obtain ⟨wo, rfl⟩ : ∃ wo : World, wo = wr := ⟨_, rfl⟩
      obtain ⟨ko, rfl⟩ : ∃ ko : Nat, ko = gk := ⟨_, rfl⟩
      go_wp2_with fail
      go_loopg [5] N.kids.length (fun m v5 wx => ∃ j : Nat, j + m = N.kids.length ∧ v5 = .int .i64 (j : Int) ∧ wx = wo ∧ (N.kids.take j).all (fun k => decide (0 ≤ k) && decide (k < (i : Int))) = true)
      case atStart => exact ⟨0, by omega, rfl, rfl, rfl⟩
      case round =>
      obtain ⟨j, hj, rfl, rfl, hall⟩ := hrel
      have HAll := Lib.hid hall
      clear hall
      by_cases hjl : j < N.kids.length
      case pos =>
        have hji : (j : Int) < (N.kids.length : Int) := by omega
        have hj0 : (0 : Int) ≤ (j : Int) := by omega
        have hx : N.kids[j]? = some N.kids[j] := List.getElem?_eq_getElem hjl
        have hin : N.kids[j] ∈ N.kids := List.getElem_mem hjl
        obtain ⟨gk', ok', rfl, cx⟩ := rdS_int (HKr.out.fr HFr.out) hx
        have htk : (N.kids.take (j + 1)).all (fun k => decide (0 ≤ k) && decide (k < (i : Int))) = (decide (0 ≤ N.kids[j]) && decide (N.kids[j] < (i : Int))) := by
          rw [List.take_add_one, hx, List.all_append, HAll.out]; simp
        have HTk := Lib.hid htk
        have HIn := Lib.hid hin
        clear hx htk hin
        generalize N.kids[j] = x at cx HTk HIn
        by_cases hx0 : x < 0
        · have hx1 : decide (x < 0) = true := decide_eq_true hx0
          have HF := Lib.hid (NF.out (by
            rw [HGs.out, (List.all_eq_false.2 ⟨x, HIn.out, by simp; omega⟩ : N.kids.all _ = false)]; simp))
          go_wp2_with fail
          go_ret
          exact ⟨by rw [HF.out]; rfl, HFr.out⟩
        · by_cases hxi : (i : Int) ≤ x
          · have HF := Lib.hid (NF.out (by
              rw [HGs.out, (List.all_eq_false.2 ⟨x, HIn.out, by simp; omega⟩ : N.kids.all _ = false)]; simp))
            go_wp2_with fail
            go_ret
            exact ⟨by rw [HF.out]; rfl, HFr.out⟩
          · go_wp2_with fail
            go_roundg (gk - 1)
            case measure => omega
            case rel => exact ⟨j + 1, by omega, by go_num, rfl, by rw [HTk.out]; simp; omega⟩
      case neg =>
        have hj2 : ¬ (j : Int) < (N.kids.length : Int) := by omega
        have hall : N.kids.all (fun k => decide (0 ≤ k) && decide (k < (i : Int))) = true := by
          have := HAll.out
          rwa [List.take_of_length_le (by omega)] at this
        have HA := Lib.hid hall
        clear hall
        go_upto_region 14 with fail
        obtain ⟨x0, x1, x2, x3, x4, x5, x6, x7, x8⟩ := HX.out
        replace x0 := fr_cell HFr.out x0
        replace x1 := fr_cell HFr.out x1
        replace x2 := fr_cell HFr.out x2
        replace x3 := fr_cell HFr.out x3
        replace x4 := fr_cell HFr.out x4
        replace x5 := fr_cell HFr.out x5
        replace x6 := fr_cell HFr.out x6
        replace x7 := fr_cell HFr.out x7
        replace x8 := fr_cell HFr.out x8
        have hin : ∀ x ∈ N.kids, 0 ≤ x ∧ x < (nodes.length : Int) := fun x hx => by
          have := List.all_eq_true.1 HA.out x hx
          simp only [Bool.and_eq_true, decide_eq_true_eq] at this
          omega
        have HIn := Lib.hid hin
        have hnn := HNb.out.2
        have hn1 := HNb.out.1
        have Hd := Lib.hid Hh.out.drew
        have hTr := HT.out.fr (HFr.out.drew)
        have HTr := Lib.hid hTr
        have HKr2 := Lib.hid (HKr.out.fr (HFr.out.drew))
        clear hin hTr
        refine Reg.wp_region_text (by kernel_rfl) (by kernel_rfl) ?_
        go_wp2_with fail
        refine (rKids_c nodes funcs _ _ _ HTr.out N ak ck HKr2.out HIn.out hn1 hnl).mono ?_
        rintro e w2 ⟨rfl, hf2⟩
        have H2 := Lib.hid (Hd.out.ch0 hf2)
        have h20 := H2.out.cell 0 rfl 0 rfl
        have hfr2 := fr_of_kp H2.out.kp
        obtain ⟨x0, x1, x2, x3, x4, x5, x6, x7, x8⟩ := HX.out
        replace x0 := fr_cell hfr2 x0
        replace x1 := fr_cell hfr2 x1
        replace x2 := fr_cell hfr2 x2
        replace x3 := fr_cell hfr2 x3
        replace x4 := fr_cell hfr2 x4
        replace x5 := fr_cell hfr2 x5
        replace x6 := fr_cell hfr2 x6
        replace x7 := fr_cell hfr2 x7
        replace x8 := fr_cell hfr2 x8
        have x9' := fr_cell (HFr.out.drew.trans hf2) X9w.out
        have HF2 := Lib.hid hfr2
        clear hf2 hfr2 x9
        cases hko : Tm.kidsOk N.kind (N.kids.map (Tm.kindOf nodes)) with
        | false =>
          have HF := Lib.hid (NF.out (by rw [HGs.out, hko]; simp))
          go_wp2_with fail
          refine ⟨by kernel_rfl, ?_⟩
          go_wp2_with fail
          go_ret
          exact ⟨by rw [HF.out]; rfl, HF2.out⟩
        | true =>
          go_wp2_with fail
          refine (rFields_c N _ hnn _).mono ?_
          rintro e w3 ⟨rfl, hf3⟩
          have H3 := Lib.hid (H2.out.ch0 hf3)
          clear hf3
          cases hfo : Tm.fields N with
          | false =>
            have HF := Lib.hid (NF.out (by rw [HGs.out, hfo]; simp))
            go_wp2_with fail
            refine ⟨by kernel_rfl, ?_⟩
            go_wp2_with fail
            go_ret
            exact ⟨by rw [HF.out]; rfl, fr_of_kp H3.out.kp⟩
          | true =>
            go_wp2_with fail
            refine ⟨by kernel_rfl, ?_⟩
            go_wp2_with fail
            go_roundg (ko - 1)
            case measure => omega
            case rel =>
              refine ⟨i + 1, total + N.kids.length, by omega, by go_num, by go_num, by omega, ?_, ?_, H3.out⟩
              · intro j hj k hk
                by_cases hji : j = i
                · subst hji
                  rw [HGd.out] at hk
                  have := List.all_eq_true.1 HA.out k hk
                  simp only [Bool.and_eq_true, decide_eq_true_eq] at this
                  exact this
                · exact HLow.out j (by omega) k hk
              · rw [← HSc.out, HGs.out, hko, hfo, HA.out, decide_eq_true (by omega)]; simp
  case neg =>
    have hin : i = nodes.length := by omega
    subst hin
    have hk : gk = 0 := by omega
    subst hk
    have hsc1 : Tm.scan nodes nodes.length 0 0 = true := by rw [← HSc.out]; rfl
    have hG2 : G = decide (Tm.tops nodes funcs 0 = some nodes.length) := by rw [HG.out]; unfold Tm.refCheck; rw [hsc1]; rfl
    have HG2 := Lib.hid hG2
    have hl1 : ∀ j, ∀ k ∈ (nodes.getD j {}).kids, 0 ≤ k ∧ k < (j : Int) := by
      intro j k hk
      by_cases hj : j < nodes.length
      · exact HLow.out j hj k hk
      · rw [List.getD_eq_getElem?_getD, List.getElem?_eq_none (by omega)] at hk; cases hk
    have HL1 := Lib.hid hl1
    clear hsc1 hG2 hl1 him
    have hno : ¬ ((nodes.length : Int) < (nodes.length : Int)) := by omega
    obtain ⟨ro, rfl⟩ : ∃ ro : World, ro = wr := ⟨_, rfl⟩
    go_wp2_with fail
    go_loopg [8, 9] funcs.length (fun m v8 v9 wx => ∃ i at_ : Nat, i + m = funcs.length ∧ v9 = .int .i64 (i : Int) ∧ v8 = .int .i64 (at_ : Int) ∧ at_ ≤ nodes.length ∧ Tm.tops nodes (funcs.drop i) at_ = Tm.tops nodes funcs 0 ∧
      Hs (fun k => k < w.heap.size) w wx [.blk gt 25 [.slice an nodes.length cn, .slice af funcs.length cf]])
    case atStart => exact ⟨0, 0, by omega, rfl, rfl, by omega, rfl, Hh.out⟩
    case round =>
    obtain ⟨i, at_, hi, rfl, rfl, hat, htop, hh⟩ := hrel
    have b0 := hh.cell 0 rfl 0 rfl
    have b1 := hh.cell 0 rfl 1 rfl
    have HFr := Lib.hid (fr_of_kp hh.kp)
    have Hh2 := Lib.hid hh
    have HTop := Lib.hid htop
    clear hh htop
    by_cases hlt2 : i < funcs.length
    case neg =>
      have hj2 : ¬ (i : Int) < (funcs.length : Int) := by omega
      have hto : Tm.tops nodes funcs 0 = some at_ := by rw [← HTop.out, List.drop_eq_nil_of_le (by omega)]; rfl
      have hGv : G = decide (at_ = nodes.length) := by rw [HG2.out, hto]; simp
      have HGv := Lib.hid hGv
      clear hto hGv
      by_cases he : at_ = nodes.length
      · have he2 : ((at_ : Int) == (nodes.length : Int)) = true := beq_iff_eq.2 (by omega)
        have HE := Lib.hid he
        clear he
        go_wp2_with fail
        go_ret
        exact ⟨by rw [HGv.out, decide_eq_true HE.out]; rfl, HFr.out⟩
      · have he2 : ((at_ : Int) == (nodes.length : Int)) = false := beq_eq_false_iff_ne.2 (by omega)
        have HE := Lib.hid he
        clear he
        go_wp2_with fail
        go_ret
        exact ⟨by rw [HGv.out, decide_eq_false HE.out]; rfl, HFr.out⟩
    case pos =>
    have hj2 : (i : Int) < (funcs.length : Int) := by omega
    have hj3 : (0 : Int) ≤ (i : Int) := by omega
    have hx : funcs[i]? = some funcs[i] := List.getElem?_eq_getElem hlt2
    obtain ⟨gf, off, rfl, cx⟩ := rdS_int (HT.out.fr HFr.out).funcs hx
    have hdr : funcs.drop i = funcs[i] :: funcs.drop (i + 1) := List.drop_eq_getElem_cons hlt2
    have HDr := Lib.hid hdr
    clear hx hdr
    generalize funcs[i] = f at cx HDr
    have bad : ¬ (0 ≤ f ∧ f < (nodes.length : Int) ∧ Tm.kindOf nodes f = 1) → errT G = 30 := by
      intro hno
      have : Tm.tops nodes funcs 0 = none := by
        rw [← HTop.out, HDr.out]
        unfold Tm.tops
        rw [if_neg (fun h => hno ⟨h.1, h.2.1, h.2.2.1⟩)]
      rw [HG2.out, this]; rfl
    have Bad := Lib.hid bad
    clear bad
    by_cases hf0 : f < 0
    · have q0 : decide (f < 0) = true := decide_eq_true hf0
      have HF := Lib.hid (Bad.out (by omega))
      go_wp2_with fail
      go_ret
      exact ⟨by rw [HF.out]; rfl, HFr.out⟩
    by_cases hfn : (nodes.length : Int) ≤ f
    · have q0 : decide ((nodes.length : Int) ≤ f) = true := decide_eq_true hfn
      have HF := Lib.hid (Bad.out (by omega))
      go_wp2_with fail
      go_ret
      exact ⟨by rw [HF.out]; rfl, HFr.out⟩
    obtain ⟨fn, rfl⟩ : ∃ fn : Nat, f = (fn : Int) := ⟨f.toNat, by omega⟩
    have hfl2 : fn < nodes.length := by omega
    have hf2 : (fn : Int) < (nodes.length : Int) := by omega
    have hf3 : (0 : Int) ≤ (fn : Int) := by omega
    obtain ⟨g2, off2, ak2, ck2, rfl, _, y0, _⟩ := node_at HT.out hfl2
    have y0' := fr_cell HFr.out y0
    have hkd : Tm.kindOf nodes (fn : Int) = (nodes[fn]).kind := by
      show (nodes.getD ((fn : Int)).toNat {}).kind = _
      rw [Int.toNat_natCast, Tm.getD_get hfl2]
    rw [← hkd] at y0'
    clear y0 hkd
    by_cases hk1 : Tm.kindOf nodes (fn : Int) = 1
    case neg =>
      have q1 : (Tm.kindOf nodes (fn : Int) == 1) = false := beq_eq_false_iff_ne.2 hk1
      have HF := Lib.hid (Bad.out (fun h => hk1 h.2.2))
      clear hk1
      generalize Tm.kindOf nodes (fn : Int) = kd at y0' q1
      go_wp2_with fail
      go_ret
      exact ⟨by rw [HF.out]; rfl, HFr.out⟩
    rw [hk1] at y0'
    have Hk1 := Lib.hid hk1
    clear hk1
    have HTr := Lib.hid (HT.out.fr HFr.out)
    go_wp2_with fail
    refine (walk_c nodes funcs _ _ fn _ HTr.out HS.out.nl hfl2 HL1.out (fun n hn => (HS.out.each n hn).1)).mono ?_
    rintro e w2 ⟨al, cl, rfl, hgv⟩
    obtain ⟨TT, hTT⟩ : ∃ TT, TT = (Tm.wrec (Tm.kidsOf nodes) fn).take (nodes.length + 1) := ⟨_, rfl⟩
    rw [← hTT] at hgv ⊢
    have H2 := Lib.hid (hgv _ _ _ Hh2.out)
    have hle : ∀ x ∈ TT, x ≤ fn := by
      intro x hx
      rw [hTT] at hx
      refine Tm.wrec_le (ks := Tm.kidsOf nodes) (fun i k hk => ?_) fn x (List.mem_of_mem_take hx)
      rw [Tm.kidsOf_eq] at hk
      obtain ⟨y, hy, rfl⟩ := List.mem_map.1 hk
      have := HL1.out i y hy
      omega
    have hTl : TT.length ≤ nodes.length + 1 := by rw [hTT, List.length_take]; omega
    have hstep : TT = List.range' at_ TT.length → Tm.tops nodes (funcs.drop (i + 1)) (at_ + TT.length) = Tm.tops nodes funcs 0 := by
      intro h0
      rw [← HTop.out, HDr.out]
      conv => rhs; unfold Tm.tops
      rw [if_pos ⟨by omega, by omega, Hk1.out, by rw [Int.toNat_natCast, ← hTT]; exact h0⟩, Int.toNat_natCast, ← hTT]
    have hbad2 : TT ≠ List.range' at_ TT.length → errT G = 30 := by
      intro h0
      have : Tm.tops nodes funcs 0 = none := by
        rw [← HTop.out, HDr.out]
        unfold Tm.tops
        rw [if_neg (fun h => h0 (by have := h.2.2.2; rw [Int.toNat_natCast, ← hTT] at this; exact this))]
      rw [HG2.out, this]; rfl
    have HLe := Lib.hid hle
    have HStep := Lib.hid hstep
    have HBad2 := Lib.hid hbad2
    have hnl3 : nodes.length ≤ 100000000 := HS.out.nl
    have hcl : TT.length ≤ cl := by
      obtain ⟨_, _, h1, h2, _⟩ := H2.out.form 0 rfl
      injection h1 with _ _ h3
      omega
    clear hTT hgv hle hstep hbad2 Bad Hh2 HTop HDr Hk1 y0' b0 b1 cx
    have b0 := H2.out.cell 1 rfl 0 rfl
    have b1 := H2.out.cell 1 rfl 1 rfl
    have HFr2 := Lib.hid (fr_of_kp H2.out.kp)
    obtain ⟨wo, rfl⟩ : ∃ wo : World, wo = wr := ⟨_, rfl⟩
    obtain ⟨ko, rfl⟩ : ∃ ko : Nat, ko = gk := ⟨_, rfl⟩
    go_wp2_with fail
    go_loopg [8, 12] TT.length (fun m v8 v12 wx => ∃ j : Nat, j + m = TT.length ∧ v12 = .int .i64 (j : Int) ∧ v8 = .int .i64 ((at_ : Int) + (j : Int)) ∧ wx = w2 ∧ TT.take j = List.range' at_ j)
    case atStart => exact ⟨0, by omega, rfl, by go_num, rfl, rfl⟩
    case round =>
    obtain ⟨j, hj, rfl, rfl, rfl, htk⟩ := hrel
    have HTk := Lib.hid htk
    clear htk
    by_cases hjl : j < TT.length
    case pos =>
      have hji : (j : Int) < (TT.length : Int) := by omega
      have hj0 : (0 : Int) ≤ (j : Int) := by omega
      have hx : TT[j]? = some TT[j] := List.getElem?_eq_getElem hjl
      have hin : TT[j] ∈ TT := List.getElem_mem hjl
      have hxle := HLe.out _ hin
      have hix : (ints (Tm.IO TT))[j]? = some (.int .i64 (TT[j] : Int)) := by unfold ints Tm.IO; rw [List.getElem?_map, List.getElem?_map, hx]; rfl
      obtain ⟨gx, rfl, hcx⟩ := H2.out.rdRow 0 rfl (fun h => by rw [h] at hix; cases hix)
      have cx := hcx j _ hix
      have htk2 : TT.take (j + 1) = List.range' at_ j ++ [TT[j]] := by rw [List.take_add_one, hx, HTk.out]; rfl
      have hno : TT[j] ≠ at_ + j → TT ≠ List.range' at_ TT.length := by
        intro h1 h2
        apply h1
        have h4 : (List.range' at_ TT.length)[j]? = some (at_ + 1 * j) := List.getElem?_range' hjl
        rw [← h2, hx] at h4
        injection h4 with h4
        omega
      have HTk2 := Lib.hid htk2
      have HNo := Lib.hid hno
      clear hx hin hix hcx htk2 hno
      generalize TT[j] = x at cx HTk2 HNo hxle
      by_cases hxe : x = at_ + j
      · have q0 : ((x : Int) != (at_ : Int) + (j : Int)) = false := bne_eq_false_iff_eq.2 (by omega)
        have HXe := Lib.hid hxe
        have hbd : (at_ : Int) + (j : Int) ≤ 100000000 := by omega
        clear hxe
        go_wp2_with fail
        go_roundg (gk - 1)
        case measure => omega
        case rel => exact ⟨j + 1, by omega, by go_num, by go_num, rfl, by rw [HTk2.out, HXe.out, List.range'_concat]; simp⟩
      · have q0 : ((x : Int) != (at_ : Int) + (j : Int)) = true := bne_iff_ne.2 (by omega)
        have HF := Lib.hid (HBad2.out (HNo.out hxe))
        clear hxe
        have hbd : (at_ : Int) + (j : Int) ≤ 300000000 := by omega
        go_wp2_with fail
        go_ret
        exact ⟨by rw [HF.out]; rfl, HFr2.out⟩
    case neg =>
      have hji : ¬ (j : Int) < (TT.length : Int) := by omega
      have hTr : TT = List.range' at_ TT.length := by
        have h1 : j = TT.length := by omega
        have := HTk.out
        rw [h1, List.take_length] at this
        exact this
      have hat2 : at_ + TT.length ≤ nodes.length := by
        rcases Nat.eq_zero_or_pos TT.length with h0 | h0
        · omega
        · have : at_ + (TT.length - 1) ∈ TT := by
            rw [hTr]
            simp only [List.length_range']
            exact List.mem_range'_1.2 ⟨by omega, by omega⟩
          have := HLe.out _ this
          omega
      have hjj : j = TT.length := by omega
      have HTr2 := Lib.hid hTr
      have HJJ := Lib.hid hjj
      clear hTr hjj
      go_wp2_with fail
      go_roundg (ko - 1)
      case measure => omega
      case rel => exact ⟨i + 1, at_ + TT.length, by omega, by go_num, by rw [HJJ.out]; go_num, hat2, HStep.out HTr2.out, H2.out.tail⟩
end Go.Proofs.YtllahgnpjodgmaaDoor
