/- quernref4's acts: what the call of act does, way by way. (Printed by act.py.) -/
import Derived.Test.YthodjlhjfaccpaaRr
import Derived.Test.YthodjlhjfaccpaaPg
import Derived.StillTailTactics
set_option linter.unusedVariables false
namespace Go.Proofs.Ythodjlhjfaccpaa
open Go Go.RowKit Mem Pm Rf
theorem infoMark : (Try.prog.info? 85).map (fun i => (i.zero, i.size, i.bytes)) = some (some (.agg #[.int .i64 0, .int .i64 0, .int .i64 0, .int .i64 0, .int .i64 0, .int .i64 0, .int .i64 0, .int .i64 0, .string ⟨#[]⟩, .slice none 0 0, .int .i64 0]), 11, 112) := by kernel_rfl
theorem List.set_getElem?_self' {α : Type} {l : List α} {i : Nat} {x : α} (h : l[i]? = some x) : l.set i x = l := by
  obtain ⟨hi, he⟩ := List.getElem?_eq_some_iff.1 h
  rw [← he, List.set_getElem_self]
theorem begsC_len' : ∀ r : List (Nd × Nat), (begsC r).length = r.length * 11
  | [] => rfl
  | x :: r => by
    have := begsC_len' r
    unfold begsC at this ⊢
    rw [List.reverse_cons, List.flatMap_append, List.length_append, this]
    simp [begC, ndC]
    omega

section
variable {A : Nat → Prop} {w0 w : World} {gs : Nat} {s : RS} {rest : List Res}
set_option maxRecDepth 100000 in
set_option maxHeartbeats 8000000 in
theorem act_4003 (h : RI A w0 w gs s rest) (hs : s.sz ≤ 999999000) (next : Tok) {n : Nd} {f : Nat} {r : List (Nd × Nat)} (hm : s.marks = (n, f) :: r)  : Calls Try.prog 25 #[.pointer (some ⟨gs, 0, none⟩), .int .i64 4003, tokV next] w fun e w' => e = .returned (.tuple #[]) ∧ RI A w0 w' gs { s with marks := ({ n with decl := s.decl }, f) :: r } rest := by
  obtain ⟨nk, na, nv, nn⟩ := next
  obtain ⟨nd, fu, ne, wa, ma, wt, kvs, hkv, h⟩ := h
  have hsl : s.marks.length ≤ 999999000 ∧ s.wait.length ≤ 999999000 ∧ s.nest.length ≤ 999999000 ∧ s.nodes.length ≤ 999999000 ∧ -1000000000 ≤ s.deep ∧ s.deep ≤ 1000000000 := by unfold RS.sz at hs; omega
  obtain ⟨hml, hwl, hnl, hdl, hd1, hd2⟩ := hsl
  have hgs := (h.nin (i := 0) rfl rfl).1
  have hml' : s.marks.length = r.length + 1 := by rw [hm]; rfl
  obtain ⟨am, cm, rfl, _, hg⟩ := h.form 5 rfl
  rw [hml'] at hg
  obtain ⟨gm, rfl, hgm⟩ := hg (Nat.succ_pos _)
  rw [← hml'] at hgm
  have hgml := (h.nin (i := 5) rfl hgm).1
  have hgg : gm ≠ gs := fun he => h.ne (i := 5) (j := 0) rfl rfl (by decide) gm hgm (by rw [he]; rfl)
  have hi0 : (0 : Int) ≤ (s.marks.length : Int) - 1 := by omega
  have hi1 : (s.marks.length : Int) - 1 < (s.marks.length : Int) := by omega
  have hi2 : ((s.marks.length : Int) - 1).toNat = r.length := by omega
  have hxs : begsC s.marks = begsC r ++ begC (n, f) := by rw [hm]; simp [begsC]
  have hrl : (begsC r).length = r.length * 11 := begsC_len' r
  have c6 := h.cell 0 rfl 6 rfl
  have c4 := h.cell 0 rfl 4 rfl
  have cm0 : w.cell? ⟨gm, r.length * 11 + 4, none⟩ = some (.int .i64 n.decl) := h.rcell 5 rfl hgm _ (by rw [hxs, List.getElem?_append_right (by omega), hrl, Nat.add_sub_cancel_left]; rfl)
  have zm0 : w.frozen? ⟨gm, r.length * 11 + 4, none⟩ = false := h.rfroz 5 rfl hgm _
  have Hh := Lib.hid h
  have Hkv := Lib.hid hkv
  have Hxs := Lib.hid hxs
  have Hrl := Lib.hid hrl
  have Hm := Lib.hid hm
  have Hgm := Lib.hid hgm
  clear h hs hkv hxs hrl hm hgm hg hml'
  unfold tokV
  go_enter Try.func25, Try.ntmps25
  go_wp2_with fail
  refine Reg.wp_region_text (by kernel_rfl) (by kernel_rfl) ?_
  go_wp2_with fail
  refine ⟨by kernel_rfl, ?_⟩
  go_end0
  have h1 := (((Hh.out).rset 5 rfl Hgm.out (r.length * 11 + 4) (.int .i64 s.decl)).alloc' (.cells #[.int .i64 nk, .int .i64 na, .int .i64 nv, .string nn] 48)).drew
  refine ⟨rfl, nd, fu, ne, wa, .slice (some ⟨gm, 0, none⟩) (r.length + 1) cm, wt, kvs, Hkv.out, ?_⟩
  have e : (begsC s.marks).set (r.length * 11 + 4) (.int .i64 s.decl) = begsC (({ n with decl := s.decl }, f) :: r) := by
    rw [Hxs.out, show begsC (({ n with decl := s.decl }, f) :: r) = begsC r ++ begC ({ n with decl := s.decl }, f) by simp [begsC]]
    rw [List.set_append_right _ _ (by rw [Hrl.out]; omega), Hrl.out, Nat.add_sub_cancel_left]
    rfl
  have hml2 : s.marks.length = r.length + 1 := by rw [Hm.out]; rfl
  simp only [List.set_cons_succ, List.set_cons_zero, RSt, List.cons_append] at h1
  rw [e, hml2] at h1
  exact h1

set_option maxRecDepth 100000 in
set_option maxHeartbeats 8000000 in
theorem act_4006 (h : RI A w0 w gs s rest) (hs : s.sz ≤ 999999000) (next : Tok) {n : Nd} {f : Nat} {r : List (Nd × Nat)} (hm : s.marks = (n, f) :: r)  : Calls Try.prog 25 #[.pointer (some ⟨gs, 0, none⟩), .int .i64 4006, tokV next] w fun e w' => e = .returned (.tuple #[]) ∧ RI A w0 w' gs { s with marks := ({ n with value := s.last.value }, f) :: r } rest := by
  obtain ⟨nk, na, nv, nn⟩ := next
  obtain ⟨nd, fu, ne, wa, ma, wt, kvs, hkv, h⟩ := h
  have hsl : s.marks.length ≤ 999999000 ∧ s.wait.length ≤ 999999000 ∧ s.nest.length ≤ 999999000 ∧ s.nodes.length ≤ 999999000 ∧ -1000000000 ≤ s.deep ∧ s.deep ≤ 1000000000 := by unfold RS.sz at hs; omega
  obtain ⟨hml, hwl, hnl, hdl, hd1, hd2⟩ := hsl
  have hgs := (h.nin (i := 0) rfl rfl).1
  have hml' : s.marks.length = r.length + 1 := by rw [hm]; rfl
  obtain ⟨am, cm, rfl, _, hg⟩ := h.form 5 rfl
  rw [hml'] at hg
  obtain ⟨gm, rfl, hgm⟩ := hg (Nat.succ_pos _)
  rw [← hml'] at hgm
  have hgml := (h.nin (i := 5) rfl hgm).1
  have hgg : gm ≠ gs := fun he => h.ne (i := 5) (j := 0) rfl rfl (by decide) gm hgm (by rw [he]; rfl)
  have hi0 : (0 : Int) ≤ (s.marks.length : Int) - 1 := by omega
  have hi1 : (s.marks.length : Int) - 1 < (s.marks.length : Int) := by omega
  have hi2 : ((s.marks.length : Int) - 1).toNat = r.length := by omega
  have hxs : begsC s.marks = begsC r ++ begC (n, f) := by rw [hm]; simp [begsC]
  have hrl : (begsC r).length = r.length * 11 := begsC_len' r
  have c10 := h.cell 0 rfl 10 rfl
  have c4 := h.cell 0 rfl 4 rfl
  have cm0 : w.cell? ⟨gm, r.length * 11 + 7, none⟩ = some (.int .i64 n.value) := h.rcell 5 rfl hgm _ (by rw [hxs, List.getElem?_append_right (by omega), hrl, Nat.add_sub_cancel_left]; rfl)
  have zm0 : w.frozen? ⟨gm, r.length * 11 + 7, none⟩ = false := h.rfroz 5 rfl hgm _
  have Hh := Lib.hid h
  have Hkv := Lib.hid hkv
  have Hxs := Lib.hid hxs
  have Hrl := Lib.hid hrl
  have Hm := Lib.hid hm
  have Hgm := Lib.hid hgm
  clear h hs hkv hxs hrl hm hgm hg hml'
  unfold tokV
  go_enter Try.func25, Try.ntmps25
  go_wp2_with fail
  refine Reg.wp_region_text (by kernel_rfl) (by kernel_rfl) ?_
  go_wp2_with fail
  refine ⟨by kernel_rfl, ?_⟩
  go_end0
  have h1 := (((Hh.out).rset 5 rfl Hgm.out (r.length * 11 + 7) (.int .i64 s.last.value)).alloc' (.cells #[.int .i64 nk, .int .i64 na, .int .i64 nv, .string nn] 48)).drew
  refine ⟨rfl, nd, fu, ne, wa, .slice (some ⟨gm, 0, none⟩) (r.length + 1) cm, wt, kvs, Hkv.out, ?_⟩
  have e : (begsC s.marks).set (r.length * 11 + 7) (.int .i64 s.last.value) = begsC (({ n with value := s.last.value }, f) :: r) := by
    rw [Hxs.out, show begsC (({ n with value := s.last.value }, f) :: r) = begsC r ++ begC ({ n with value := s.last.value }, f) by simp [begsC]]
    rw [List.set_append_right _ _ (by rw [Hrl.out]; omega), Hrl.out, Nat.add_sub_cancel_left]
    rfl
  have hml2 : s.marks.length = r.length + 1 := by rw [Hm.out]; rfl
  simp only [List.set_cons_succ, List.set_cons_zero, RSt, List.cons_append] at h1
  rw [e, hml2] at h1
  exact h1

set_option maxRecDepth 100000 in
set_option maxHeartbeats 8000000 in
theorem act_4007 (h : RI A w0 w gs s rest) (hs : s.sz ≤ 999999000) (next : Tok) {n : Nd} {f : Nat} {r : List (Nd × Nat)} (hm : s.marks = (n, f) :: r)  : Calls Try.prog 25 #[.pointer (some ⟨gs, 0, none⟩), .int .i64 4007, tokV next] w fun e w' => e = .returned (.tuple #[]) ∧ RI A w0 w' gs { s with marks := ({ n with close := s.last.at_ }, f) :: r } rest := by
  obtain ⟨nk, na, nv, nn⟩ := next
  obtain ⟨nd, fu, ne, wa, ma, wt, kvs, hkv, h⟩ := h
  have hsl : s.marks.length ≤ 999999000 ∧ s.wait.length ≤ 999999000 ∧ s.nest.length ≤ 999999000 ∧ s.nodes.length ≤ 999999000 ∧ -1000000000 ≤ s.deep ∧ s.deep ≤ 1000000000 := by unfold RS.sz at hs; omega
  obtain ⟨hml, hwl, hnl, hdl, hd1, hd2⟩ := hsl
  have hgs := (h.nin (i := 0) rfl rfl).1
  have hml' : s.marks.length = r.length + 1 := by rw [hm]; rfl
  obtain ⟨am, cm, rfl, _, hg⟩ := h.form 5 rfl
  rw [hml'] at hg
  obtain ⟨gm, rfl, hgm⟩ := hg (Nat.succ_pos _)
  rw [← hml'] at hgm
  have hgml := (h.nin (i := 5) rfl hgm).1
  have hgg : gm ≠ gs := fun he => h.ne (i := 5) (j := 0) rfl rfl (by decide) gm hgm (by rw [he]; rfl)
  have hi0 : (0 : Int) ≤ (s.marks.length : Int) - 1 := by omega
  have hi1 : (s.marks.length : Int) - 1 < (s.marks.length : Int) := by omega
  have hi2 : ((s.marks.length : Int) - 1).toNat = r.length := by omega
  have hxs : begsC s.marks = begsC r ++ begC (n, f) := by rw [hm]; simp [begsC]
  have hrl : (begsC r).length = r.length * 11 := begsC_len' r
  have c9 := h.cell 0 rfl 9 rfl
  have c4 := h.cell 0 rfl 4 rfl
  have cm0 : w.cell? ⟨gm, r.length * 11 + 3, none⟩ = some (.int .i64 n.close) := h.rcell 5 rfl hgm _ (by rw [hxs, List.getElem?_append_right (by omega), hrl, Nat.add_sub_cancel_left]; rfl)
  have zm0 : w.frozen? ⟨gm, r.length * 11 + 3, none⟩ = false := h.rfroz 5 rfl hgm _
  have Hh := Lib.hid h
  have Hkv := Lib.hid hkv
  have Hxs := Lib.hid hxs
  have Hrl := Lib.hid hrl
  have Hm := Lib.hid hm
  have Hgm := Lib.hid hgm
  clear h hs hkv hxs hrl hm hgm hg hml'
  unfold tokV
  go_enter Try.func25, Try.ntmps25
  go_wp2_with fail
  refine Reg.wp_region_text (by kernel_rfl) (by kernel_rfl) ?_
  go_wp2_with fail
  refine ⟨by kernel_rfl, ?_⟩
  go_end0
  have h1 := (((Hh.out).rset 5 rfl Hgm.out (r.length * 11 + 3) (.int .i64 s.last.at_)).alloc' (.cells #[.int .i64 nk, .int .i64 na, .int .i64 nv, .string nn] 48)).drew
  refine ⟨rfl, nd, fu, ne, wa, .slice (some ⟨gm, 0, none⟩) (r.length + 1) cm, wt, kvs, Hkv.out, ?_⟩
  have e : (begsC s.marks).set (r.length * 11 + 3) (.int .i64 s.last.at_) = begsC (({ n with close := s.last.at_ }, f) :: r) := by
    rw [Hxs.out, show begsC (({ n with close := s.last.at_ }, f) :: r) = begsC r ++ begC ({ n with close := s.last.at_ }, f) by simp [begsC]]
    rw [List.set_append_right _ _ (by rw [Hrl.out]; omega), Hrl.out, Nat.add_sub_cancel_left]
    rfl
  have hml2 : s.marks.length = r.length + 1 := by rw [Hm.out]; rfl
  simp only [List.set_cons_succ, List.set_cons_zero, RSt, List.cons_append] at h1
  rw [e, hml2] at h1
  exact h1

set_option maxRecDepth 100000 in
set_option maxHeartbeats 8000000 in
theorem act_4002 (h : RI A w0 w gs s rest) (hs : s.sz ≤ 999999000) (next : Tok) {n : Nd} {f : Nat} {r : List (Nd × Nat)} (hm : s.marks = (n, f) :: r)  : Calls Try.prog 25 #[.pointer (some ⟨gs, 0, none⟩), .int .i64 4002, tokV next] w fun e w' => e = .returned (.tuple #[]) ∧ RI A w0 w' gs { s with marks := ({ n with name := s.last.name, where_ := s.last.at_ }, f) :: r } rest := by
  obtain ⟨nk, na, nv, nn⟩ := next
  obtain ⟨nd, fu, ne, wa, ma, wt, kvs, hkv, h⟩ := h
  have hsl : s.marks.length ≤ 999999000 ∧ s.wait.length ≤ 999999000 ∧ s.nest.length ≤ 999999000 ∧ s.nodes.length ≤ 999999000 ∧ -1000000000 ≤ s.deep ∧ s.deep ≤ 1000000000 := by unfold RS.sz at hs; omega
  obtain ⟨hml, hwl, hnl, hdl, hd1, hd2⟩ := hsl
  have hgs := (h.nin (i := 0) rfl rfl).1
  have hml' : s.marks.length = r.length + 1 := by rw [hm]; rfl
  obtain ⟨am, cm, rfl, _, hg⟩ := h.form 5 rfl
  rw [hml'] at hg
  obtain ⟨gm, rfl, hgm⟩ := hg (Nat.succ_pos _)
  rw [← hml'] at hgm
  have hgml := (h.nin (i := 5) rfl hgm).1
  have hgg : gm ≠ gs := fun he => h.ne (i := 5) (j := 0) rfl rfl (by decide) gm hgm (by rw [he]; rfl)
  have hi0 : (0 : Int) ≤ (s.marks.length : Int) - 1 := by omega
  have hi1 : (s.marks.length : Int) - 1 < (s.marks.length : Int) := by omega
  have hi2 : ((s.marks.length : Int) - 1).toNat = r.length := by omega
  have hxs : begsC s.marks = begsC r ++ begC (n, f) := by rw [hm]; simp [begsC]
  have hrl : (begsC r).length = r.length * 11 := begsC_len' r
  have c11 := h.cell 0 rfl 11 rfl
  have c9 := h.cell 0 rfl 9 rfl
  have c4 := h.cell 0 rfl 4 rfl
  have cm0 : w.cell? ⟨gm, r.length * 11 + 8, none⟩ = some (.string n.name) := h.rcell 5 rfl hgm _ (by rw [hxs, List.getElem?_append_right (by omega), hrl, Nat.add_sub_cancel_left]; rfl)
  have zm0 : w.frozen? ⟨gm, r.length * 11 + 8, none⟩ = false := h.rfroz 5 rfl hgm _
  have cm1 : w.cell? ⟨gm, r.length * 11 + 2, none⟩ = some (.int .i64 n.where_) := h.rcell 5 rfl hgm _ (by rw [hxs, List.getElem?_append_right (by omega), hrl, Nat.add_sub_cancel_left]; rfl)
  have zm1 : w.frozen? ⟨gm, r.length * 11 + 2, none⟩ = false := h.rfroz 5 rfl hgm _
  have Hh := Lib.hid h
  have Hkv := Lib.hid hkv
  have Hxs := Lib.hid hxs
  have Hrl := Lib.hid hrl
  have Hm := Lib.hid hm
  have Hgm := Lib.hid hgm
  clear h hs hkv hxs hrl hm hgm hg hml'
  unfold tokV
  go_enter Try.func25, Try.ntmps25
  go_wp2_with fail
  refine Reg.wp_region_text (by kernel_rfl) (by kernel_rfl) ?_
  go_wp2_with fail
  refine ⟨by kernel_rfl, ?_⟩
  go_wp2_with fail
  refine Reg.wp_region_text (by kernel_rfl) (by kernel_rfl) ?_
  go_wp2_with fail
  refine ⟨by kernel_rfl, ?_⟩
  go_end0
  have h1 := (((((Hh.out).rset 5 rfl Hgm.out (r.length * 11 + 8) (.string s.last.name)).rset 5 rfl Hgm.out (r.length * 11 + 2) (.int .i64 s.last.at_)).alloc' (.cells #[.int .i64 nk, .int .i64 na, .int .i64 nv, .string nn] 48)).drew).drew
  refine ⟨rfl, nd, fu, ne, wa, .slice (some ⟨gm, 0, none⟩) (r.length + 1) cm, wt, kvs, Hkv.out, ?_⟩
  have e : ((begsC s.marks).set (r.length * 11 + 8) (.string s.last.name)).set (r.length * 11 + 2) (.int .i64 s.last.at_) = begsC (({ n with name := s.last.name, where_ := s.last.at_ }, f) :: r) := by
    rw [Hxs.out, show begsC (({ n with name := s.last.name, where_ := s.last.at_ }, f) :: r) = begsC r ++ begC ({ n with name := s.last.name, where_ := s.last.at_ }, f) by simp [begsC]]
    rw [List.set_append_right _ _ (by rw [Hrl.out]; omega), Hrl.out, Nat.add_sub_cancel_left]
    rw [List.set_append_right _ _ (by rw [Hrl.out]; omega), Hrl.out, Nat.add_sub_cancel_left]
    rfl
  have hml2 : s.marks.length = r.length + 1 := by rw [Hm.out]; rfl
  simp only [List.set_cons_succ, List.set_cons_zero, RSt, List.cons_append] at h1
  rw [e, hml2] at h1
  exact h1

set_option maxRecDepth 100000 in
set_option maxHeartbeats 8000000 in
theorem act_5000 (h : RI A w0 w gs s rest) (hs : s.sz ≤ 999999000) (next : Tok) {n : Nd} {f : Nat} {r : List (Nd × Nat)} (hm : s.marks = (n, f) :: r) (a : Int) (h1 : 5000 ≤ a) (h2 : a < 6000) : Calls Try.prog 25 #[.pointer (some ⟨gs, 0, none⟩), .int .i64 a, tokV next] w fun e w' => e = .returned (.tuple #[]) ∧ RI A w0 w' gs { s with marks := ({ n with kind := a - 5000 }, f) :: r } rest := by
  obtain ⟨nk, na, nv, nn⟩ := next
  obtain ⟨nd, fu, ne, wa, ma, wt, kvs, hkv, h⟩ := h
  have hsl : s.marks.length ≤ 999999000 ∧ s.wait.length ≤ 999999000 ∧ s.nest.length ≤ 999999000 ∧ s.nodes.length ≤ 999999000 ∧ -1000000000 ≤ s.deep ∧ s.deep ≤ 1000000000 := by unfold RS.sz at hs; omega
  obtain ⟨hml, hwl, hnl, hdl, hd1, hd2⟩ := hsl
  have hgs := (h.nin (i := 0) rfl rfl).1
  have hml' : s.marks.length = r.length + 1 := by rw [hm]; rfl
  obtain ⟨am, cm, rfl, _, hg⟩ := h.form 5 rfl
  rw [hml'] at hg
  obtain ⟨gm, rfl, hgm⟩ := hg (Nat.succ_pos _)
  rw [← hml'] at hgm
  have hgml := (h.nin (i := 5) rfl hgm).1
  have hgg : gm ≠ gs := fun he => h.ne (i := 5) (j := 0) rfl rfl (by decide) gm hgm (by rw [he]; rfl)
  have hi0 : (0 : Int) ≤ (s.marks.length : Int) - 1 := by omega
  have hi1 : (s.marks.length : Int) - 1 < (s.marks.length : Int) := by omega
  have hi2 : ((s.marks.length : Int) - 1).toNat = r.length := by omega
  have hxs : begsC s.marks = begsC r ++ begC (n, f) := by rw [hm]; simp [begsC]
  have hrl : (begsC r).length = r.length * 11 := begsC_len' r
  have c4 := h.cell 0 rfl 4 rfl
  have cm0 : w.cell? ⟨gm, r.length * 11, none⟩ = some (.int .i64 n.kind) := h.rcell 5 rfl hgm _ (by rw [hxs, List.getElem?_append_right (by omega), hrl, Nat.sub_self]; rfl)
  have zm0 : w.frozen? ⟨gm, r.length * 11, none⟩ = false := h.rfroz 5 rfl hgm _
  have Hh := Lib.hid h
  have Hkv := Lib.hid hkv
  have Hxs := Lib.hid hxs
  have Hrl := Lib.hid hrl
  have Hm := Lib.hid hm
  have Hgm := Lib.hid hgm
  clear h hs hkv hxs hrl hm hgm hg hml'
  have e6000 : decide (6000 ≤ a) = false := decide_eq_false (by omega)
  have e5000 : decide (5000 ≤ a) = true := decide_eq_true (by omega)
  unfold tokV
  go_enter Try.func25, Try.ntmps25
  go_wp2_with fail
  go_end0
  have h1 := ((Hh.out).rset 5 rfl Hgm.out (r.length * 11) (.int .i64 (a - 5000))).alloc' (.cells #[.int .i64 nk, .int .i64 na, .int .i64 nv, .string nn] 48)
  refine ⟨rfl, nd, fu, ne, wa, .slice (some ⟨gm, 0, none⟩) (r.length + 1) cm, wt, kvs, Hkv.out, ?_⟩
  have e : (begsC s.marks).set (r.length * 11) (.int .i64 (a - 5000)) = begsC (({ n with kind := a - 5000 }, f) :: r) := by
    rw [Hxs.out, show begsC (({ n with kind := a - 5000 }, f) :: r) = begsC r ++ begC ({ n with kind := a - 5000 }, f) by simp [begsC]]
    rw [List.set_append_right _ _ (by rw [Hrl.out]; omega), Hrl.out, Nat.sub_self]
    rfl
  have hml2 : s.marks.length = r.length + 1 := by rw [Hm.out]; rfl
  simp only [List.set_cons_succ, List.set_cons_zero, RSt, List.cons_append] at h1
  rw [e, hml2] at h1
  exact h1

set_option maxRecDepth 100000 in
set_option maxHeartbeats 8000000 in
theorem act_4005_0 (h : RI A w0 w gs s rest) (hs : s.sz ≤ 999999000) (next : Tok) {n : Nd} {f : Nat} {r : List (Nd × Nat)} (hm : s.marks = (n, f) :: r) (hk : s.last.kind ≠ 68 ∧ s.last.kind ≠ 62) : Calls Try.prog 25 #[.pointer (some ⟨gs, 0, none⟩), .int .i64 4005, tokV next] w fun e w' => e = .returned (.tuple #[]) ∧ RI A w0 w' gs { s with marks := ({ n with op := 20 }, f) :: r } rest := by
  obtain ⟨nk, na, nv, nn⟩ := next
  obtain ⟨nd, fu, ne, wa, ma, wt, kvs, hkv, h⟩ := h
  have hsl : s.marks.length ≤ 999999000 ∧ s.wait.length ≤ 999999000 ∧ s.nest.length ≤ 999999000 ∧ s.nodes.length ≤ 999999000 ∧ -1000000000 ≤ s.deep ∧ s.deep ≤ 1000000000 := by unfold RS.sz at hs; omega
  obtain ⟨hml, hwl, hnl, hdl, hd1, hd2⟩ := hsl
  have hgs := (h.nin (i := 0) rfl rfl).1
  have hml' : s.marks.length = r.length + 1 := by rw [hm]; rfl
  obtain ⟨am, cm, rfl, _, hg⟩ := h.form 5 rfl
  rw [hml'] at hg
  obtain ⟨gm, rfl, hgm⟩ := hg (Nat.succ_pos _)
  rw [← hml'] at hgm
  have hgml := (h.nin (i := 5) rfl hgm).1
  have hgg : gm ≠ gs := fun he => h.ne (i := 5) (j := 0) rfl rfl (by decide) gm hgm (by rw [he]; rfl)
  have hi0 : (0 : Int) ≤ (s.marks.length : Int) - 1 := by omega
  have hi1 : (s.marks.length : Int) - 1 < (s.marks.length : Int) := by omega
  have hi2 : ((s.marks.length : Int) - 1).toNat = r.length := by omega
  have hxs : begsC s.marks = begsC r ++ begC (n, f) := by rw [hm]; simp [begsC]
  have hrl : (begsC r).length = r.length * 11 := begsC_len' r
  have c8 := h.cell 0 rfl 8 rfl
  have c4 := h.cell 0 rfl 4 rfl
  have cm0 : w.cell? ⟨gm, r.length * 11 + 6, none⟩ = some (.int .i64 n.op) := h.rcell 5 rfl hgm _ (by rw [hxs, List.getElem?_append_right (by omega), hrl, Nat.add_sub_cancel_left]; rfl)
  have zm0 : w.frozen? ⟨gm, r.length * 11 + 6, none⟩ = false := h.rfroz 5 rfl hgm _
  have Hh := Lib.hid h
  have Hkv := Lib.hid hkv
  have Hxs := Lib.hid hxs
  have Hrl := Lib.hid hrl
  have Hm := Lib.hid hm
  have Hgm := Lib.hid hgm
  clear h hs hkv hxs hrl hm hgm hg hml'
  have qk : (s.last.kind == 68) = false := beq_eq_false_iff_ne.2 hk.1
  have qx : (s.last.kind == 62) = false := beq_eq_false_iff_ne.2 hk.2
  clear hk
  unfold tokV
  go_enter Try.func25, Try.ntmps25
  go_wp2_with fail
  go_end0
  have h1 := ((Hh.out).rset 5 rfl Hgm.out (r.length * 11 + 6) (.int .i64 20)).alloc' (.cells #[.int .i64 nk, .int .i64 na, .int .i64 nv, .string nn] 48)
  refine ⟨rfl, nd, fu, ne, wa, .slice (some ⟨gm, 0, none⟩) (r.length + 1) cm, wt, kvs, Hkv.out, ?_⟩
  have e : (begsC s.marks).set (r.length * 11 + 6) (.int .i64 20) = begsC (({ n with op := 20 }, f) :: r) := by
    rw [Hxs.out, show begsC (({ n with op := 20 }, f) :: r) = begsC r ++ begC ({ n with op := 20 }, f) by simp [begsC]]
    rw [List.set_append_right _ _ (by rw [Hrl.out]; omega), Hrl.out, Nat.add_sub_cancel_left]
    rfl
  have hml2 : s.marks.length = r.length + 1 := by rw [Hm.out]; rfl
  simp only [List.set_cons_succ, List.set_cons_zero, RSt, List.cons_append] at h1
  rw [e, hml2] at h1
  exact h1

set_option maxRecDepth 100000 in
set_option maxHeartbeats 8000000 in
theorem act_4005_68 (h : RI A w0 w gs s rest) (hs : s.sz ≤ 999999000) (next : Tok) {n : Nd} {f : Nat} {r : List (Nd × Nat)} (hm : s.marks = (n, f) :: r) (hk : s.last.kind = 68) : Calls Try.prog 25 #[.pointer (some ⟨gs, 0, none⟩), .int .i64 4005, tokV next] w fun e w' => e = .returned (.tuple #[]) ∧ RI A w0 w' gs { s with marks := ({ n with op := 21 }, f) :: r } rest := by
  obtain ⟨nk, na, nv, nn⟩ := next
  obtain ⟨nd, fu, ne, wa, ma, wt, kvs, hkv, h⟩ := h
  have hsl : s.marks.length ≤ 999999000 ∧ s.wait.length ≤ 999999000 ∧ s.nest.length ≤ 999999000 ∧ s.nodes.length ≤ 999999000 ∧ -1000000000 ≤ s.deep ∧ s.deep ≤ 1000000000 := by unfold RS.sz at hs; omega
  obtain ⟨hml, hwl, hnl, hdl, hd1, hd2⟩ := hsl
  have hgs := (h.nin (i := 0) rfl rfl).1
  have hml' : s.marks.length = r.length + 1 := by rw [hm]; rfl
  obtain ⟨am, cm, rfl, _, hg⟩ := h.form 5 rfl
  rw [hml'] at hg
  obtain ⟨gm, rfl, hgm⟩ := hg (Nat.succ_pos _)
  rw [← hml'] at hgm
  have hgml := (h.nin (i := 5) rfl hgm).1
  have hgg : gm ≠ gs := fun he => h.ne (i := 5) (j := 0) rfl rfl (by decide) gm hgm (by rw [he]; rfl)
  have hi0 : (0 : Int) ≤ (s.marks.length : Int) - 1 := by omega
  have hi1 : (s.marks.length : Int) - 1 < (s.marks.length : Int) := by omega
  have hi2 : ((s.marks.length : Int) - 1).toNat = r.length := by omega
  have hxs : begsC s.marks = begsC r ++ begC (n, f) := by rw [hm]; simp [begsC]
  have hrl : (begsC r).length = r.length * 11 := begsC_len' r
  have c8 := h.cell 0 rfl 8 rfl
  have c4 := h.cell 0 rfl 4 rfl
  have cm0 : w.cell? ⟨gm, r.length * 11 + 6, none⟩ = some (.int .i64 n.op) := h.rcell 5 rfl hgm _ (by rw [hxs, List.getElem?_append_right (by omega), hrl, Nat.add_sub_cancel_left]; rfl)
  have zm0 : w.frozen? ⟨gm, r.length * 11 + 6, none⟩ = false := h.rfroz 5 rfl hgm _
  have cm1 : w.cell? ⟨gm, r.length * 11 + 6, none⟩ = some (.int .i64 n.op) := h.rcell 5 rfl hgm _ (by rw [hxs, List.getElem?_append_right (by omega), hrl, Nat.add_sub_cancel_left]; rfl)
  have zm1 : w.frozen? ⟨gm, r.length * 11 + 6, none⟩ = false := h.rfroz 5 rfl hgm _
  have Hh := Lib.hid h
  have Hkv := Lib.hid hkv
  have Hxs := Lib.hid hxs
  have Hrl := Lib.hid hrl
  have Hm := Lib.hid hm
  have Hgm := Lib.hid hgm
  clear h hs hkv hxs hrl hm hgm hg hml'
  have qk : (s.last.kind == 68) = true := beq_iff_eq.2 (by omega)
  have qx : (s.last.kind == 62) = false := beq_eq_false_iff_ne.2 (by omega)
  clear hk
  unfold tokV
  go_enter Try.func25, Try.ntmps25
  go_wp2_with fail
  go_end0
  have h1 := (((Hh.out).rset 5 rfl Hgm.out (r.length * 11 + 6) (.int .i64 20)).rset 5 rfl Hgm.out (r.length * 11 + 6) (.int .i64 21)).alloc' (.cells #[.int .i64 nk, .int .i64 na, .int .i64 nv, .string nn] 48)
  refine ⟨rfl, nd, fu, ne, wa, .slice (some ⟨gm, 0, none⟩) (r.length + 1) cm, wt, kvs, Hkv.out, ?_⟩
  have e : ((begsC s.marks).set (r.length * 11 + 6) (.int .i64 20)).set (r.length * 11 + 6) (.int .i64 21) = begsC (({ n with op := 21 }, f) :: r) := by
    rw [Hxs.out, show begsC (({ n with op := 21 }, f) :: r) = begsC r ++ begC ({ n with op := 21 }, f) by simp [begsC]]
    rw [List.set_append_right _ _ (by rw [Hrl.out]; omega), Hrl.out, Nat.add_sub_cancel_left]
    rw [List.set_append_right _ _ (by rw [Hrl.out]; omega), Hrl.out, Nat.add_sub_cancel_left]
    rfl
  have hml2 : s.marks.length = r.length + 1 := by rw [Hm.out]; rfl
  simp only [List.set_cons_succ, List.set_cons_zero, RSt, List.cons_append] at h1
  rw [e, hml2] at h1
  exact h1

set_option maxRecDepth 100000 in
set_option maxHeartbeats 8000000 in
theorem act_4005_62 (h : RI A w0 w gs s rest) (hs : s.sz ≤ 999999000) (next : Tok) {n : Nd} {f : Nat} {r : List (Nd × Nat)} (hm : s.marks = (n, f) :: r) (hk : s.last.kind = 62) : Calls Try.prog 25 #[.pointer (some ⟨gs, 0, none⟩), .int .i64 4005, tokV next] w fun e w' => e = .returned (.tuple #[]) ∧ RI A w0 w' gs { s with marks := ({ n with op := 22 }, f) :: r } rest := by
  obtain ⟨nk, na, nv, nn⟩ := next
  obtain ⟨nd, fu, ne, wa, ma, wt, kvs, hkv, h⟩ := h
  have hsl : s.marks.length ≤ 999999000 ∧ s.wait.length ≤ 999999000 ∧ s.nest.length ≤ 999999000 ∧ s.nodes.length ≤ 999999000 ∧ -1000000000 ≤ s.deep ∧ s.deep ≤ 1000000000 := by unfold RS.sz at hs; omega
  obtain ⟨hml, hwl, hnl, hdl, hd1, hd2⟩ := hsl
  have hgs := (h.nin (i := 0) rfl rfl).1
  have hml' : s.marks.length = r.length + 1 := by rw [hm]; rfl
  obtain ⟨am, cm, rfl, _, hg⟩ := h.form 5 rfl
  rw [hml'] at hg
  obtain ⟨gm, rfl, hgm⟩ := hg (Nat.succ_pos _)
  rw [← hml'] at hgm
  have hgml := (h.nin (i := 5) rfl hgm).1
  have hgg : gm ≠ gs := fun he => h.ne (i := 5) (j := 0) rfl rfl (by decide) gm hgm (by rw [he]; rfl)
  have hi0 : (0 : Int) ≤ (s.marks.length : Int) - 1 := by omega
  have hi1 : (s.marks.length : Int) - 1 < (s.marks.length : Int) := by omega
  have hi2 : ((s.marks.length : Int) - 1).toNat = r.length := by omega
  have hxs : begsC s.marks = begsC r ++ begC (n, f) := by rw [hm]; simp [begsC]
  have hrl : (begsC r).length = r.length * 11 := begsC_len' r
  have c8 := h.cell 0 rfl 8 rfl
  have c4 := h.cell 0 rfl 4 rfl
  have cm0 : w.cell? ⟨gm, r.length * 11 + 6, none⟩ = some (.int .i64 n.op) := h.rcell 5 rfl hgm _ (by rw [hxs, List.getElem?_append_right (by omega), hrl, Nat.add_sub_cancel_left]; rfl)
  have zm0 : w.frozen? ⟨gm, r.length * 11 + 6, none⟩ = false := h.rfroz 5 rfl hgm _
  have cm1 : w.cell? ⟨gm, r.length * 11 + 6, none⟩ = some (.int .i64 n.op) := h.rcell 5 rfl hgm _ (by rw [hxs, List.getElem?_append_right (by omega), hrl, Nat.add_sub_cancel_left]; rfl)
  have zm1 : w.frozen? ⟨gm, r.length * 11 + 6, none⟩ = false := h.rfroz 5 rfl hgm _
  have Hh := Lib.hid h
  have Hkv := Lib.hid hkv
  have Hxs := Lib.hid hxs
  have Hrl := Lib.hid hrl
  have Hm := Lib.hid hm
  have Hgm := Lib.hid hgm
  clear h hs hkv hxs hrl hm hgm hg hml'
  have qk : (s.last.kind == 68) = false := beq_eq_false_iff_ne.2 (by omega)
  have qx : (s.last.kind == 62) = true := beq_iff_eq.2 (by omega)
  clear hk
  unfold tokV
  go_enter Try.func25, Try.ntmps25
  go_wp2_with fail
  go_end0
  have h1 := (((Hh.out).rset 5 rfl Hgm.out (r.length * 11 + 6) (.int .i64 20)).rset 5 rfl Hgm.out (r.length * 11 + 6) (.int .i64 22)).alloc' (.cells #[.int .i64 nk, .int .i64 na, .int .i64 nv, .string nn] 48)
  refine ⟨rfl, nd, fu, ne, wa, .slice (some ⟨gm, 0, none⟩) (r.length + 1) cm, wt, kvs, Hkv.out, ?_⟩
  have e : ((begsC s.marks).set (r.length * 11 + 6) (.int .i64 20)).set (r.length * 11 + 6) (.int .i64 22) = begsC (({ n with op := 22 }, f) :: r) := by
    rw [Hxs.out, show begsC (({ n with op := 22 }, f) :: r) = begsC r ++ begC ({ n with op := 22 }, f) by simp [begsC]]
    rw [List.set_append_right _ _ (by rw [Hrl.out]; omega), Hrl.out, Nat.add_sub_cancel_left]
    rw [List.set_append_right _ _ (by rw [Hrl.out]; omega), Hrl.out, Nat.add_sub_cancel_left]
    rfl
  have hml2 : s.marks.length = r.length + 1 := by rw [Hm.out]; rfl
  simp only [List.set_cons_succ, List.set_cons_zero, RSt, List.cons_append] at h1
  rw [e, hml2] at h1
  exact h1

set_option maxRecDepth 100000 in
set_option maxHeartbeats 8000000 in
theorem act_6000 (h : RI A w0 w gs s rest) (hs : s.sz ≤ 999999000) (next : Tok) (a : Int) (h1 : 6000 ≤ a) (h2 : a < 10000) : Calls Try.prog 25 #[.pointer (some ⟨gs, 0, none⟩), .int .i64 a, tokV next] w fun e w' => e = .returned (.tuple #[]) ∧ RI A w0 w' gs (s.begin_ { kind := a - 6000, at_ := s.last.at_ } (s.wait.length)) rest := by
  obtain ⟨nk, na, nv, nn⟩ := next
  obtain ⟨nd, fu, ne, wa, ma, wt, kvs, hkv, h⟩ := h
  have hsl : s.marks.length ≤ 999999000 ∧ s.wait.length ≤ 999999000 ∧ s.nest.length ≤ 999999000 ∧ s.nodes.length ≤ 999999000 ∧ -1000000000 ≤ s.deep ∧ s.deep ≤ 1000000000 := by unfold RS.sz at hs; omega
  obtain ⟨hml, hwl, hnl, hdl, hd1, hd2⟩ := hsl
  have hgs := (h.nin (i := 0) rfl rfl).1
  obtain ⟨am, cm, rfl, _, _⟩ := h.form 5 rfl
  obtain ⟨aw, cw, rfl, hwc, hwg⟩ := h.form 6 rfl
  have c4 := h.cell 0 rfl 4 rfl
  have c5 := h.cell 0 rfl 5 rfl
  have z4 := h.froz 0 rfl 4
  have c9 := h.cell 0 rfl 9 rfl
  obtain ⟨i0, hi0, hz0, hz1, hz2⟩ := info_parts infoMark
  have Hh1 := Lib.hid (((h.alloc' (.cells #[.int .i64 nk, .int .i64 na, .int .i64 nv, .string nn] 48)).drew).alloc [.int .i64 (a - 6000), .int .i64 (s.last.at_), .int .i64 0, .int .i64 0, .int .i64 0, .int .i64 0, .int .i64 0, .int .i64 0, .string ⟨#[]⟩, .slice none 0 0, .int .i64 (s.wait.length)] 85)
  have Hkv := Lib.hid hkv
  have e6000 : decide (6000 ≤ a) = true := decide_eq_true (by omega)
  clear h hs hkv
  unfold tokV
  go_enter Try.func25, Try.ntmps25
  go_wp2_with fail
  refine Reg.wp_region_text (by kernel_rfl) (by kernel_rfl) ?_
  go_wp2_with (at_builtin; go_must (refine Hs.push rfl _ _ 66 rfl 85 i0 _ 11 112 (by kernel_rfl) hi0 hz0 hz1 hz2 rfl (Nat.succ_pos _) (Nat.le_of_ble_eq_true rfl) 6 (.slice am s.marks.length cm) s.marks.length (begsC s.marks) rfl 0 (w.heap.size + 1) [.int .i64 (a - 6000), .int .i64 (s.last.at_), .int .i64 0, .int .i64 0, .int .i64 0, .int .i64 0, .int .i64 0, .int .i64 0, .string ⟨#[]⟩, .slice none 0 0, .int .i64 (s.wait.length)] (by simp [World.drew]) rfl rfl rfl rfl (by omega) Hh1.out ?_))
  intro v1 w1 hh2
  obtain ⟨a2, cp2, rfl, _, _⟩ := hh2.form 6 rfl
  have c3' := hh2.cell 1 rfl 4 rfl
  have z3' := hh2.froz 1 rfl 4
  have Hh2 := Lib.hid hh2
  clear hh2
  go_wp2_with fail
  refine ⟨by kernel_rfl, ?_⟩
  go_end0
  have h1 := (Hh2.out.set_ 1 rfl 4 (.slice a2 (s.marks.length + 1) cp2)).tail
  refine ⟨rfl, nd, fu, ne, wa, .slice a2 (s.marks.length + 1) cp2, .slice aw s.wait.length cw, kvs, Hkv.out, ?_⟩
  have e : begsC s.marks ++ [.int .i64 (a - 6000), .int .i64 (s.last.at_), .int .i64 0, .int .i64 0, .int .i64 0, .int .i64 0, .int .i64 0, .int .i64 0, .string ⟨#[]⟩, .slice none 0 0, .int .i64 (s.wait.length)] = begsC (({ kind := a - 6000, at_ := s.last.at_ }, s.wait.length) :: s.marks) := by simp [begsC, begC, ndC]
  simp only [List.set_cons_succ, List.set_cons_zero, RSt, List.cons_append] at h1
  rw [e] at h1
  exact h1

set_option maxRecDepth 100000 in
set_option maxHeartbeats 8000000 in
theorem act_2000 (h : RI A w0 w gs s rest) (hs : s.sz ≤ 999999000) (next : Tok) (a : Int) (h1 : 2000 ≤ a) (h2 : a < 3000) : Calls Try.prog 25 #[.pointer (some ⟨gs, 0, none⟩), .int .i64 a, tokV next] w fun e w' => e = .returned (.tuple #[]) ∧ RI A w0 w' gs (s.begin_ { kind := a - 2000, at_ := next.at_ } (s.wait.length)) rest := by
  obtain ⟨nk, na, nv, nn⟩ := next
  obtain ⟨nd, fu, ne, wa, ma, wt, kvs, hkv, h⟩ := h
  have hsl : s.marks.length ≤ 999999000 ∧ s.wait.length ≤ 999999000 ∧ s.nest.length ≤ 999999000 ∧ s.nodes.length ≤ 999999000 ∧ -1000000000 ≤ s.deep ∧ s.deep ≤ 1000000000 := by unfold RS.sz at hs; omega
  obtain ⟨hml, hwl, hnl, hdl, hd1, hd2⟩ := hsl
  have hgs := (h.nin (i := 0) rfl rfl).1
  obtain ⟨am, cm, rfl, _, _⟩ := h.form 5 rfl
  obtain ⟨aw, cw, rfl, hwc, hwg⟩ := h.form 6 rfl
  have c4 := h.cell 0 rfl 4 rfl
  have c5 := h.cell 0 rfl 5 rfl
  have z4 := h.froz 0 rfl 4
  obtain ⟨i0, hi0, hz0, hz1, hz2⟩ := info_parts infoMark
  have Hh1 := Lib.hid (((h.alloc' (.cells #[.int .i64 nk, .int .i64 na, .int .i64 nv, .string nn] 48)).drew).alloc [.int .i64 (a - 2000), .int .i64 (na), .int .i64 0, .int .i64 0, .int .i64 0, .int .i64 0, .int .i64 0, .int .i64 0, .string ⟨#[]⟩, .slice none 0 0, .int .i64 (s.wait.length)] 85)
  have Hkv := Lib.hid hkv
  have e6000 : decide (6000 ≤ a) = false := decide_eq_false (by omega)
  have e5000 : decide (5000 ≤ a) = false := decide_eq_false (by omega)
  have e4000 : (a == 4000) = false := beq_eq_false_iff_ne.2 (by omega)
  have e4001 : (a == 4001) = false := beq_eq_false_iff_ne.2 (by omega)
  have e4002 : (a == 4002) = false := beq_eq_false_iff_ne.2 (by omega)
  have e4003 : (a == 4003) = false := beq_eq_false_iff_ne.2 (by omega)
  have e4004 : (a == 4004) = false := beq_eq_false_iff_ne.2 (by omega)
  have e4005 : (a == 4005) = false := beq_eq_false_iff_ne.2 (by omega)
  have e4006 : (a == 4006) = false := beq_eq_false_iff_ne.2 (by omega)
  have e4007 : (a == 4007) = false := beq_eq_false_iff_ne.2 (by omega)
  have e4008 : (a == 4008) = false := beq_eq_false_iff_ne.2 (by omega)
  have e3000 : decide (3000 ≤ a) = false := decide_eq_false (by omega)
  have e2000 : decide (2000 ≤ a) = true := decide_eq_true (by omega)
  clear h hs hkv
  unfold tokV
  go_enter Try.func25, Try.ntmps25
  go_wp2_with fail
  refine Reg.wp_region_text (by kernel_rfl) (by kernel_rfl) ?_
  go_wp2_with (at_builtin; go_must (refine Hs.push rfl _ _ 66 rfl 85 i0 _ 11 112 (by kernel_rfl) hi0 hz0 hz1 hz2 rfl (Nat.succ_pos _) (Nat.le_of_ble_eq_true rfl) 6 (.slice am s.marks.length cm) s.marks.length (begsC s.marks) rfl 0 (w.heap.size + 1) [.int .i64 (a - 2000), .int .i64 (na), .int .i64 0, .int .i64 0, .int .i64 0, .int .i64 0, .int .i64 0, .int .i64 0, .string ⟨#[]⟩, .slice none 0 0, .int .i64 (s.wait.length)] (by simp [World.drew]) rfl rfl rfl rfl (by omega) Hh1.out ?_))
  intro v1 w1 hh2
  obtain ⟨a2, cp2, rfl, _, _⟩ := hh2.form 6 rfl
  have c3' := hh2.cell 1 rfl 4 rfl
  have z3' := hh2.froz 1 rfl 4
  have Hh2 := Lib.hid hh2
  clear hh2
  go_wp2_with fail
  refine ⟨by kernel_rfl, ?_⟩
  go_end0
  have h1 := (Hh2.out.set_ 1 rfl 4 (.slice a2 (s.marks.length + 1) cp2)).tail
  refine ⟨rfl, nd, fu, ne, wa, .slice a2 (s.marks.length + 1) cp2, .slice aw s.wait.length cw, kvs, Hkv.out, ?_⟩
  have e : begsC s.marks ++ [.int .i64 (a - 2000), .int .i64 (na), .int .i64 0, .int .i64 0, .int .i64 0, .int .i64 0, .int .i64 0, .int .i64 0, .string ⟨#[]⟩, .slice none 0 0, .int .i64 (s.wait.length)] = begsC (({ kind := a - 2000, at_ := na }, s.wait.length) :: s.marks) := by simp [begsC, begC, ndC]
  simp only [List.set_cons_succ, List.set_cons_zero, RSt, List.cons_append] at h1
  rw [e] at h1
  exact h1

set_option maxRecDepth 100000 in
set_option maxHeartbeats 8000000 in
theorem act_3000 (h : RI A w0 w gs s rest) (hs : s.sz ≤ 999999000) (next : Tok) (a : Int) (h1 : 3000 ≤ a) (h2 : a < 4000) (j : Nat) (nj : Nd) (hj : s.wait[s.wait.length - 1]? = some (j : Int)) (hnj : s.nodes[j]? = some nj) : Calls Try.prog 25 #[.pointer (some ⟨gs, 0, none⟩), .int .i64 a, tokV next] w fun e w' => e = .returned (.tuple #[]) ∧ RI A w0 w' gs (s.begin_ { kind := a - 3000, at_ := nj.at_ } (s.wait.length - 1)) rest := by
  obtain ⟨nk, na, nv, nn⟩ := next
  obtain ⟨nd, fu, ne, wa, ma, wt, kvs, hkv, h⟩ := h
  have hsl : s.marks.length ≤ 999999000 ∧ s.wait.length ≤ 999999000 ∧ s.nest.length ≤ 999999000 ∧ s.nodes.length ≤ 999999000 ∧ -1000000000 ≤ s.deep ∧ s.deep ≤ 1000000000 := by unfold RS.sz at hs; omega
  obtain ⟨hml, hwl, hnl, hdl, hd1, hd2⟩ := hsl
  have hgs := (h.nin (i := 0) rfl rfl).1
  obtain ⟨am, cm, rfl, _, _⟩ := h.form 5 rfl
  obtain ⟨aw, cw, rfl, hwc, hwg⟩ := h.form 6 rfl
  obtain ⟨an, cn, rfl, hnc, hng⟩ := h.form 1 rfl
  have hjn : j < s.nodes.length := (List.getElem?_eq_some_iff.1 hnj).1
  have hwl0 : 0 < s.wait.length := by have := (List.getElem?_eq_some_iff.1 hj).1; omega
  obtain ⟨gw, rfl, hgw⟩ := hwg hwl0
  obtain ⟨gn, rfl, hgn⟩ := hng (by omega)
  have cw1 : w.cell? ⟨gw, s.wait.length - 1, none⟩ = some (.int .i64 (j : Int)) := h.rcell 6 rfl hgw _ (ints_get hj)
  have hz : (s.nodes.zip kvs)[j]? = some (nj, kvs[j]'(by omega)) := by
    rw [List.getElem?_zip_eq_some]
    exact ⟨hnj, List.getElem?_eq_getElem (by omega)⟩
  have cn1 : w.cell? ⟨gn, j * 10 + 1, none⟩ = some (.int .i64 nj.at_) := h.rcell 1 rfl hgn _ (by rw [ndsC_get hz 1 (by omega)]; rfl)
  have hgwl := (h.nin (i := 6) rfl hgw).1
  have hgnl := (h.nin (i := 1) rfl hgn).1
  have hi0 : (0 : Int) ≤ (s.wait.length : Int) - 1 := by omega
  have hi1 : (s.wait.length : Int) - 1 < (s.wait.length : Int) := by omega
  have hi2 : ((s.wait.length : Int) - 1).toNat = s.wait.length - 1 := by omega
  have hj0 : (0 : Int) ≤ (j : Int) := by omega
  have hj1 : (j : Int) < (s.nodes.length : Int) := by omega
  clear hz
  have c4 := h.cell 0 rfl 4 rfl
  have c5 := h.cell 0 rfl 5 rfl
  have z4 := h.froz 0 rfl 4
  have c0 := h.cell 0 rfl 0 rfl
  obtain ⟨i0, hi0, hz0, hz1, hz2⟩ := info_parts infoMark
  have Hh1 := Lib.hid (((h.alloc' (.cells #[.int .i64 nk, .int .i64 na, .int .i64 nv, .string nn] 48)).drew).alloc [.int .i64 (a - 3000), .int .i64 (nj.at_), .int .i64 0, .int .i64 0, .int .i64 0, .int .i64 0, .int .i64 0, .int .i64 0, .string ⟨#[]⟩, .slice none 0 0, .int .i64 ((s.wait.length : Int) - 1)] 85)
  have Hkv := Lib.hid hkv
  have e6000 : decide (6000 ≤ a) = false := decide_eq_false (by omega)
  have e5000 : decide (5000 ≤ a) = false := decide_eq_false (by omega)
  have e4000 : (a == 4000) = false := beq_eq_false_iff_ne.2 (by omega)
  have e4001 : (a == 4001) = false := beq_eq_false_iff_ne.2 (by omega)
  have e4002 : (a == 4002) = false := beq_eq_false_iff_ne.2 (by omega)
  have e4003 : (a == 4003) = false := beq_eq_false_iff_ne.2 (by omega)
  have e4004 : (a == 4004) = false := beq_eq_false_iff_ne.2 (by omega)
  have e4005 : (a == 4005) = false := beq_eq_false_iff_ne.2 (by omega)
  have e4006 : (a == 4006) = false := beq_eq_false_iff_ne.2 (by omega)
  have e4007 : (a == 4007) = false := beq_eq_false_iff_ne.2 (by omega)
  have e4008 : (a == 4008) = false := beq_eq_false_iff_ne.2 (by omega)
  have e3000 : decide (3000 ≤ a) = true := decide_eq_true (by omega)
  have HW := Lib.hid (show ((s.wait.length - 1 : Nat) : Int) = (s.wait.length : Int) - 1 by have := (List.getElem?_eq_some_iff.1 hj).1; omega)
  clear hj hnj
  clear h hs hkv
  unfold tokV
  go_enter Try.func25, Try.ntmps25
  go_wp2_with fail
  refine Reg.wp_region_text (by kernel_rfl) (by kernel_rfl) ?_
  go_wp2_with (at_builtin; go_must (refine Hs.push rfl _ _ 66 rfl 85 i0 _ 11 112 (by kernel_rfl) hi0 hz0 hz1 hz2 rfl (Nat.succ_pos _) (Nat.le_of_ble_eq_true rfl) 6 (.slice am s.marks.length cm) s.marks.length (begsC s.marks) rfl 0 (w.heap.size + 1) [.int .i64 (a - 3000), .int .i64 (nj.at_), .int .i64 0, .int .i64 0, .int .i64 0, .int .i64 0, .int .i64 0, .int .i64 0, .string ⟨#[]⟩, .slice none 0 0, .int .i64 ((s.wait.length : Int) - 1)] (by simp [World.drew]) rfl rfl rfl rfl (by omega) Hh1.out ?_))
  intro v1 w1 hh2
  obtain ⟨a2, cp2, rfl, _, _⟩ := hh2.form 6 rfl
  have c3' := hh2.cell 1 rfl 4 rfl
  have z3' := hh2.froz 1 rfl 4
  have Hh2 := Lib.hid hh2
  clear hh2
  go_wp2_with fail
  refine ⟨by kernel_rfl, ?_⟩
  go_end0
  have h1 := (Hh2.out.set_ 1 rfl 4 (.slice a2 (s.marks.length + 1) cp2)).tail
  refine ⟨rfl, .slice (some ⟨gn, 0, none⟩) s.nodes.length cn, fu, ne, wa, .slice a2 (s.marks.length + 1) cp2, .slice (some ⟨gw, 0, none⟩) s.wait.length cw, kvs, Hkv.out, ?_⟩
  have e : begsC s.marks ++ [.int .i64 (a - 3000), .int .i64 (nj.at_), .int .i64 0, .int .i64 0, .int .i64 0, .int .i64 0, .int .i64 0, .int .i64 0, .string ⟨#[]⟩, .slice none 0 0, .int .i64 ((s.wait.length : Int) - 1)] = begsC (({ kind := a - 3000, at_ := nj.at_ }, s.wait.length - 1) :: s.marks) := by simp [begsC, begC, ndC]; exact HW.out.symm
  simp only [List.set_cons_succ, List.set_cons_zero, RSt, List.cons_append] at h1
  rw [e] at h1
  exact h1

set_option maxRecDepth 100000 in
set_option maxHeartbeats 8000000 in
theorem act_4001 (h : RI A w0 w gs s rest) (hs : s.sz ≤ 999999000) (next : Tok)  : Calls Try.prog 25 #[.pointer (some ⟨gs, 0, none⟩), .int .i64 4001, tokV next] w fun e w' => e = .returned (.tuple #[]) ∧ RI A w0 w' gs { s with deep := s.deep - 1 } rest := by
  obtain ⟨nk, na, nv, nn⟩ := next
  obtain ⟨nd, fu, ne, wa, ma, wt, kvs, hkv, h⟩ := h
  have hsl : s.marks.length ≤ 999999000 ∧ s.wait.length ≤ 999999000 ∧ s.nest.length ≤ 999999000 ∧ s.nodes.length ≤ 999999000 ∧ -1000000000 ≤ s.deep ∧ s.deep ≤ 1000000000 := by unfold RS.sz at hs; omega
  obtain ⟨hml, hwl, hnl, hdl, hd1, hd2⟩ := hsl
  have hgs := (h.nin (i := 0) rfl rfl).1
  obtain ⟨am, cm, rfl, _, _⟩ := h.form 5 rfl
  have c4 := h.cell 0 rfl 4 rfl
  have c7 := h.cell 0 rfl 7 rfl
  have z7 := h.froz 0 rfl 7
  have Hh := Lib.hid h
  have Hkv := Lib.hid hkv
  clear h hs hkv
  unfold tokV
  go_enter Try.func25, Try.ntmps25
  go_wp2_with fail
  go_end0
  refine ⟨rfl, nd, fu, ne, wa, .slice am s.marks.length cm, wt, kvs, Hkv.out, ?_⟩
  have h1 := (Hh.out.set_ 0 rfl 7 (.int .i64 (s.deep - 1))).alloc' (.cells #[.int .i64 nk, .int .i64 na, .int .i64 nv, .string nn] 48)
  simp only [List.set_cons_succ, List.set_cons_zero, RSt, List.cons_append] at h1
  exact h1

set_option maxRecDepth 100000 in
set_option maxHeartbeats 8000000 in
theorem act_4000_y (h : RI A w0 w gs s rest) (hs : s.sz ≤ 999999000) (next : Tok) (hn : s.nest ≠ []) (hlt : ∀ x, s.nest[s.nest.length - 1]? = some x → x < s.deep + 1) : Calls Try.prog 25 #[.pointer (some ⟨gs, 0, none⟩), .int .i64 4000, tokV next] w fun e w' => e = .returned (.tuple #[]) ∧ RI A w0 w' gs { s with deep := s.deep + 1, nest := PS.maxLast s.nest (s.deep + 1) } rest := by
  obtain ⟨nk, na, nv, nn⟩ := next
  obtain ⟨nd, fu, ne, wa, ma, wt, kvs, hkv, h⟩ := h
  have hsl : s.marks.length ≤ 999999000 ∧ s.wait.length ≤ 999999000 ∧ s.nest.length ≤ 999999000 ∧ s.nodes.length ≤ 999999000 ∧ -1000000000 ≤ s.deep ∧ s.deep ≤ 1000000000 := by unfold RS.sz at hs; omega
  obtain ⟨hml, hwl, hnl, hdl, hd1, hd2⟩ := hsl
  have hgs := (h.nin (i := 0) rfl rfl).1
  obtain ⟨am, cm, rfl, _, _⟩ := h.form 5 rfl
  have c4 := h.cell 0 rfl 4 rfl
  have hlx : ∀ x, s.nest[s.nest.length - 1]? = some x → x < s.deep + 1 := hlt
  have hnl1 : 0 < s.nest.length := by cases hh : s.nest with | nil => exact absurd hh hn | cons => simp
  obtain ⟨an, cn, rfl, _, hg⟩ := h.form 3 rfl
  obtain ⟨gn, rfl, hgn⟩ := hg hnl1
  obtain ⟨x, hx⟩ : ∃ x, s.nest[s.nest.length - 1]? = some x := ⟨s.nest[s.nest.length - 1], by rw [List.getElem?_eq_getElem]⟩
  have c7 := h.cell 0 rfl 7 rfl
  have z7 := h.froz 0 rfl 7
  have c2 := h.cell 0 rfl 2 rfl
  have cg := h.rcell 3 rfl hgn _ (ints_get hx)
  have zg := h.rfroz 3 rfl hgn (s.nest.length - 1)
  have hgnl := (h.nin (i := 3) rfl hgn).1
  have hgg : gn ≠ gs := fun he => h.ne (i := 3) (j := 0) rfl rfl (by decide) gn hgn (by rw [he]; rfl)
  have hgg2 : gs ≠ gn := hgg.symm
  have hi0 : (0 : Int) ≤ (s.nest.length : Int) - 1 := by omega
  have hi1 : (s.nest.length : Int) - 1 < (s.nest.length : Int) := by omega
  have hi2 : ((s.nest.length : Int) - 1).toNat = s.nest.length - 1 := by omega
  have Hxx := Lib.hid hx
  have hxd := hlx x hx
  have Hx := Lib.hid (maxLast_set s.nest (s.deep + 1) x hx)
  have Hh := Lib.hid h
  have Hkv := Lib.hid hkv
  have Hgn := Lib.hid hgn
  clear hlx hlt h hs hkv hx hn hg hgn
  unfold tokV
  go_enter Try.func25, Try.ntmps25
  go_wp2_with fail
  refine Reg.wp_region_text (by kernel_rfl) (by kernel_rfl) ?_
  go_wp2_with fail
  refine ⟨by kernel_rfl, ?_⟩
  go_wp2_with fail
  refine Reg.wp_region_text (by kernel_rfl) (by kernel_rfl) ?_
  go_wp2_with fail
  refine ⟨by kernel_rfl, ?_⟩
  go_end0
  refine ⟨rfl, nd, fu, .slice (some ⟨gn, 0, none⟩) s.nest.length cn, wa, .slice am s.marks.length cm, wt, kvs, Hkv.out, ?_⟩
  have h1 := ((((Hh.out.set_ 0 rfl 7 (.int .i64 (s.deep + 1))).rset 3 rfl Hgn.out (s.nest.length - 1) (.int .i64 (s.deep + 1))).alloc' (.cells #[.int .i64 nk, .int .i64 na, .int .i64 nv, .string nn] 48)).drew).drew
  have e : PS.maxLast s.nest (s.deep + 1) = s.nest.set (s.nest.length - 1) (s.deep + 1) := by rw [Hx.out, if_pos (by omega)]
  have e2 : (ints s.nest).set (s.nest.length - 1) (.int .i64 (s.deep + 1)) = ints (PS.maxLast s.nest (s.deep + 1)) := by rw [e]; simp [ints, List.map_set]
  have e3 : s.nest.length = (PS.maxLast s.nest (s.deep + 1)).length := (maxLast_len _ _).symm
  simp only [List.set_cons_succ, List.set_cons_zero, RSt, List.cons_append] at h1 ⊢
  rw [e2] at h1
  rw [← e3]
  exact h1

set_option maxRecDepth 100000 in
set_option maxHeartbeats 8000000 in
theorem act_4000_n (h : RI A w0 w gs s rest) (hs : s.sz ≤ 999999000) (next : Tok) (hn : s.nest ≠ []) (hlt : ∀ x, s.nest[s.nest.length - 1]? = some x → ¬ x < s.deep + 1) : Calls Try.prog 25 #[.pointer (some ⟨gs, 0, none⟩), .int .i64 4000, tokV next] w fun e w' => e = .returned (.tuple #[]) ∧ RI A w0 w' gs { s with deep := s.deep + 1, nest := PS.maxLast s.nest (s.deep + 1) } rest := by
  obtain ⟨nk, na, nv, nn⟩ := next
  obtain ⟨nd, fu, ne, wa, ma, wt, kvs, hkv, h⟩ := h
  have hsl : s.marks.length ≤ 999999000 ∧ s.wait.length ≤ 999999000 ∧ s.nest.length ≤ 999999000 ∧ s.nodes.length ≤ 999999000 ∧ -1000000000 ≤ s.deep ∧ s.deep ≤ 1000000000 := by unfold RS.sz at hs; omega
  obtain ⟨hml, hwl, hnl, hdl, hd1, hd2⟩ := hsl
  have hgs := (h.nin (i := 0) rfl rfl).1
  obtain ⟨am, cm, rfl, _, _⟩ := h.form 5 rfl
  have c4 := h.cell 0 rfl 4 rfl
  have hlx : ∀ x, s.nest[s.nest.length - 1]? = some x → ¬ x < s.deep + 1 := hlt
  have hnl1 : 0 < s.nest.length := by cases hh : s.nest with | nil => exact absurd hh hn | cons => simp
  obtain ⟨an, cn, rfl, _, hg⟩ := h.form 3 rfl
  obtain ⟨gn, rfl, hgn⟩ := hg hnl1
  obtain ⟨x, hx⟩ : ∃ x, s.nest[s.nest.length - 1]? = some x := ⟨s.nest[s.nest.length - 1], by rw [List.getElem?_eq_getElem]⟩
  have c7 := h.cell 0 rfl 7 rfl
  have z7 := h.froz 0 rfl 7
  have c2 := h.cell 0 rfl 2 rfl
  have cg := h.rcell 3 rfl hgn _ (ints_get hx)
  have zg := h.rfroz 3 rfl hgn (s.nest.length - 1)
  have hgnl := (h.nin (i := 3) rfl hgn).1
  have hgg : gn ≠ gs := fun he => h.ne (i := 3) (j := 0) rfl rfl (by decide) gn hgn (by rw [he]; rfl)
  have hgg2 : gs ≠ gn := hgg.symm
  have hi0 : (0 : Int) ≤ (s.nest.length : Int) - 1 := by omega
  have hi1 : (s.nest.length : Int) - 1 < (s.nest.length : Int) := by omega
  have hi2 : ((s.nest.length : Int) - 1).toNat = s.nest.length - 1 := by omega
  have Hxx := Lib.hid hx
  have hxd := hlx x hx
  have Hx := Lib.hid (maxLast_set s.nest (s.deep + 1) x hx)
  have Hh := Lib.hid h
  have Hkv := Lib.hid hkv
  have Hgn := Lib.hid hgn
  clear hlx hlt h hs hkv hx hn hg hgn
  have hxe : decide (x < s.deep + 1) = false := decide_eq_false hxd
  unfold tokV
  go_enter Try.func25, Try.ntmps25
  go_wp2_with fail
  refine Reg.wp_region_text (by kernel_rfl) (by kernel_rfl) ?_
  go_wp2_with fail
  refine ⟨by kernel_rfl, ?_⟩
  go_wp2_with fail
  go_end0
  refine ⟨rfl, nd, fu, .slice (some ⟨gn, 0, none⟩) s.nest.length cn, wa, .slice am s.marks.length cm, wt, kvs, Hkv.out, ?_⟩
  have h1 := (((Hh.out.set_ 0 rfl 7 (.int .i64 (s.deep + 1))).alloc' (.cells #[.int .i64 nk, .int .i64 na, .int .i64 nv, .string nn] 48)).drew)
  have e : PS.maxLast s.nest (s.deep + 1) = s.nest := by
    rw [Hx.out]
    have : s.nest.set (s.nest.length - 1) (if s.deep + 1 > x then s.deep + 1 else x) = s.nest := by
      rw [if_neg (by omega)]
      exact List.set_getElem?_self' Hxx.out
    exact this
  rw [e]
  simp only [List.set_cons_succ, List.set_cons_zero, RSt, List.cons_append] at h1 ⊢
  exact h1

set_option maxRecDepth 100000 in
set_option maxHeartbeats 8000000 in
theorem act_4008 (h : RI A w0 w gs s rest) (hs : s.sz ≤ 999999000) (next : Tok)  : Calls Try.prog 25 #[.pointer (some ⟨gs, 0, none⟩), .int .i64 4008, tokV next] w fun e w' => e = .returned (.tuple #[]) ∧ RI A w0 w' gs { s with nest := s.nest ++ [0] } rest := by
  obtain ⟨nk, na, nv, nn⟩ := next
  obtain ⟨nd, fu, ne, wa, ma, wt, kvs, hkv, h⟩ := h
  have hsl : s.marks.length ≤ 999999000 ∧ s.wait.length ≤ 999999000 ∧ s.nest.length ≤ 999999000 ∧ s.nodes.length ≤ 999999000 ∧ -1000000000 ≤ s.deep ∧ s.deep ≤ 1000000000 := by unfold RS.sz at hs; omega
  obtain ⟨hml, hwl, hnl, hdl, hd1, hd2⟩ := hsl
  have hgs := (h.nin (i := 0) rfl rfl).1
  obtain ⟨am, cm, rfl, _, _⟩ := h.form 5 rfl
  have c4 := h.cell 0 rfl 4 rfl
  obtain ⟨an, cn, rfl, _, _⟩ := h.form 3 rfl
  have c2 := h.cell 0 rfl 2 rfl
  have z2 := h.froz 0 rfl 2
  obtain ⟨i0, hi0, hz0, hz1, hz2⟩ := info_parts infoInt
  have Hh1 := Lib.hid ((h.alloc' (.cells #[.int .i64 nk, .int .i64 na, .int .i64 nv, .string nn] 48)).alloc [.int .i64 0] 3)
  have Hkv := Lib.hid hkv
  clear h hs hkv
  unfold tokV
  go_enter Try.func25, Try.ntmps25
  go_wp2_with (at_builtin; go_must (refine Hs.push rfl _ _ 33 rfl 3 i0 _ 1 8 (by kernel_rfl) hi0 hz0 hz1 hz2 rfl (Nat.succ_pos _) (Nat.le_of_ble_eq_true rfl) 4 (.slice an s.nest.length cn) s.nest.length (ints s.nest) rfl 0 (w.heap.size + 1) [.int .i64 0] (by simp) rfl rfl rfl rfl (by omega) Hh1.out ?_))
  intro v1 w1 hh2
  obtain ⟨a2, cp2, rfl, _, _⟩ := hh2.form 4 rfl
  have c2' := hh2.cell 1 rfl 2 rfl
  have z2' := hh2.froz 1 rfl 2
  have Hh2 := Lib.hid hh2
  clear hh2
  go_wp2_with fail
  go_end0
  have h1 := (Hh2.out.set_ 1 rfl 2 (.slice a2 (s.nest.length + 1) cp2)).tail
  refine ⟨rfl, nd, fu, .slice a2 (s.nest.length + 1) cp2, wa, .slice am s.marks.length cm, wt, kvs, Hkv.out, ?_⟩
  have e : ints s.nest ++ [Value.int .i64 0] = ints (s.nest ++ [0]) := by simp [ints]
  have e2 : s.nest.length + 1 = (s.nest ++ [0]).length := by simp
  simp only [List.set_cons_succ, List.set_cons_zero, RSt, List.cons_append] at h1 ⊢
  rw [e] at h1
  rw [← e2]
  exact h1

set_option maxRecDepth 100000 in
set_option maxHeartbeats 8000000 in
theorem refOperator_c (k : Int) (h1 : 49 ≤ k) (h2 : k ≤ 67) (w : World) : Calls Try.prog 36 #[.int .i64 k] w fun e w' => e = .returned (.int .i64 (Rf.operator k)) ∧ w = w' := by
  have hk : k = 49 ∨ k = 50 ∨ k = 51 ∨ k = 52 ∨ k = 53 ∨ k = 54 ∨ k = 55 ∨ k = 56 ∨ k = 57 ∨ k = 58 ∨ k = 59 ∨ k = 60 ∨ k = 61 ∨ k = 62 ∨ k = 63 ∨ k = 64 ∨ k = 65 ∨ k = 66 ∨ k = 67 := by omega
  rcases hk with rfl | rfl | rfl | rfl | rfl | rfl | rfl | rfl | rfl | rfl | rfl | rfl | rfl | rfl | rfl | rfl | rfl | rfl | rfl
  all_goals
    go_enter Try.func36, Try.ntmps36
    go_wp2_with fail
    go_ret
    exact ⟨rfl, rfl⟩

set_option maxRecDepth 100000 in
set_option maxHeartbeats 8000000 in
theorem act_4004 (h : RI A w0 w gs s rest) (hs : s.sz ≤ 999999000) (next : Tok) {n : Nd} {f : Nat} {r : List (Nd × Nat)} (hm : s.marks = (n, f) :: r) (hk1 : 49 ≤ s.last.kind) (hk2 : s.last.kind ≤ 67) : Calls Try.prog 25 #[.pointer (some ⟨gs, 0, none⟩), .int .i64 4004, tokV next] w fun e w' => e = .returned (.tuple #[]) ∧ RI A w0 w' gs { s with marks := ({ n with op := Rf.operator s.last.kind, where_ := s.last.at_ }, f) :: r } rest := by
  obtain ⟨nk, na, nv, nn⟩ := next
  obtain ⟨nd, fu, ne, wa, ma, wt, kvs, hkv, h⟩ := h
  have hsl : s.marks.length ≤ 999999000 ∧ s.wait.length ≤ 999999000 ∧ s.nest.length ≤ 999999000 ∧ s.nodes.length ≤ 999999000 ∧ -1000000000 ≤ s.deep ∧ s.deep ≤ 1000000000 := by unfold RS.sz at hs; omega
  obtain ⟨hml, hwl, hnl, hdl, hd1, hd2⟩ := hsl
  have hgs := (h.nin (i := 0) rfl rfl).1
  have hml' : s.marks.length = r.length + 1 := by rw [hm]; rfl
  obtain ⟨am, cm, rfl, _, hg⟩ := h.form 5 rfl
  rw [hml'] at hg
  obtain ⟨gm, rfl, hgm⟩ := hg (Nat.succ_pos _)
  rw [← hml'] at hgm
  have hgml := (h.nin (i := 5) rfl hgm).1
  have hgg : gm ≠ gs := fun he => h.ne (i := 5) (j := 0) rfl rfl (by decide) gm hgm (by rw [he]; rfl)
  have hi0 : (0 : Int) ≤ (s.marks.length : Int) - 1 := by omega
  have hi1 : (s.marks.length : Int) - 1 < (s.marks.length : Int) := by omega
  have hi2 : ((s.marks.length : Int) - 1).toNat = r.length := by omega
  have hxs : begsC s.marks = begsC r ++ begC (n, f) := by rw [hm]; simp [begsC]
  have hrl : (begsC r).length = r.length * 11 := begsC_len' r
  have c8 := h.cell 0 rfl 8 rfl
  have c9 := h.cell 0 rfl 9 rfl
  have c4 := h.cell 0 rfl 4 rfl
  have cm0 : w.cell? ⟨gm, r.length * 11 + 6, none⟩ = some (.int .i64 n.op) := h.rcell 5 rfl hgm _ (by rw [hxs, List.getElem?_append_right (by omega), hrl, Nat.add_sub_cancel_left]; rfl)
  have zm0 : w.frozen? ⟨gm, r.length * 11 + 6, none⟩ = false := h.rfroz 5 rfl hgm _
  have cm1 : w.cell? ⟨gm, r.length * 11 + 2, none⟩ = some (.int .i64 n.where_) := h.rcell 5 rfl hgm _ (by rw [hxs, List.getElem?_append_right (by omega), hrl, Nat.add_sub_cancel_left]; rfl)
  have zm1 : w.frozen? ⟨gm, r.length * 11 + 2, none⟩ = false := h.rfroz 5 rfl hgm _
  have Hh := Lib.hid h
  have Hkv := Lib.hid hkv
  have Hxs := Lib.hid hxs
  have Hrl := Lib.hid hrl
  have Hm := Lib.hid hm
  have Hgm := Lib.hid hgm
  clear h hs hkv hxs hrl hm hgm hg hml'
  unfold tokV
  go_enter Try.func25, Try.ntmps25
  go_wp2_with fail
  generalize hop : Rf.operator s.last.kind = op
  have Hop := Lib.hid hop
  clear hop
  have hi00 : (1 : Int) ≤ (s.marks.length : Int) := by omega
  have hi01 : (0 : Int) < (s.marks.length : Int) := by omega
  have hi02 : 0 < s.marks.length := by omega
  go_region_held3 (fun w' => w'.cell? ⟨gs, 4, none⟩ = some (.slice (some ⟨gm, 0, none⟩) s.marks.length cm) ∧ w'.cell? ⟨gs, 8, none⟩ = some (.int .i64 s.last.kind)) (go_keep)
    (first
      | (go_at_call 36
         refine (refOperator_c _ hk1 hk2 _).mono ?_
         rintro e w' ⟨rfl, rfl⟩
         rw [Hop.out]))
  go_wp2_with fail
  rw [← Hop.out]
  refine Reg.wp_region_text (by kernel_rfl) (by kernel_rfl) ?_
  go_wp2_with fail
  refine ⟨by kernel_rfl, ?_⟩
  go_end0
  have h1 := (((((Hh.out).rset 5 rfl Hgm.out (r.length * 11 + 6) (.int .i64 (Rf.operator s.last.kind))).rset 5 rfl Hgm.out (r.length * 11 + 2) (.int .i64 s.last.at_)).alloc' (.cells #[.int .i64 nk, .int .i64 na, .int .i64 nv, .string nn] 48)).drew).drew
  refine ⟨rfl, nd, fu, ne, wa, .slice (some ⟨gm, 0, none⟩) (r.length + 1) cm, wt, kvs, Hkv.out, ?_⟩
  have e : ((begsC s.marks).set (r.length * 11 + 6) (.int .i64 (Rf.operator s.last.kind))).set (r.length * 11 + 2) (.int .i64 s.last.at_) = begsC (({ n with op := Rf.operator s.last.kind, where_ := s.last.at_ }, f) :: r) := by
    rw [Hxs.out, show begsC (({ n with op := Rf.operator s.last.kind, where_ := s.last.at_ }, f) :: r) = begsC r ++ begC ({ n with op := Rf.operator s.last.kind, where_ := s.last.at_ }, f) by simp [begsC]]
    rw [List.set_append_right _ _ (by rw [Hrl.out]; omega), Hrl.out, Nat.add_sub_cancel_left]
    rw [List.set_append_right _ _ (by rw [Hrl.out]; omega), Hrl.out, Nat.add_sub_cancel_left]
    rfl
  have hml2 : s.marks.length = r.length + 1 := by rw [Hm.out]; rfl
  simp only [List.set_cons_succ, List.set_cons_zero, RSt, List.cons_append] at h1
  rw [e, hml2] at h1
  exact h1
end
end Go.Proofs.Ythodjlhjfaccpaa
