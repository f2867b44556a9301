/- The parser's small methods, the rest: begin, do, enter, done, leaf, left. -/
import Derived.Test.YthodjlhjfaccpaaPb
import Derived.Deep.DeepMust
namespace Go.Proofs.Ythodjlhjfaccpaa
open Go Go.RowKit Mem Pm

theorem infoBegun : (Try.prog.info? 94).map (fun i => (i.zero, i.size, i.bytes)) = some (some (.agg #[.int .i64 0, .int .i64 0, .int .i64 0, .int .i64 0, .int .i64 0, .int .i64 0, .int .i64 0, .int .i64 0, .string ⟨#[]⟩, .slice none 0 0, .int .i64 0]), 11, 112) := by kernel_rfl
theorem infoNode : (Try.prog.info? 42).map (fun i => (i.zero, i.size, i.bytes)) = some (some (.agg #[.int .i64 0, .int .i64 0, .int .i64 0, .int .i64 0, .int .i64 0, .int .i64 0, .int .i64 0, .int .i64 0, .string ⟨#[]⟩, .slice none 0 0]), 10, 104) := by kernel_rfl
theorem infoFunc : (Try.prog.info? 1).map (fun i => (i.zero, i.size, i.bytes)) = some (some .nilFunc, 1, 8) := by kernel_rfl
theorem infoInt : (Try.prog.info? 3).map (fun i => (i.zero, i.size, i.bytes)) = some (some (.int .i64 0), 1, 8) := by kernel_rfl

section
variable {bd : Nat} {L : List Nat} {gp : Nat} {s : PS} {w : World}

set_option maxRecDepth 100000 in
set_option maxHeartbeats 4000000 in
theorem begin_c (h : PInv bd L gp s w) (hL : ∀ k ∈ L, k < w.heap.size) (hs : s.sz ≤ 1000000000) (n : Nd) (k : Nat) (hk : k ≤ s.loose.length) :
    Calls Try.prog 42 #[.pointer (some ⟨gp, 0, none⟩), ndV n (.slice none 0 0), .int .i64 k] w (Post0 bd L gp w (.ok (s.begin_ n k))) := by
  have Hp := Lib.hid h
  obtain ⟨ta, tc, td, nd, fu, lo, be, ne, kvs, h⟩ := h
  obtain ⟨al, cl, rfl, hcl, _⟩ := h.loose.form
  have hc := pcells h.blk
  have z7 := h.blk.frozen 7
  have hgs := h.blk.lt
  have hnl : s.loose.length ≤ 1000000000 ∧ s.begun.length ≤ 1000000000 := by unfold PS.sz at hs; omega
  obtain ⟨hnl, hnb⟩ := hnl
  have hki : (0 : Int) ≤ (s.loose.length : Int) - (k : Int) := by omega
  have hki2 : (s.loose.length : Int) - (k : Int) ≤ 1000000000 := by omega
  have hgs' : gp ≠ w.heap.size := by omega
  have hgs2 : gp ≠ w.heap.size + 1 := by omega
  obtain ⟨i0, hi0, hz0, hz1, hz2⟩ := info_parts infoBegun
  have H := Lib.hid h
  have HL := Lib.hid hL
  clear h hs hL
  unfold ndV
  go_enter Try.func42, Try.ntmps42
  go_wp2_with fail
  refine Reg.wp_region_text (by kernel_rfl) (by kernel_rfl) ?_
  go_wp2_with (at_builtin; refine wp_push rfl _ _ 58 rfl 94 i0 _ 11 112 Try.underlying58 hi0 hz0 hz1 hz2 rfl (Nat.succ_pos _) (Nat.le_of_ble_eq_true rfl) (Out bd L) be s.begun.length (begsC s.begun) [.int .i64 n.kind, .int .i64 n.at_, .int .i64 n.where_, .int .i64 n.close, .int .i64 n.decl, .int .i64 n.type, .int .i64 n.op, .int .i64 n.value, .string n.name, .slice none 0 0, .int .i64 ((s.loose.length : Int) - (k : Int))] (w.heap.size + 1) rfl rfl rfl rfl hnb ?c1 ?c2 ?c3 ?_)
  case c1 => exact (H.out.begun.alloc _).alloc _
  case c2 => exact fun k hk => by have := out_lt Hp.out HL.out k hk; simp; omega
  case c3 => exact heap_alloc2_new w _ _
  intro v1 w1 hown1 hch hat
  obtain ⟨a1, cap1, rfl, _, _⟩ := hown1.form
  have hch0 : Ch (fun k => be.ownBlock = some k) w w1 := (((Ch.refl _ w).alloc _).alloc _).drew.trans hch
  have hgb : be.ownBlock ≠ some gp := H.out.begun.ne_blk H.out.blk (by decide)
  have hb1 := H.out.blk.ch hch0 hgb
  have hc1 := pcells hb1
  have z71 := hb1.frozen 7
  clear hc z7
  go_wp2_with fail
  refine ⟨by kernel_rfl, ?_⟩
  go_end0
  have hchF : Ch (fun k => k = gp ∨ be.ownBlock = some k) w (w1.setCell ⟨gp, 7, none⟩ (.slice a1 (s.begun.length + 1) cap1)) := Ch.setCell (S := fun k => k = gp ∨ be.ownBlock = some k) (p := ⟨gp, 7, none⟩) (hch0.mono fun _ => Or.inr) (.inl rfl) (.slice a1 (s.begun.length + 1) cap1)
  have hgv : (Value.slice a1 (s.begun.length + 1) cap1).ownBlock ≠ some gp := hown1.ne_blk hb1 (by decide)
  have hown2 := hown1.ch (Ch.setCell (S := fun k => k = gp) (p := ⟨gp, 7, none⟩) (Ch.refl _ w1) rfl (.slice a1 (s.begun.length + 1) cap1)) (fun g hg he => hgv (he ▸ hg))
  refine post0_ok (kp_row Hp.out HL.out H.out.begun hchF) rfl ⟨_, _, _, _, _, _, _, _, _, H.out.updBegun (l := (n, s.loose.length - k) :: s.begun) hchF (hb1.set_ 7 (.slice a1 (s.begun.length + 1) cap1)) ?_⟩
  have hl : begsC ((n, s.loose.length - k) :: s.begun) = begsC s.begun ++ begC (n, s.loose.length - k) := by simp [begsC]
  have hn : ((s.loose.length - k : Nat) : Int) = (s.loose.length : Int) - (k : Int) := by omega
  rw [hl, List.length_cons]
  simp only [begC, ndC, List.cons_append, List.nil_append, hn]
  exact hown2

set_option maxRecDepth 100000 in
set_option maxHeartbeats 4000000 in
theorem do_c (h : PInv bd L gp s w) (hL : ∀ k ∈ L, k < w.heap.size) (l : List Sym) (hs : s.sz + l.length ≤ 1000000000) (B : Nat) (hB : Blk w B 1 (l.map (symVal gp))) (hBL : B ∈ L) :
    Calls Try.prog 20 #[.pointer (some ⟨gp, 0, none⟩), .slice (some ⟨B, 0, none⟩) l.length l.length] w (Post0 bd L gp w (.ok (s.do_ l))) := by
  have hll : l.length ≤ 1000000000 := by omega
  have H := Lib.hid h
  have HL := Lib.hid hL
  have HB := Lib.hid hB
  have Hs := Lib.hid hs
  clear h hL hB hs
  go_enter Try.func20, Try.ntmps20
  go_wp2_with fail
  go_loopg [4] l.length (fun m i wr => ∃ k : Nat, k = m ∧ k ≤ l.length ∧ i = .int .i64 ((k : Int) - 1) ∧ Kp (Out bd L) w wr ∧ PInv bd L gp (s.do_ (l.drop k)) wr)
  case atStart => exact ⟨l.length, rfl, Nat.le_refl _, rfl, Kp.refl _ _, by rw [List.drop_length]; exact H.out⟩
  case round =>
    obtain ⟨k, rfl, hkl, rfl, hkp, hp⟩ := hrel
    cases k with
    | zero =>
      have Hkp := Lib.hid hkp
      have Hp := Lib.hid hp
      clear hkp hp
      go_wp2_with fail
      go_end0
      exact post0_ok Hkp.out rfl Hp.out
    | succ k =>
      have hBw := (HB.out.kp hkp (.inr hBL))
      have hBlt := hBw.lt
      have hx : (l.map (symVal gp))[k]? = some (symVal gp l[k]) := by rw [List.getElem?_map, List.getElem?_eq_getElem (by omega)]; rfl
      have hBc : wr.cell? ⟨B, k, none⟩ = some (.func (.func (symFn l[k])) #[.pointer (some ⟨gp, 0, none⟩)] #[]) := by rw [hBw.cell, hx]; rfl
      have Hx := Lib.hid (show s.do_ (l.drop k) = { s.do_ (l.drop (k + 1)) with todo := l[k] :: (s.do_ (l.drop (k + 1))).todo } by unfold PS.do_; rw [List.drop_eq_getElem_cons (by omega)]; rfl)
      have hsl : (s.do_ (l.drop (k + 1))).todo.length ≤ 1000000000 := by have := Hs.out; unfold PS.sz at this; simp [PS.do_]; omega
      have hl2 : ∀ k, Out bd L k → k < wr.heap.size := fun k hk => Nat.lt_of_lt_of_le (out_lt H.out HL.out k hk) hkp.size
      have hLr : ∀ k ∈ L, k < wr.heap.size := fun k hk => hl2 k (.inr hk)
      have Hp := Lib.hid hp
      have Hkp := Lib.hid hkp
      generalize s.do_ (l.drop (k + 1)) = s' at Hp hp Hx hsl
      obtain ⟨ta, tc, td, nd, fu, lo, be, ne, kvs, hp⟩ := hp
      have hc := pcells hp.blk
      have z3 := hp.blk.frozen 3
      have hgs := hp.blk.lt
      have HI := Lib.hid hp
      have HLr := Lib.hid hLr
      have Hl2 := Lib.hid hl2
      have HBw := Lib.hid hBw
      have hkk : ((k + 1 : Nat) : Int) - 1 = (k : Int) := by omega
      have hk1 : (k : Int) < (l.length : Int) := by omega
      have hk0 : (0 : Int) ≤ (k : Int) := by omega
      obtain ⟨i0, hi0, hz0, hz1, hz2⟩ := info_parts infoFunc
      rw [hkk]
      clear hp hkp hBw hx hLr hl2
      go_wp2_with fail
      refine Reg.wp_region_text (by kernel_rfl) (by kernel_rfl) ?_
      go_wp2_with (at_builtin; refine wp_push rfl _ _ 57 rfl 1 i0 _ 1 8 (by kernel_rfl) hi0 hz0 hz1 hz2 rfl (Nat.succ_pos _) (Nat.le_of_ble_eq_true rfl) (Out bd L) td s'.todo.length (s'.todo.reverse.map (symVal gp)) [symVal gp l[k]] wr.heap.size rfl rfl rfl rfl hsl ?c1 ?c2 ?c3 ?_)
      case c1 => exact HI.out.todo.alloc _
      case c2 => exact fun k hk => by have := Hl2.out k hk; simp; omega
      case c3 => exact heap_alloc_new wr _
      intro v1 w1 hown1 hch hat
      obtain ⟨a1, cap1, rfl, _, _⟩ := hown1.form
      have hch0 : Ch (fun k => td.ownBlock = some k) wr w1 := ((Ch.refl _ wr).alloc _).drew.trans hch
      have hb1 := HI.out.blk.ch hch0 (HI.out.todo.ne_blk HI.out.blk (by decide))
      have hc1 := pcells hb1
      have z31 := hb1.frozen 3
      have Hb1 := Lib.hid hb1
      have Hch0 := Lib.hid hch0
      have Hown1 := Lib.hid hown1
      clear hc z3 hb1 hch0 hown1 hch
      go_wp2_with fail
      refine ⟨by kernel_rfl, ?_⟩
      go_wp2_with fail
      have hchF : Ch (fun k => k = gp ∨ td.ownBlock = some k) wr (w1.setCell ⟨gp, 3, none⟩ (.slice a1 (s'.todo.length + 1) cap1)) := Ch.setCell (S := fun k => k = gp ∨ td.ownBlock = some k) (p := ⟨gp, 3, none⟩) (Hch0.out.mono fun _ => Or.inr) (.inl rfl) _
      have hown2 := Hown1.out.ch (Ch.setCell (S := fun k => k = gp) (p := ⟨gp, 3, none⟩) (Ch.refl _ w1) rfl (.slice a1 (s'.todo.length + 1) cap1)) (fun g hg he => Hown1.out.ne_blk Hb1.out (by decide) (he ▸ hg))
      go_roundg k
      case measure => omega
      case rel =>
        refine ⟨k, rfl, by omega, rfl, Hkp.out.trans (kp_row ⟨_, _, _, _, _, _, _, _, _, HI.out⟩ HLr.out HI.out.todo hchF), ?_⟩
        rw [Hx.out]
        exact ⟨_, _, _, _, _, _, _, _, _, HI.out.updTodo (l := l[k] :: s'.todo) hchF (Hb1.out.set_ 3 _) (by simpa using hown2)⟩
end
end Go.Proofs.Ythodjlhjfaccpaa
