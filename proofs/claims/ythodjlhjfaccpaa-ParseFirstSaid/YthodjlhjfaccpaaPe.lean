/- The contracts once more, for the walks of the rules: what is known between two calls, as one word. -/
import Derived.Test.YthodjlhjfaccpaaPd
set_option linter.unusedVariables false
namespace Go.Proofs.Ythodjlhjfaccpaa
open Go Go.RowKit Mem Pm

/-- What is known between two calls. -/
structure St (bd : Nat) (L : List Nat) (gp : Nat) (w0 : World) (Li : List Nat) (b : Nat) (s : PS) (w : World) : Prop where
  p : PInv bd Li gp s w
  kp : Kp (Out bd L) w0 w
  li : ∀ k ∈ Li, k < w.heap.size
  sub : ∀ k ∈ L, k ∈ Li
  sz : s.sz ≤ b
  o0 : ∀ k, Out bd L k → k < w0.heap.size
  g0 : gp < w0.heap.size

section
variable {bd : Nat} {L Li : List Nat} {gp b b' : Nat} {s s' : PS} {w0 w w' : World}

theorem St.start (h : PInv bd L gp s w) (hL : ∀ k ∈ L, k < w.heap.size) (hs : s.sz ≤ b) : St bd L gp w L b s w :=
  ⟨h, Kp.refl _ _, hL, fun _ h => h, hs, out_lt h hL, h.lt⟩
theorem St.le (h : St bd L gp w0 Li b s w) (hb : b ≤ b') : St bd L gp w0 Li b' s w := { h with sz := Nat.le_trans h.sz hb }
theorem St.local_ (h : St bd L gp w0 Li b s w) (o : Obj) : St bd L gp w0 (w.heap.size :: Li) b s (w.alloc o) where
  p := h.p.local_ o
  kp := h.kp.alloc h.o0 o
  li := fun k hk => by
    rcases List.mem_cons.1 hk with rfl | hk
    · simp
    · have := h.li k hk; simp; omega
  sub := fun k hk => List.mem_cons_of_mem _ (h.sub k hk)
  sz := h.sz
  o0 := h.o0
  g0 := h.g0
theorem St.kpl (h : St bd L gp w0 Li b s w) (hk : Kp (Out bd Li) w w') : Kp (Out bd L) w0 w' := h.kp.trans (hk.mono fun _ hk => hk.elim .inl fun hk => .inr (h.sub _ hk))
theorem St.next (h : St bd L gp w0 Li b s w) (hk : Kp (Out bd Li) w w') (hp : PInv bd Li gp s' w') (hs : s'.sz ≤ b') : St bd L gp w0 Li b' s' w' :=
  ⟨hp, h.kpl hk, fun k hm => Nat.lt_of_lt_of_le (h.li k hm) hk.size, h.sub, hs, h.o0, h.g0⟩
theorem St.fr (h : St bd L gp w0 Li b s w) (hf : Fr w w') : St bd L gp w0 Li b s w' := h.next (kp_fr h.p h.li hf) (h.p.fr hf) h.sz
theorem St.drew (h : St bd L gp w0 Li b s w) : St bd L gp w0 Li b s w.drew := h.fr (Ch.refl _ _).drew
/-- A local is stored into. -/
theorem St.store (h : St bd L gp w0 Li b s w) {B : Nat} (hB : w0.heap.size ≤ B) (hm : B ∈ Li) (i : Nat) (u : Value) : St bd L gp w0 Li b s (w.setCell ⟨B, i, none⟩ u) where
  p := by
    obtain ⟨ta, tc, td, nd, fu, lo, be, ne, kvs, hp⟩ := h.p
    exact ⟨ta, tc, td, nd, fu, lo, be, ne, kvs, hp.ch (S := fun k => k = B) (Ch.setCell (S := fun k => k = B) (p := ⟨B, i, none⟩) (Ch.refl _ _) rfl u) fun k hk => ⟨by have := hp.bd_le; have := h.g0; omega, hk ▸ hm⟩⟩
  kp := h.kp.setCell (p := ⟨B, i, none⟩) (fun h' => by have := h.o0 _ h'; dsimp only at this; omega) u
  li := fun k hk => by simpa using h.li k hk
  sub := h.sub
  sz := h.sz
  o0 := h.o0
  g0 := h.g0
theorem St.end_ (h : St bd L gp w0 Li b s w) : Post0 bd L gp w0 (.ok s) (.returned (.tuple #[])) w := post0_ok h.kp rfl (h.p.drop h.sub)
theorem St.endv {α : Type} {val : α → Value} {v : α} (h : St bd L gp w0 Li b s w) : Post bd L gp w0 val (.ok (v, s)) (.returned (val v)) w := post_ok h.kp rfl (h.p.drop h.sub)
/-- The parser's struct, as it lies. -/
theorem St.cells (h : St bd L gp w0 Li b s w) : ∃ ta tc td nd fu lo be ne, w.cell? ⟨gp, 0, none⟩ = some (.slice ta s.toks.length tc) ∧ w.cell? ⟨gp, 1, none⟩ = some (.int .i64 s.en) ∧ w.cell? ⟨gp, 2, none⟩ = some (.int .i64 s.at_) ∧
    w.cell? ⟨gp, 3, none⟩ = some td ∧ w.cell? ⟨gp, 4, none⟩ = some nd ∧ w.cell? ⟨gp, 5, none⟩ = some fu ∧ w.cell? ⟨gp, 6, none⟩ = some lo ∧ w.cell? ⟨gp, 7, none⟩ = some be ∧ w.cell? ⟨gp, 8, none⟩ = some (.int .i64 s.open_) ∧ w.cell? ⟨gp, 9, none⟩ = some ne := by
  obtain ⟨ta, tc, td, nd, fu, lo, be, ne, kvs, hp⟩ := h.p
  exact ⟨ta, tc, td, nd, fu, lo, be, ne, pcells hp.blk⟩
theorem St.fz (h : St bd L gp w0 Li b s w) (i : Nat) : w.frozen? ⟨gp, i, none⟩ = false := by
  obtain ⟨ta, tc, td, nd, fu, lo, be, ne, kvs, hp⟩ := h.p
  exact hp.blk.frozen i
theorem St.ntok (h : St bd L gp w0 Li b s w) : s.toks.length ≤ 1000000000 ∧ s.at_ ≤ s.toks.length := by
  obtain ⟨ta, tc, td, nd, fu, lo, be, ne, kvs, hp⟩ := h.p
  exact ⟨hp.ntok, hp.at_⟩
theorem kind_lt (h : s.kind ≠ 0) : s.at_ < s.toks.length := by
  unfold PS.kind at h
  cases ht : s.toks[s.at_]? with
  | none => rw [ht] at h; exact absurd rfl h
  | some t => exact (List.getElem?_eq_some_iff.1 ht).1
/-- The next token is passed. -/
theorem St.skip (h : St bd L gp w0 Li b s w) (hk : s.at_ < s.toks.length) : St bd L gp w0 Li b s.skip (w.setCell ⟨gp, 2, none⟩ (.int .i64 ((s.at_ : Int) + 1))) := by
  have hch : Ch (fun k => k = gp) w (w.setCell ⟨gp, 2, none⟩ (.int .i64 ((s.at_ : Int) + 1))) := Ch.setCell (S := fun k => k = gp) (p := ⟨gp, 2, none⟩) (Ch.refl _ _) rfl _
  refine h.next (kp_gp h.p h.li hch) ?_ h.sz
  obtain ⟨ta, tc, td, nd, fu, lo, be, ne, kvs, hp⟩ := h.p
  exact ⟨ta, tc, td, nd, fu, lo, be, ne, kvs, hp.upd0 (a' := s.at_ + 1) (o' := s.open_) hch hk (hp.blk.set_ 2 _)⟩
/-- The token that is next. -/
theorem St.tok (h : St bd L gp w0 Li b s w) (hk : s.at_ < s.toks.length) :
    ∃ bt off tc, w.cell? ⟨gp, 0, none⟩ = some (.slice (some ⟨bt, off, none⟩) s.toks.length tc) ∧ bt < bd ∧ w.cell? ⟨bt, off + s.at_ * 4, none⟩ = some (.int .i64 s.cur.kind) ∧ w.cell? ⟨bt, off + s.at_ * 4 + 1, none⟩ = some (.int .i64 s.cur.at_) ∧ w.cell? ⟨bt, off + s.at_ * 4 + 2, none⟩ = some (.int .i64 s.cur.value) ∧ w.cell? ⟨bt, off + s.at_ * 4 + 3, none⟩ = some (.string s.cur.name) := by
  obtain ⟨ta, tc, td, nd, fu, lo, be, ne, kvs, hp⟩ := h.p
  have hc := (pcells hp.blk).1
  have ht : s.toks[s.at_]? = some s.cur := by simp [PS.cur, hk]
  obtain ⟨bt, off, rfl, h1, h2, h3, h4, h5⟩ := hp.tok ht
  exact ⟨bt, off, tc, hc, h1, h2, h3, h4, h5⟩
theorem St.bdle (h : St bd L gp w0 Li b s w) : bd ≤ gp := h.p.bd_le

/-- How a call ends that cannot fail. -/
def PostS (bd : Nat) (L : List Nat) (gp : Nat) (w0 : World) (Li : List Nat) (b : Nat) (w : World) (v : Value) (s' : PS) (e : Ending) (w' : World) : Prop :=
  e = .returned v ∧ Kp (Out bd Li) w w' ∧ St bd L gp w0 Li b s' w'
theorem St.of0 (h : St bd L gp w0 Li b s w) (hs : s'.sz ≤ b') {e : Ending} (hp : Post0 bd Li gp w (.ok s') e w') : PostS bd L gp w0 Li b' w (.tuple #[]) s' e w' :=
  ⟨hp.2.1, hp.1, h.next hp.1 hp.2.2 hs⟩

theorem is_s (h : St bd L gp w0 Li b s w) (k : Int) : Calls Try.prog 43 #[.pointer (some ⟨gp, 0, none⟩), .int .i64 k] w (PostS bd L gp w0 Li b w (.bool (s.kind == k)) s) :=
  (is_c h.p k).mono fun e w' ⟨h1, h2⟩ => ⟨h1, kp_fr h.p h.li h2, h.fr h2⟩
theorem kind_s (h : St bd L gp w0 Li b s w) : Calls Try.prog 53 #[.pointer (some ⟨gp, 0, none⟩)] w (PostS bd L gp w0 Li b w (.int .i64 s.kind) s) :=
  (kind_c h.p).mono fun e w' ⟨h1, h2⟩ => ⟨h1, kp_fr h.p h.li h2, h.fr h2⟩
theorem fail_s (h : St bd L gp w0 Li b s w) : Calls Try.prog 52 #[.pointer (some ⟨gp, 0, none⟩)] w fun e w' => e = thrown s.fault ∧ Kp (Out bd L) w0 w' :=
  (fail_c h.p).mono fun e w' ⟨h1, h2⟩ => ⟨h1, h.kpl (kp_fr h.p h.li h2)⟩
theorem skip_sz : s.skip.sz = s.sz := rfl
theorem take_s (h : St bd L gp w0 Li b s w) (k : Int) (hk : k ≠ 0) : Calls Try.prog 41 #[.pointer (some ⟨gp, 0, none⟩), .int .i64 k] w fun e w' =>
    (s.kind ≠ k ∧ e = thrown s.fault ∧ Kp (Out bd L) w0 w') ∨ (s.kind = k ∧ PostS bd L gp w0 Li b w (.agg #[.int .i64 s.cur.kind, .int .i64 s.cur.at_, .int .i64 s.cur.value, .string s.cur.name]) s.skip e w') := by
  refine (take_c h.p h.li k hk).mono fun e w' hp => ?_
  unfold PS.take at hp
  split at hp
  case isTrue hkk => exact .inr ⟨hkk, hp.2.1, hp.1, h.next hp.1 hp.2.2 h.sz⟩
  case isFalse hkk => exact .inl ⟨hkk, hp.2, h.kpl hp.1⟩
theorem leave_sz : s.leave.sz ≤ s.sz + 1 := by simp only [PS.sz, PS.leave]; omega
theorem leave_s (h : St bd L gp w0 Li b s w) (hb : b ≤ 999999000) : Calls Try.prog 60 #[.pointer (some ⟨gp, 0, none⟩)] w (PostS bd L gp w0 Li (b + 1) w (.tuple #[]) s.leave) :=
  (leave_c h.p (by have := h.sz; omega) h.li).mono fun e w' hp => h.of0 (by have := leave_sz (s := s); have := h.sz; omega) hp
theorem maxLast_len : ∀ (l : List Int) (m : Int), (PS.maxLast l m).length = l.length
  | [], _ => rfl
  | [_], _ => rfl
  | _ :: y :: l, m => by simp only [PS.maxLast, List.length_cons, maxLast_len (y :: l) m]
theorem enter_sz : s.enter.sz ≤ s.sz + 1 := by simp only [PS.sz, PS.enter, maxLast_len]; omega
theorem enter_s (h : St bd L gp w0 Li b s w) (hb : b ≤ 999999000) (hn : s.nest ≠ []) : Calls Try.prog 55 #[.pointer (some ⟨gp, 0, none⟩)] w (PostS bd L gp w0 Li (b + 1) w (.tuple #[]) s.enter) :=
  (enter_c h.p h.li (by have := h.sz; omega) hn).mono fun e w' hp => h.of0 (by have := enter_sz (s := s); have := h.sz; omega) hp
theorem begin_sz (n : Nd) (k : Nat) : (s.begin_ n k).sz = s.sz + 1 := by simp only [PS.sz, PS.begin_, List.length_cons]; omega
theorem begin_s (h : St bd L gp w0 Li b s w) (hb : b ≤ 999999000) (n : Nd) (k : Nat) (hk : k ≤ s.loose.length) : Calls Try.prog 42 #[.pointer (some ⟨gp, 0, none⟩), ndV n (.slice none 0 0), .int .i64 k] w (PostS bd L gp w0 Li (b + 1) w (.tuple #[]) (s.begin_ n k)) :=
  (begin_c h.p h.li (by have := h.sz; omega) n k hk).mono fun e w' hp => h.of0 (by have := begin_sz (s := s) n k; have := h.sz; omega) hp
theorem done_sz : s.done.sz ≤ s.sz + 2 := by
  unfold PS.done
  split
  · exact Nat.le_add_right _ _
  · rename_i n f r hbe
    simp only [PS.sz, hbe, List.length_cons, List.length_append, List.length_take, List.length_nil]; omega
theorem done_s (h : St bd L gp w0 Li b s w) (hb : b ≤ 999999000) (hd : ∃ n f r, s.begun = (n, f) :: r ∧ f ≤ s.loose.length) : Calls Try.prog 57 #[.pointer (some ⟨gp, 0, none⟩)] w (PostS bd L gp w0 Li (b + 2) w (.tuple #[]) s.done) := by
  obtain ⟨n, f, r, hbe, hf⟩ := hd
  exact (done_c h.p h.li (by have := h.sz; omega) n f r hbe hf).mono fun e w' hp => h.of0 (by have := done_sz (s := s); have := h.sz; omega) hp
theorem do_sz (l : List Sym) : (s.do_ l).sz = s.sz + l.length := by simp only [PS.sz, PS.do_, List.length_append]; omega
theorem do_s (h : St bd L gp w0 Li b s w) (hb : b ≤ 999999000) (l : List Sym) (n : Nat) (hl : l.length = n) (hn : n ≤ 10) (B : Nat) (hB : w.heap.size = B) (cs : Array Value) (hcs : cs.toList = l.map (symVal gp)) : Calls Try.prog 20 #[.pointer (some ⟨gp, 0, none⟩), .slice (some ⟨B, 0, none⟩) n n] (w.alloc (.cells cs 1)) (PostS bd L gp w0 (B :: Li) (b + n) (w.alloc (.cells cs 1)) (.tuple #[]) (s.do_ l)) := by
  subst hl hB
  have h' := h.local_ (.cells cs 1)
  refine (do_c h'.p h'.li l (by have := h.sz; omega) w.heap.size ?_ (List.mem_cons_self ..)).mono fun e w' hp => h'.of0 (by have := do_sz (s := s) l; have := h.sz; omega) hp
  have hb := Blk.new w 1 (l.map (symVal gp))
  rw [← hcs] at hb ⊢
  exact hb

set_option maxRecDepth 100000 in
set_option maxHeartbeats 2000000 in
theorem leaf_s (h : St bd L gp w0 Li b s w) (hb : b ≤ 999998000) (n : Nd) : Calls Try.prog 54 #[.pointer (some ⟨gp, 0, none⟩), ndV n (.slice none 0 0)] w (PostS bd L gp w0 Li (b + 3) w (.tuple #[]) (s.leaf n)) := by
  have S0 := Lib.hid (St.start h.p h.li h.sz)
  have H := Lib.hid h
  clear h
  unfold ndV
  go_enter Try.func54, Try.ntmps54
  go_wp2_with fail
  refine (begin_s (S0.out.local_ _) (by omega) n 0 (Nat.zero_le _)).mono ?_
  rintro e w1 ⟨rfl, hk1, hS1⟩
  have S1 := Lib.hid hS1
  clear hk1 hS1
  go_wp2_with fail
  refine (done_s S1.out (by omega) ⟨n, _, _, rfl, Nat.sub_le _ _⟩).mono ?_
  rintro e w2 ⟨rfl, hk2, hS2⟩
  have S2 := Lib.hid hS2
  clear hk2 hS2
  go_wp2_with fail
  go_end0
  exact ⟨rfl, S2.out.kp, H.out.next S2.out.kp (S2.out.p.drop S2.out.sub) S2.out.sz⟩
end
end Go.Proofs.Ythodjlhjfaccpaa
