/- The parser's small methods, the rest: enter, done, leaf, left. -/
import Derived.Test.YthodjlhjfaccpaaPc
namespace Go.Proofs.Ythodjlhjfaccpaa
open Go Go.RowKit Mem Pm

theorem Mem.Own.form2 {A : Nat → Prop} {w : World} {e : TypeId} {size n : Nat} {v : Value} {xs : List Value} (h : Own A w e size v n xs) : (v = .slice none 0 0 ∧ n = 0) ∨ ∃ g cap, v = .slice (some ⟨g, 0, none⟩) n cap ∧ n ≤ cap ∧ g < w.heap.size := by
  rcases h.1.2 with ⟨rfl, rfl⟩ | ⟨g, cap, cur, rfl, _, hh, hl, _⟩
  · exact .inl ⟨rfl, rfl⟩
  · exact .inr ⟨g, cap, rfl, hl, (Array.getElem?_eq_some_iff.1 hh).1⟩
/-- Nothing is appended to nil. -/
theorem Mem.wp_zero {P : Program} {w : World} {ops : Array Oper} {rest : List Oper} {o : Oper} {a : Act} {Q : Exit → Act → World → Prop} (hgd : o.guard = none) (s x : Operand) (t : TypeId)
    (ho : o.op = .call { callee := .builtin .append, args := #[s, x], argTypes := #[t, t] }) (e : TypeId) (i : TypeInfo) (ht : P.underlying t = some (.slice e)) (hi : P.info? e = some i)
    (ad : Option Addr) (c : Nat) (hs : a.eval s = .slice none 0 0) (hx : a.eval x = .slice ad 0 c)
    (h : wpList P ops Q rest (a.put o.dst (.slice none 0 0)) w) : wpList P ops Q (o :: rest) a w := by
  refine wpList_plain hgd fun K hK => ?_
  have hrun : (Builtin.append_ #[t, t] o.type #[.slice none 0 0, .slice ad 0 c]).run P w = .ok (.slice none 0 0) w := by
    cases ad <;> simp [Builtin.append_, run_underlying ht, sizeOf, typeInfo, hi, Builtin.lenOf, Builtin.firstCells, loadCells, loadCellsFrom]
  unfold Oper.wp
  simp [execOp, ho, resolve, invoke, builtin, hs, hx, hrun, Result.andThen]
  exact hK _ _ h

/-- A row's end is copied. -/
theorem Mem.wp_copy {P : Program} {w : World} {ops : Array Oper} {rest : List Oper} {o : Oper} {a : Act} {Q : Exit → Act → World → Prop} (hgd : o.guard = none) (s x : Operand) (t : TypeId)
    (ho : o.op = .call { callee := .builtin .append, args := #[s, x], argTypes := #[t, t] })
    (e : TypeId) (i : TypeInfo) (z : Value) (size bytes : Nat) (ht : P.underlying t = some (.slice e)) (hi : P.info? e = some i) (hz : i.zero = some z)
    (hsize : i.size = size) (hby : i.bytes = bytes) (hzs : z.cells.size = size) (hsz : 0 < size) (hbb : bytes ≤ 1000)
    (A : Nat → Prop) (ad : Option Addr) (m c : Nat) (news : List Value) (hs : a.eval s = .slice none 0 0) (hx : a.eval x = .slice ad m c)
    (hl : news.length = m * size) (h1 : (news.all fun u => u.oneCell') = true) (hn : m ≤ 1000000000) (hA : ∀ k, A k → k < w.heap.size)
    (hc : 0 < m → ∃ d, ad = some d ∧ ∀ j u, news[j]? = some u → w.cell? (d.add j) = some u)
    (h : ∀ v' w', Own A w' e size v' m news → Ch (fun _ => False) w w' → (∀ g, v'.ownBlock = some g → w.heap.size ≤ g) → wpList P ops Q rest (a.put o.dst v') w') : wpList P ops Q (o :: rest) a w := by
  rcases Nat.eq_zero_or_pos m with rfl | hm
  · have hnil : news = [] := List.eq_nil_of_length_eq_zero (by omega)
    subst hnil
    refine wp_zero hgd s x t ho e i ht hi ad c hs hx ?_
    exact h _ _ (Own.nil A w e size) (Ch.refl _ w) (by simp [Value.ownBlock])
  · obtain ⟨d, rfl, hd⟩ := hc hm
    refine wpList_append_lies w hgd s x t ho 0 e i z size bytes ht hi hz hsize hby hzs hsz (.slice none 0 0) 0 [] hs (World.ownsRow_nil w 0 e size) d m c news hx hl hd (fun u hu => List.all_eq_true.1 h1 u hu) hm ?_ ?_ (Nat.zero_le _) w.heap.size rfl ?_
    · simp only [maxLen]; omega
    · have : (0 + m) * bytes ≤ 1000000000 * 1000 := Nat.mul_le_mul (by omega) hbb
      omega
    · intro g cap w' hown' hgr hat _
      have hat' : g = w.heap.size := by
        rcases hat with h2 | h2
        · simp [Value.ownBlock] at h2
        · exact h2
      subst hat'
      rw [Nat.zero_add] at hown' ⊢
      rw [List.nil_append] at hown'
      refine h _ _ ⟨hown', fun k hk h3 => ?_⟩ ((Ch.refl _ _).grown hgr fun g hg => absurd hg (by simp [Value.ownBlock])) ?_
      · have hk' : k = w.heap.size := by simpa [Value.ownBlock] using hk.symm
        subst hk'
        exact absurd (hA _ h3) (Nat.lt_irrefl _)
      · intro k hk
        have hk' : k = w.heap.size := by simpa [Value.ownBlock] using hk.symm
        omega

section
variable {bd : Nat} {L : List Nat} {gp : Nat} {s : PS} {w : World}

theorem ints_len (l : List Int) : (ints l).length = l.length := by simp [ints]
theorem ints_get {l : List Int} {i : Nat} {x : Int} (h : l[i]? = some x) : (ints l)[i]? = some (.int .i64 x) := by simp [ints, h]
theorem maxLast_set : ∀ (l : List Int) (m x : Int), l[l.length - 1]? = some x → PS.maxLast l m = l.set (l.length - 1) (if m > x then m else x)
  | [], m, x, h => by simp at h
  | [y], m, x, h => by simp at h; subst h; simp [PS.maxLast]; split <;> omega
  | y :: z :: l, m, x, h => by
    have := maxLast_set (z :: l) m x (by simpa using h)
    simp only [PS.maxLast, this]
    simp

set_option maxRecDepth 100000 in
set_option maxHeartbeats 4000000 in
theorem enter_c (h : PInv bd L gp s w) (hL : ∀ k ∈ L, k < w.heap.size) (hs : s.sz ≤ 1000000000) (hne : s.nest ≠ []) :
    Calls Try.prog 55 #[.pointer (some ⟨gp, 0, none⟩)] w (Post0 bd L gp w (.ok s.enter)) := by
  have Hp := Lib.hid h
  obtain ⟨ta, tc, td, nd, fu, lo, be, ne, kvs, h⟩ := h
  have hnl : 0 < s.nest.length := by cases hh : s.nest with | nil => exact absurd hh hne | cons => simp
  obtain ⟨a, cap, rfl, hcap, hg⟩ := h.nest.form
  obtain ⟨g, rfl, hgo⟩ := hg hnl
  have hx : ∃ x, s.nest[s.nest.length - 1]? = some x := ⟨s.nest[s.nest.length - 1], by rw [List.getElem?_eq_getElem]⟩
  obtain ⟨x, hx⟩ := hx
  have hc := pcells h.blk
  have z8 := h.blk.frozen 8
  have zg := h.nest.frozen hgo (s.nest.length - 1)
  have cg := h.nest.cell hgo (ints_get hx)
  have hgg : g ≠ gp := fun he => h.nest.ne_blk h.blk (by decide) (he ▸ hgo)
  have ho : (-1000000000 : Int) ≤ s.open_ ∧ s.open_ ≤ 1000000000 ∧ s.nest.length ≤ 1000000000 := by unfold PS.sz at hs; omega
  obtain ⟨ho1, ho2, ho3⟩ := ho
  have hi0 : (0 : Int) ≤ (s.nest.length : Int) - 1 := by omega
  have hi1 : (s.nest.length : Int) - 1 < (s.nest.length : Int) := by omega
  have hi2 : ((s.nest.length : Int) - 1).toNat = s.nest.length - 1 := by omega
  have Hx := Lib.hid (maxLast_set s.nest (s.open_ + 1) x hx)
  have H := Lib.hid h
  have HL := Lib.hid hL
  have key : ∀ m, m = (if s.open_ + 1 > x then s.open_ + 1 else x) → Post0 bd L gp w (.ok s.enter) (.returned (.tuple #[])) (((w.setCell ⟨gp, 8, none⟩ (.int .i64 (s.open_ + 1))).drew).setCell ⟨g, s.nest.length - 1, none⟩ (.int .i64 m)) := by
    intro m hm
    rw [← hm] at Hx
    have hch1 : Ch (fun k => k = gp) w (w.setCell ⟨gp, 8, none⟩ (.int .i64 (s.open_ + 1))).drew := (Ch.setCell (S := fun k => k = gp) (p := ⟨gp, 8, none⟩) (Ch.refl _ _) rfl _).drew
    have P1 := h.upd0 (o' := s.open_ + 1) hch1 h.at_ (h.blk.set_ 8 _)
    have hch2 : Ch (fun k => k = gp ∨ (Value.slice (some ⟨g, 0, none⟩) s.nest.length cap).ownBlock = some k) (w.setCell ⟨gp, 8, none⟩ (.int .i64 (s.open_ + 1))).drew (((w.setCell ⟨gp, 8, none⟩ (.int .i64 (s.open_ + 1))).drew).setCell ⟨g, s.nest.length - 1, none⟩ (.int .i64 m)) := Ch.setCell (S := fun k => k = gp ∨ (Value.slice (some ⟨g, 0, none⟩) s.nest.length cap).ownBlock = some k) (p := ⟨g, s.nest.length - 1, none⟩) (Ch.refl _ _) (.inr hgo) _
    have P2 := P1.updNest (l := PS.maxLast s.nest (s.open_ + 1)) hch2 (P1.blk.far (p := ⟨g, s.nest.length - 1, none⟩) (fun he => hgg he.symm) (.int .i64 m)) (by
      rw [Hx.out, List.length_set]
      have := P1.nest.set_ hgo (s.nest.length - 1) (.int .i64 m)
      simpa [ints, List.map_set] using this) (.inl rfl)
    refine post0_ok ?_ rfl ⟨_, _, _, _, _, _, _, _, _, P2⟩
    exact kp_row Hp.out hL h.nest ((hch1.mono fun _ => Or.inl).trans hch2)
  clear h hs hL hx hne
  go_enter Try.func55, Try.ntmps55
  go_wp2_with fail
  refine Reg.wp_region_text (by kernel_rfl) (by kernel_rfl) ?_
  go_wp2_with fail
  all_goals
    refine ⟨by kernel_rfl, ?_⟩
    go_end0
    refine key _ ?_
    split <;> omega

set_option maxRecDepth 100000 in
set_option maxHeartbeats 4000000 in
theorem done_c (h : PInv bd L gp s w) (hL : ∀ k ∈ L, k < w.heap.size) (hs : s.sz ≤ 1000000000) (n : Nd) (f : Nat) (r : List (Nd × Nat)) (hbe : s.begun = (n, f) :: r) (hf : f ≤ s.loose.length) :
    Calls Try.prog 57 #[.pointer (some ⟨gp, 0, none⟩)] w (Post0 bd L gp w (.ok s.done)) := by
  have Hp := Lib.hid h
  obtain ⟨ta, tc, td, nd, fu, lo, be, ne, kvs, h⟩ := h
  have hbl : s.begun.length = r.length + 1 := by rw [hbe]; rfl
  obtain ⟨ab, capb, rfl, hcapb, hgb⟩ := h.begun.form
  obtain ⟨gb, rfl, hgbo⟩ := hgb (by omega)
  obtain ⟨an, capn, rfl, _, _⟩ := h.nodes.form
  have hc := pcells h.blk
  have z7 := h.blk.frozen 7
  have hgg : gb ≠ gp := fun he => h.begun.ne_blk h.blk (by decide) (he ▸ hgbo)
  have hlt := h.blk.lt
  have hbc : begsC s.begun = begsC r ++ begC (n, f) := by rw [hbe]; simp [begsC]
  have hbl2 : (begsC r).length = r.length * 11 := by
    have h1 := h.begun.len
    rw [hbc, hbl] at h1
    simp [begC, ndC] at h1
    omega
  have bc : ∀ j u, (begC (n, f))[j]? = some u → w.cell? ⟨gb, r.length * 11 + j, none⟩ = some u := fun j u hu => h.begun.cell hgbo (by rw [hbc, ← hbl2, List.getElem?_append_right (by omega), Nat.add_sub_cancel_left]; exact hu)
  have b0 := bc 0 _ rfl
  have b1 := bc 1 _ rfl
  have b2 := bc 2 _ rfl
  have b3 := bc 3 _ rfl
  have b4 := bc 4 _ rfl
  have b5 := bc 5 _ rfl
  have b6 := bc 6 _ rfl
  have b7 := bc 7 _ rfl
  have b8 := bc 8 _ rfl
  have b9 := bc 9 _ rfl
  have b10 := bc 10 _ rfl
  rw [Nat.add_zero] at b0
  have hi0 : (0 : Int) ≤ (s.begun.length : Int) - 1 := by omega
  have hi1 : (s.begun.length : Int) - 1 < (s.begun.length : Int) := by omega
  have hi2 : ((s.begun.length : Int) - 1).toNat = r.length := by omega
  have hnb : s.begun.length ≤ 1000000000 ∧ s.loose.length ≤ 1000000000 ∧ s.nodes.length ≤ 1000000000 := by unfold PS.sz at hs; omega
  obtain ⟨hnb, hnl, hnn⟩ := hnb
  have hne : w.heap.size ≠ gp := by omega
  have hne2 : gp ≠ w.heap.size := by omega
  have hgbl := h.begun.lt hgbo
  have hne3 : gb ≠ w.heap.size := by omega
  have H := Lib.hid h
  have HL := Lib.hid hL
  have Hbe := Lib.hid hbe
  clear h hs hL hbe bc hbc hbl2
  go_enter Try.func57, Try.ntmps57
  go_wp2_with fail
  refine Reg.wp_region_text (by kernel_rfl) (by kernel_rfl) ?_
  go_wp2_with fail
  refine ⟨by kernel_rfl, ?_⟩
  generalize hw1 : World.drew (w.alloc _) = w1
  have hf01 : Fr w w1 := by rw [← hw1]; exact ((Ch.refl _ _).alloc _).drew
  have hB1 : Blk w1 w.heap.size 94 (begC (n, f)) := by rw [← hw1]; exact (Blk.new w _ _).drew
  have P0 := (H.out.mono (L' := w.heap.size :: L) (fun k hk hm => by rcases List.mem_cons.1 hm with h1 | h1; omega; exact .inr h1)).fr hf01
  clear hw1 hc z7 b0 b1 b2 b3 b4 b5 b6 b7 b8 b9 b10
  have hc := pcells P0.blk
  have z7 := P0.blk.frozen 7
  have HP0 := Lib.hid P0
  have HB1 := Lib.hid hB1
  have Hf01 := Lib.hid hf01
  have hO1 : ∀ k, Out bd (w.heap.size :: L) k → k < w1.heap.size := by
    intro k hk
    rcases hk with hk | hk
    · have := P0.bd_le; have := P0.lt; omega
    · rcases List.mem_cons.1 hk with rfl | hk
      · exact hB1.lt
      · exact Nat.lt_of_lt_of_le (HL.out k hk) hf01.size
  have HO1 := Lib.hid hO1
  clear P0 hB1 hf01 hO1
  go_wp2_with fail
  refine Reg.wp_region_text (by kernel_rfl) (by kernel_rfl) ?_
  go_wp2_with fail
  refine ⟨by kernel_rfl, ?_⟩
  generalize hw2 : World.drew (w1.setCell _ _) = w2
  have hch12 : Ch (fun k => k = gp ∨ (Value.slice (some ⟨gb, 0, none⟩) s.begun.length capb).ownBlock = some k) w1 w2 := by rw [← hw2]; exact (Ch.setCell (S := fun k => k = gp ∨ (Value.slice (some ⟨gb, 0, none⟩) s.begun.length capb).ownBlock = some k) (p := ⟨gp, 7, none⟩) (Ch.refl _ _) (.inl rfl) _).drew
  have P1 := HP0.out.updBegun (be' := .slice (some ⟨gb, 0, none⟩) r.length capb) (l := r) hch12 (by rw [← hw2]; exact (HP0.out.blk.set_ 7 _).drew) (by
    have h1 := HP0.out.begun.cut (k := r.length) (by omega)
    have h2 : (begsC s.begun).take (r.length * 11) = begsC r := by
      have hbc : begsC s.begun = begsC r ++ begC (n, f) := by rw [Hbe.out]; simp [begsC]
      have h3 := HP0.out.begun.len
      rw [hbc] at h3 ⊢
      rw [List.take_append_of_le_length (by simp [begC, ndC] at h3; omega), List.take_of_length_le (by simp [begC, ndC] at h3; omega)]
    rw [h2] at h1
    rw [← hw2]
    exact (h1.ch (Ch.setCell (S := fun k => k = gp) (p := ⟨gp, 7, none⟩) (Ch.refl _ _) rfl _) (fun g hg he => h1.ne_blk HP0.out.blk (by decide) (he ▸ hg))).drew)
  have hB2 : Blk w2 w.heap.size 94 (begC (n, f)) := by rw [← hw2]; exact (HB1.out.far (p := ⟨gp, 7, none⟩) hne _).drew
  clear hw2 hc z7
  have hc := pcells P1.blk
  have z6 := P1.blk.frozen 6
  have hlof := P1.loose.form2
  have cB10 : w2.cell? ⟨w.heap.size, 10, none⟩ = some (.int .i64 f) := hB2.cell 10
  have zB9 := hB2.frozen 9
  have hff : (f : Int) ≤ (s.loose.length : Int) := by omega
  have hff0 : (0 : Int) ≤ (f : Int) := by omega
  have HP1 := Lib.hid P1
  have HB2 := Lib.hid hB2
  have Hch12 := Lib.hid hch12
  clear P1 hB2 hch12
  obtain ⟨i0, hi0, hz0, hz1, hz2⟩ := info_parts infoInt
  have hc5 : ∀ (d : Addr), (∃ cl, lo = .slice (some d) s.loose.length cl) → 0 < s.loose.length - f → ∀ j u, (ints (s.loose.drop f))[j]? = some u → w2.cell? ⟨d.block, f + j, none⟩ = some u := by
    rintro d ⟨cl, rfl⟩ hm j u hu
    refine HP1.out.loose.cell (g := d.block) rfl ?_
    simpa [ints] using hu
  have Hc5 := Lib.hid hc5
  clear hc5
  have hcl : (lo = .slice none 0 0 ∧ s.loose.length = 0 ∧ f = 0) ∨ (∃ gl, lo = .slice (some ⟨gl, 0, none⟩) s.loose.length f ∧ s.loose.length ≤ f ∧ gl < w2.heap.size) ∨ ∃ gl cl, lo = .slice (some ⟨gl, 0, none⟩) s.loose.length cl ∧ s.loose.length ≤ cl ∧ gl < w2.heap.size ∧ ¬ cl = f := by
    rcases hlof with ⟨rfl, hl0⟩ | ⟨gl, cl, rfl, hlc, hgl⟩
    · exact .inl ⟨rfl, hl0, by dsimp only at hl0; omega⟩
    · by_cases hcf : cl = f
      · subst hcf; exact .inr (.inl ⟨gl, rfl, hlc, hgl⟩)
      · exact .inr (.inr ⟨gl, cl, rfl, hlc, hgl, hcf⟩)
  clear hlof
  have hcut : ∃ lo1, (∀ (A : Nat → Prop) (w : World), Own A w 3 1 lo s.loose.length (ints s.loose) → Own A w 3 1 lo1 f (ints (s.loose.take f))) ∧ lo1.ownBlock = lo.ownBlock ∧ ((lo = .slice none 0 0 ∧ lo1 = .slice none 0 0) ∨ ∃ a cl, lo = .slice (some a) s.loose.length cl ∧ lo1 = .slice (some a) f cl) := by
    have h2 : (ints s.loose).take (f * 1) = ints (s.loose.take f) := by simp [ints]
    rcases hcl with ⟨h1, h3, h4⟩ | ⟨gl, h1, _⟩ | ⟨gl, cl, h1, _⟩
    · refine ⟨.slice none 0 0, fun A w h => ?_, by rw [h1], .inl ⟨h1, rfl⟩⟩
      have h5 : s.loose = [] := List.eq_nil_of_length_eq_zero h3
      rw [h4, h5]
      exact Own.nil A w 3 1
    · refine ⟨.slice (some ⟨gl, 0, none⟩) f f, fun A w h => ?_, by rw [h1]; rfl, .inr ⟨_, _, h1, rfl⟩⟩
      rw [h1] at h
      have := h.cut hf
      rwa [h2] at this
    · refine ⟨.slice (some ⟨gl, 0, none⟩) f cl, fun A w h => ?_, by rw [h1]; rfl, .inr ⟨_, _, h1, rfl⟩⟩
      rw [h1] at h
      have := h.cut hf
      rwa [h2] at this
  obtain ⟨lo1, hcut1, hcut2, hcut3⟩ := hcut
  have Hcut1 := Lib.hid hcut1
  have Hcut2 := Lib.hid hcut2
  have hk3 : ∃ k3, k3 = s.loose.length - f := ⟨_, rfl⟩
  obtain ⟨k3, hk3⟩ := hk3
  have hnb3 : k3 ≤ 1000000000 := by omega
  have hlb : ∀ g, lo.ownBlock = some g → g < w2.heap.size := fun g hg => HP1.out.loose.lt hg
  have Hlb := Lib.hid hlb
  clear hcut1 hcut2 hlb
  rcases hcl with ⟨rfl, hl0, rfl⟩ | ⟨gl, rfl, hlc, hgl⟩ | ⟨gl, cl, rfl, hlc, hgl, hcf⟩
  case' inl => have Hk30 := Lib.hid (show k3 = 0 by omega)
  case' inl => have Hl0 := Lib.hid hl0
  case' inl => clear hl0
  case' inl => have hl1 : lo1 = .slice none 0 0 := by rcases hcut3 with ⟨_, h1⟩ | ⟨a, cl, h1, _⟩; exact h1; exact absurd h1 (by simp)
  case' inr.inl => have hfc : f ≤ f := Nat.le_refl _
  case' inr.inl => have Hk30 := Lib.hid (show k3 = 0 by omega)
  case' inr.inl => have hl1 : lo1 = .slice (some ⟨gl, 0, none⟩) f f := by rcases hcut3 with ⟨h1, _⟩ | ⟨a, cl, h1, h2⟩; exact absurd h1 (by simp); (simp only [Value.slice.injEq, Option.some.injEq] at h1; obtain ⟨rfl, _, rfl⟩ := h1; exact h2)
  case' inr.inr => have hfc : f ≤ cl := by omega
  case' inr.inr => have hl1 : lo1 = .slice (some ⟨gl, 0, none⟩) f cl := by rcases hcut3 with ⟨h1, _⟩ | ⟨a, cl, h1, h2⟩; exact absurd h1 (by simp); (simp only [Value.slice.injEq, Option.some.injEq] at h1; obtain ⟨rfl, _, rfl⟩ := h1; exact h2)
  case inl =>
    have Hl1 := Lib.hid hl1
    have Hk3 := Lib.hid hk3
    clear hl1 hk3 hcut3
    go_wp2_with fail
    refine Reg.wp_region_text (by kernel_rfl) (by kernel_rfl) ?_
    go_wp2_with (at_builtin; go_must (refine wp_copy rfl _ _ 33 rfl 3 i0 _ 1 8 (by kernel_rfl) hi0 hz0 hz1 hz2 rfl (Nat.succ_pos _) (Nat.le_of_ble_eq_true rfl) (Out bd (w.heap.size :: L)) _ _ _ (ints (s.loose.drop 0)) rfl rfl ?c1 ?c2 ?c3 ?c4 ?c5 ?_))
    case c1 => first | (rw [ints_len, List.length_drop]; omega) | (have := Hl0.out; rw [ints_len, List.length_drop]; omega)
    case c2 => exact List.all_eq_true.2 fun u hu => by obtain ⟨x, _, rfl⟩ := List.mem_map.1 hu; rfl
    case c3 => omega
    case c4 => exact fun k hk => Nat.lt_of_lt_of_le (HO1.out k hk) Hch12.out.size
    case c5 => first | (intro hm; exact absurd hm (by omega)) | (intro hm; exact Hc5.out ⟨gl, 0, none⟩ ⟨_, rfl⟩ hm) | (intro hm; exact ⟨_, rfl, fun j u hu => by rw [Addr.add_lit]; exact Hc5.out ⟨gl, 0, none⟩ ⟨_, rfl⟩ hm j u hu⟩)
    intro v3 w3 hown3 hfr3 hnew3
    have hown3' : Own (Out bd (w.heap.size :: L)) w3 3 1 v3 k3 (ints (s.loose.drop 0)) := by first | (rw [Hk3.out]; exact hown3) | (rw [Hk30.out]; exact hown3)
    clear hown3
    have hown3 := hown3'
    clear hown3'
    obtain ⟨a3, cap3, rfl, _, _⟩ := hown3.form
    have P2 := HP1.out.fr ((Ch.refl (fun _ => False) _).drew.trans hfr3)
    have hB3 := HB2.out.ch ((Ch.refl (fun _ => False) _).drew.trans hfr3) id
    have hc3 := pcells P2.blk
    have zB3 := hB3.frozen 9
    have z63 := P2.blk.frozen 6
    have cB9 : w3.cell? ⟨w.heap.size, 9, none⟩ = some (.slice none 0 0) := hB3.cell 9
    have HP2 := Lib.hid P2
    have HB3 := Lib.hid hB3
    have Hfr3 := Lib.hid hfr3
    have Hown3 := Lib.hid hown3
    have Hnew3 := Lib.hid hnew3
    clear hc z6 cB10 zB9 P2 hB3 hfr3 hown3 hnew3
    go_wp2_with fail
    refine ⟨by kernel_rfl, ?_⟩
    generalize hw4 : World.setCell w3 _ _ = w4
    have hch34 : Ch (fun k => k = w.heap.size) w3 w4 := by rw [← hw4]; exact Ch.setCell (S := fun k => k = w.heap.size) (p := ⟨w.heap.size, 9, none⟩) (Ch.refl _ _) rfl _
    have P3 := HP2.out.ch hch34 (fun k hk => ⟨by have := HP2.out.bd_le; omega, by simp [hk]⟩)
    have hB4 : Blk w4 w.heap.size 94 (ndC n (.slice a3 k3 cap3) ++ [.int .i64 0]) := by rw [← hw4]; exact HB3.out.set_ 9 _
    have hown4 := Hown3.out.ch hch34 (fun g hg he => Hown3.out.2 g hg (.inr (by simp [he])))
    clear hw4 hc3 zB3 z63 cB9
    have hc4 := pcells P3.blk
    have z64 := P3.blk.frozen 6
    have cB10 : w4.cell? ⟨w.heap.size, 10, none⟩ = some (.int .i64 0) := hB4.cell 10
    have HP3 := Lib.hid P3
    have HB4 := Lib.hid hB4
    have Hch34 := Lib.hid hch34
    have Hown4 := Lib.hid hown4
    clear P3 hB4 hch34 hown4
    have hS14 : w1.heap.size ≤ w4.heap.size := Nat.le_trans Hch12.out.size (Nat.le_trans Hfr3.out.size Hch34.out.size)
    have hO4 : ∀ k, Out bd (w.heap.size :: L) k → k < w4.heap.size := fun k hk => Nat.lt_of_lt_of_le (HO1.out k hk) hS14
    have HO4 := Lib.hid hO4
    clear hO4 hS14
    go_wp2_with fail
    refine Reg.wp_region_text (by kernel_rfl) (by kernel_rfl) ?_
    go_wp2_with (at_builtin; go_must (refine wp_push rfl _ _ 33 rfl 3 i0 _ 1 8 (by kernel_rfl) hi0 hz0 hz1 hz2 rfl (Nat.succ_pos _) (Nat.le_of_ble_eq_true rfl) (Out bd (w.heap.size :: L)) lo1 0 (ints (s.loose.take 0)) [.int .i64 s.nodes.length] w4.heap.size Hl1.out.symm rfl rfl rfl (by omega) ?c1 ?c2 ?c3 ?_))
    case c1 =>
      exact (Hcut1.out _ _ HP3.out.loose).drew.alloc _
    case c2 => exact fun k hk => Nat.lt_of_lt_of_le (HO4.out k hk) (by simp)
    case c3 => exact heap_alloc_new w4.drew _
    intro v5 w5 hown5 hch5 hat5
    obtain ⟨a5, cap5, rfl, _, _⟩ := hown5.form
    have hch45 := ((Ch.refl (fun k => lo1.ownBlock = some k) w4).drew.alloc (.cells #[.int .i64 s.nodes.length] 3)).trans hch5
    have hb5 := HP3.out.blk.ch hch45 ((Hcut1.out _ _ HP3.out.loose).ne_blk HP3.out.blk (by decide))
    have hB5 : Blk w5 w.heap.size 94 (ndC n (.slice a3 k3 cap3) ++ [.int .i64 0]) := HB4.out.ch hch45 ((Hcut1.out _ _ HP3.out.loose).ne_blk HB4.out (by decide))
    have hown45 := Hown4.out.ch hch45 (fun g hg he => by have h1 := Hnew3.out g hg; have h2 := Hlb.out g (Hcut2.out ▸ he); omega)
    have hc5 := pcells hb5
    have z65 := hb5.frozen 6
    have Hb5 := Lib.hid hb5
    have HB5 := Lib.hid hB5
    have Hch45 := Lib.hid hch45
    have Hown5 := Lib.hid hown5
    have Hown45 := Lib.hid hown45
    have Hat5 := Lib.hid hat5
    clear hc4 z64 cB10 hb5 hB5 hch45 hown5 hown45 hat5 hch5
    go_wp2_with fail
    refine ⟨by kernel_rfl, ?_⟩
    generalize hw6 : World.setCell w5 _ _ = w6
    have hch56 : Ch (fun k => k = gp) w5 w6 := by rw [← hw6]; exact Ch.setCell (S := fun k => k = gp) (p := ⟨gp, 6, none⟩) (Ch.refl _ _) rfl _
    have P4 := HP3.out.updLoose (lo' := .slice a5 (0 + 1) cap5) (l := s.loose.take 0 ++ [(s.nodes.length : Int)]) ((Hch45.out.mono fun _ he => Or.inr (Hcut2.out ▸ he)).trans (hch56.mono fun _ => Or.inl)) (by rw [← hw6]; exact Hb5.out.set_ 6 _) (by
      have h1 := Hown5.out.ch hch56 (fun g hg he => Hown5.out.ne_blk Hb5.out (by decide) (he ▸ hg))
      simpa [ints, Nat.min_eq_left hf] using h1) (by
      rcases Hat5.out with h1 | h1
      · exact .inl (h1.trans Hcut2.out)
      · exact .inr fun g hg => by have := h1 g hg; omega)
    have hB6 : Blk w6 w.heap.size 94 (ndC n (.slice a3 k3 cap3) ++ [.int .i64 0]) := HB5.out.ch hch56 hne
    have hown6 := Hown45.out.ch hch56 (fun g hg he => Hown45.out.ne_blk Hb5.out (by decide) (he ▸ hg))
    clear hw6 hc5 z65
    have hc6 := pcells P4.blk
    have z66 := P4.blk.frozen 4
    have c0 : w6.cell? ⟨w.heap.size, 0, none⟩ = some (.int .i64 n.kind) := hB6.cell 0
    have c1 : w6.cell? ⟨w.heap.size, 1, none⟩ = some (.int .i64 n.at_) := hB6.cell 1
    have c2 : w6.cell? ⟨w.heap.size, 2, none⟩ = some (.int .i64 n.where_) := hB6.cell 2
    have c3 : w6.cell? ⟨w.heap.size, 3, none⟩ = some (.int .i64 n.close) := hB6.cell 3
    have c4 : w6.cell? ⟨w.heap.size, 4, none⟩ = some (.int .i64 n.decl) := hB6.cell 4
    have c5 : w6.cell? ⟨w.heap.size, 5, none⟩ = some (.int .i64 n.type) := hB6.cell 5
    have c6 : w6.cell? ⟨w.heap.size, 6, none⟩ = some (.int .i64 n.op) := hB6.cell 6
    have c7 : w6.cell? ⟨w.heap.size, 7, none⟩ = some (.int .i64 n.value) := hB6.cell 7
    have c8 : w6.cell? ⟨w.heap.size, 8, none⟩ = some (.string n.name) := hB6.cell 8
    have c9 : w6.cell? ⟨w.heap.size, 9, none⟩ = some (.slice a3 k3 cap3) := hB6.cell 9
    obtain ⟨j0, hj0, hy0, hy1, hy2⟩ := info_parts infoNode
    have HP4 := Lib.hid P4
    have HB6 := Lib.hid hB6
    have Hch56 := Lib.hid hch56
    have Hown6 := Lib.hid hown6
    clear P4 hB6 hch56 hown6
    go_wp2_with fail
    refine Reg.wp_region_text (by kernel_rfl) (by kernel_rfl) ?_
    go_wp2_with (at_builtin; go_must (refine wp_push rfl _ _ 32 rfl 42 j0 _ 10 104 (by kernel_rfl) hj0 hy0 hy1 hy2 rfl (Nat.succ_pos _) (Nat.le_of_ble_eq_true rfl) (Out bd (w.heap.size :: L)) (.slice an s.nodes.length capn) s.nodes.length (ndsC (s.nodes.zip kvs)) (ndC n (.slice a3 k3 cap3)) w6.heap.size rfl rfl rfl rfl hnn ?c1 ?c2 ?c3 ?_))
    case c1 => exact HP4.out.nodes.drew.alloc _
    case c2 => exact fun k hk => Nat.lt_of_lt_of_le (HO4.out k hk) (Nat.le_trans (Nat.le_trans Hch45.out.size Hch56.out.size) (by simp))
    case c3 => exact heap_alloc_new w6.drew _
    intro v7 w7 hown7 hch7 hat7
    obtain ⟨a7, cap7, rfl, _, _⟩ := hown7.form
    have hch67 := ((Ch.refl (fun k => (Value.slice an s.nodes.length capn).ownBlock = some k) w6).drew.alloc (.cells (ndC n (.slice a3 k3 cap3)).toArray 42)).trans hch7
    have hb7 := HP4.out.blk.ch hch67 (HP4.out.nodes.ne_blk HP4.out.blk (by decide))
    have hc7 := pcells hb7
    have z67 := hb7.frozen 4
    have Hb7 := Lib.hid hb7
    have Hch67 := Lib.hid hch67
    have Hown7 := Lib.hid hown7
    clear hc6 z66 hb7 hch67 hown7 hch7 c0 c1 c2 c3 c4 c5 c6 c7 c8 c9
    go_wp2_with fail
    refine ⟨by kernel_rfl, ?_⟩
    go_end0
    have hch78 : Ch (fun k => k = gp) w7 (w7.setCell ⟨gp, 4, none⟩ (.slice a7 (s.nodes.length + 1) cap7)) := Ch.setCell (S := fun k => k = gp) (p := ⟨gp, 4, none⟩) (Ch.refl _ _) rfl _
    have hlen : ({ n with kids := s.loose.drop 0 } : Nd).kids.length = k3 := (List.length_drop ..).trans Hk3.out.symm
    have hnew : ∀ (v : Value), (∀ g, v.ownBlock = some g → g < w2.heap.size) → NeB v (.slice a3 k3 cap3) := fun v hv g hg hg' => by have h1 := hv g hg; have h2 : w2.heap.size ≤ g := Hnew3.out g hg'; omega
    have P5 := HP4.out.updNodes (n := { n with kids := s.loose.drop 0 }) (kv := .slice a3 k3 cap3) ((Hch67.out.mono fun _ => Or.inr).trans (hch78.mono fun _ => Or.inl)) (Hb7.out.set_ 4 _)
      (Hown7.out.ch hch78 (fun g hg he => Hown7.out.ne_blk Hb7.out (by decide) (he ▸ hg))) (by rw [hlen]; exact Hown6.out)
      (fun g hg hg' => by
        rcases Hat5.out with h1 | h1
        · exact hnew _ Hlb.out g (Hcut2.out ▸ h1 ▸ hg) hg'
        · have h2 := h1 g hg
          have h3 := Hown4.out.lt hg'
          omega)
      (hnew _ fun g hg => HP1.out.funcs.lt hg) (hnew _ fun g hg => HP1.out.nest.lt hg)
      (fun v hv => by
        obtain ⟨i, hi, rfl⟩ := List.getElem_of_mem hv
        have hi' : i < s.nodes.length := HP1.out.kvl ▸ hi
        exact hnew _ fun g hg => (HP1.out.kids (s.nodes[i], kvs[i]) (List.mem_iff_getElem.2 ⟨i, by show i < (s.nodes.zip kvs).length; rw [List.length_zip]; omega, by simp⟩)).lt hg)
    have hsm : ∀ k, Out bd L k → Out bd (w.heap.size :: L) k := fun k hk => hk.elim .inl fun hk => .inr (List.mem_cons_of_mem _ hk)
    have k01 := kp_fr Hp.out HL.out Hf01.out
    have k12 := (kp_row ⟨_, _, _, _, _, _, _, _, _, HP0.out⟩ (fun k hk => HO1.out k (.inr hk)) HP0.out.begun Hch12.out).mono hsm
    have hS2 := Hch12.out.size
    have k23 := (kp_fr ⟨_, _, _, _, _, _, _, _, _, HP1.out⟩ (fun k hk => Nat.lt_of_lt_of_le (HO1.out k (.inr hk)) hS2) ((Ch.refl (fun _ => False) w2).drew.trans Hfr3.out)).mono hsm
    have hS3 := Hfr3.out.size
    have k34 : Kp (Out bd L) w3 w4 := .of_ch Hch34.out (fun k hk => Nat.lt_of_lt_of_le (HO1.out k (hsm k hk)) (Nat.le_trans hS2 hS3)) (fun k hk he => by have := out_lt Hp.out HL.out k hk; omega)
    have k46 := (kp_row ⟨_, _, _, _, _, _, _, _, _, HP3.out⟩ (fun k hk => HO4.out k (.inr hk)) HP3.out.loose ((Hch45.out.mono fun _ he => Or.inr (Hcut2.out ▸ he)).trans (Hch56.out.mono fun _ => Or.inl))).mono hsm
    have k68 := (kp_row ⟨_, _, _, _, _, _, _, _, _, HP4.out⟩ (fun k hk => Nat.lt_of_lt_of_le (HO4.out k (.inr hk)) (Nat.le_trans Hch45.out.size Hch56.out.size)) HP4.out.nodes ((Hch67.out.mono fun _ => Or.inr).trans (hch78.mono fun _ => Or.inl))).mono hsm
    have hdone : s.done = { s with begun := r, nodes := s.nodes ++ [{ n with kids := s.loose.drop 0 }], loose := s.loose.take 0 ++ [(s.nodes.length : Int)] } := by unfold PS.done; rw [Hbe.out]
    rw [hdone]
    exact post0_ok (((((k01.trans k12).trans k23).trans k34).trans k46).trans k68) rfl (PInv.drop ⟨_, _, _, _, _, _, _, _, _, P5⟩ fun k hk => List.mem_cons_of_mem _ hk)
  all_goals
    have Hl1 := Lib.hid hl1
    have Hk3 := Lib.hid hk3
    clear hl1 hk3 hcut3
    go_wp2_with fail
    refine Reg.wp_region_text (by kernel_rfl) (by kernel_rfl) ?_
    go_wp2_with (at_builtin; go_must (refine wp_copy rfl _ _ 33 rfl 3 i0 _ 1 8 (by kernel_rfl) hi0 hz0 hz1 hz2 rfl (Nat.succ_pos _) (Nat.le_of_ble_eq_true rfl) (Out bd (w.heap.size :: L)) _ _ _ (ints (s.loose.drop f)) rfl rfl ?c1 ?c2 ?c3 ?c4 ?c5 ?_))
    case c1 => first | (rw [ints_len, List.length_drop]; omega) | (have := Hl0.out; rw [ints_len, List.length_drop]; omega)
    case c2 => exact List.all_eq_true.2 fun u hu => by obtain ⟨x, _, rfl⟩ := List.mem_map.1 hu; rfl
    case c3 => omega
    case c4 => exact fun k hk => Nat.lt_of_lt_of_le (HO1.out k hk) Hch12.out.size
    case c5 => first | (intro hm; exact absurd hm (by omega)) | (intro hm; exact Hc5.out ⟨gl, 0, none⟩ ⟨_, rfl⟩ hm) | (intro hm; exact ⟨_, rfl, fun j u hu => by rw [Addr.add_lit]; exact Hc5.out ⟨gl, 0, none⟩ ⟨_, rfl⟩ hm j u hu⟩)
    intro v3 w3 hown3 hfr3 hnew3
    have hown3' : Own (Out bd (w.heap.size :: L)) w3 3 1 v3 k3 (ints (s.loose.drop f)) := by first | (rw [Hk3.out]; exact hown3) | (rw [Hk30.out]; exact hown3)
    clear hown3
    have hown3 := hown3'
    clear hown3'
    obtain ⟨a3, cap3, rfl, _, _⟩ := hown3.form
    have P2 := HP1.out.fr ((Ch.refl (fun _ => False) _).drew.trans hfr3)
    have hB3 := HB2.out.ch ((Ch.refl (fun _ => False) _).drew.trans hfr3) id
    have hc3 := pcells P2.blk
    have zB3 := hB3.frozen 9
    have z63 := P2.blk.frozen 6
    have cB9 : w3.cell? ⟨w.heap.size, 9, none⟩ = some (.slice none 0 0) := hB3.cell 9
    have HP2 := Lib.hid P2
    have HB3 := Lib.hid hB3
    have Hfr3 := Lib.hid hfr3
    have Hown3 := Lib.hid hown3
    have Hnew3 := Lib.hid hnew3
    clear hc z6 cB10 zB9 P2 hB3 hfr3 hown3 hnew3
    go_wp2_with fail
    refine ⟨by kernel_rfl, ?_⟩
    generalize hw4 : World.setCell w3 _ _ = w4
    have hch34 : Ch (fun k => k = w.heap.size) w3 w4 := by rw [← hw4]; exact Ch.setCell (S := fun k => k = w.heap.size) (p := ⟨w.heap.size, 9, none⟩) (Ch.refl _ _) rfl _
    have P3 := HP2.out.ch hch34 (fun k hk => ⟨by have := HP2.out.bd_le; omega, by simp [hk]⟩)
    have hB4 : Blk w4 w.heap.size 94 (ndC n (.slice a3 k3 cap3) ++ [.int .i64 f]) := by rw [← hw4]; exact HB3.out.set_ 9 _
    have hown4 := Hown3.out.ch hch34 (fun g hg he => Hown3.out.2 g hg (.inr (by simp [he])))
    clear hw4 hc3 zB3 z63 cB9
    have hc4 := pcells P3.blk
    have z64 := P3.blk.frozen 6
    have cB10 : w4.cell? ⟨w.heap.size, 10, none⟩ = some (.int .i64 f) := hB4.cell 10
    have HP3 := Lib.hid P3
    have HB4 := Lib.hid hB4
    have Hch34 := Lib.hid hch34
    have Hown4 := Lib.hid hown4
    clear P3 hB4 hch34 hown4
    have hS14 : w1.heap.size ≤ w4.heap.size := Nat.le_trans Hch12.out.size (Nat.le_trans Hfr3.out.size Hch34.out.size)
    have hO4 : ∀ k, Out bd (w.heap.size :: L) k → k < w4.heap.size := fun k hk => Nat.lt_of_lt_of_le (HO1.out k hk) hS14
    have HO4 := Lib.hid hO4
    clear hO4 hS14
    go_wp2_with fail
    refine Reg.wp_region_text (by kernel_rfl) (by kernel_rfl) ?_
    go_wp2_with (at_builtin; go_must (refine wp_push rfl _ _ 33 rfl 3 i0 _ 1 8 (by kernel_rfl) hi0 hz0 hz1 hz2 rfl (Nat.succ_pos _) (Nat.le_of_ble_eq_true rfl) (Out bd (w.heap.size :: L)) lo1 f (ints (s.loose.take f)) [.int .i64 s.nodes.length] w4.heap.size Hl1.out.symm rfl rfl rfl (by omega) ?c1 ?c2 ?c3 ?_))
    case c1 =>
      exact (Hcut1.out _ _ HP3.out.loose).drew.alloc _
    case c2 => exact fun k hk => Nat.lt_of_lt_of_le (HO4.out k hk) (by simp)
    case c3 => exact heap_alloc_new w4.drew _
    intro v5 w5 hown5 hch5 hat5
    obtain ⟨a5, cap5, rfl, _, _⟩ := hown5.form
    have hch45 := ((Ch.refl (fun k => lo1.ownBlock = some k) w4).drew.alloc (.cells #[.int .i64 s.nodes.length] 3)).trans hch5
    have hb5 := HP3.out.blk.ch hch45 ((Hcut1.out _ _ HP3.out.loose).ne_blk HP3.out.blk (by decide))
    have hB5 : Blk w5 w.heap.size 94 (ndC n (.slice a3 k3 cap3) ++ [.int .i64 f]) := HB4.out.ch hch45 ((Hcut1.out _ _ HP3.out.loose).ne_blk HB4.out (by decide))
    have hown45 := Hown4.out.ch hch45 (fun g hg he => by have h1 := Hnew3.out g hg; have h2 := Hlb.out g (Hcut2.out ▸ he); omega)
    have hc5 := pcells hb5
    have z65 := hb5.frozen 6
    have Hb5 := Lib.hid hb5
    have HB5 := Lib.hid hB5
    have Hch45 := Lib.hid hch45
    have Hown5 := Lib.hid hown5
    have Hown45 := Lib.hid hown45
    have Hat5 := Lib.hid hat5
    clear hc4 z64 cB10 hb5 hB5 hch45 hown5 hown45 hat5 hch5
    go_wp2_with fail
    refine ⟨by kernel_rfl, ?_⟩
    generalize hw6 : World.setCell w5 _ _ = w6
    have hch56 : Ch (fun k => k = gp) w5 w6 := by rw [← hw6]; exact Ch.setCell (S := fun k => k = gp) (p := ⟨gp, 6, none⟩) (Ch.refl _ _) rfl _
    have P4 := HP3.out.updLoose (lo' := .slice a5 (f + 1) cap5) (l := s.loose.take f ++ [(s.nodes.length : Int)]) ((Hch45.out.mono fun _ he => Or.inr (Hcut2.out ▸ he)).trans (hch56.mono fun _ => Or.inl)) (by rw [← hw6]; exact Hb5.out.set_ 6 _) (by
      have h1 := Hown5.out.ch hch56 (fun g hg he => Hown5.out.ne_blk Hb5.out (by decide) (he ▸ hg))
      simpa [ints, Nat.min_eq_left hf] using h1) (by
      rcases Hat5.out with h1 | h1
      · exact .inl (h1.trans Hcut2.out)
      · exact .inr fun g hg => by have := h1 g hg; omega)
    have hB6 : Blk w6 w.heap.size 94 (ndC n (.slice a3 k3 cap3) ++ [.int .i64 f]) := HB5.out.ch hch56 hne
    have hown6 := Hown45.out.ch hch56 (fun g hg he => Hown45.out.ne_blk Hb5.out (by decide) (he ▸ hg))
    clear hw6 hc5 z65
    have hc6 := pcells P4.blk
    have z66 := P4.blk.frozen 4
    have c0 : w6.cell? ⟨w.heap.size, 0, none⟩ = some (.int .i64 n.kind) := hB6.cell 0
    have c1 : w6.cell? ⟨w.heap.size, 1, none⟩ = some (.int .i64 n.at_) := hB6.cell 1
    have c2 : w6.cell? ⟨w.heap.size, 2, none⟩ = some (.int .i64 n.where_) := hB6.cell 2
    have c3 : w6.cell? ⟨w.heap.size, 3, none⟩ = some (.int .i64 n.close) := hB6.cell 3
    have c4 : w6.cell? ⟨w.heap.size, 4, none⟩ = some (.int .i64 n.decl) := hB6.cell 4
    have c5 : w6.cell? ⟨w.heap.size, 5, none⟩ = some (.int .i64 n.type) := hB6.cell 5
    have c6 : w6.cell? ⟨w.heap.size, 6, none⟩ = some (.int .i64 n.op) := hB6.cell 6
    have c7 : w6.cell? ⟨w.heap.size, 7, none⟩ = some (.int .i64 n.value) := hB6.cell 7
    have c8 : w6.cell? ⟨w.heap.size, 8, none⟩ = some (.string n.name) := hB6.cell 8
    have c9 : w6.cell? ⟨w.heap.size, 9, none⟩ = some (.slice a3 k3 cap3) := hB6.cell 9
    obtain ⟨j0, hj0, hy0, hy1, hy2⟩ := info_parts infoNode
    have HP4 := Lib.hid P4
    have HB6 := Lib.hid hB6
    have Hch56 := Lib.hid hch56
    have Hown6 := Lib.hid hown6
    clear P4 hB6 hch56 hown6
    go_wp2_with fail
    refine Reg.wp_region_text (by kernel_rfl) (by kernel_rfl) ?_
    go_wp2_with (at_builtin; go_must (refine wp_push rfl _ _ 32 rfl 42 j0 _ 10 104 (by kernel_rfl) hj0 hy0 hy1 hy2 rfl (Nat.succ_pos _) (Nat.le_of_ble_eq_true rfl) (Out bd (w.heap.size :: L)) (.slice an s.nodes.length capn) s.nodes.length (ndsC (s.nodes.zip kvs)) (ndC n (.slice a3 k3 cap3)) w6.heap.size rfl rfl rfl rfl hnn ?c1 ?c2 ?c3 ?_))
    case c1 => exact HP4.out.nodes.drew.alloc _
    case c2 => exact fun k hk => Nat.lt_of_lt_of_le (HO4.out k hk) (Nat.le_trans (Nat.le_trans Hch45.out.size Hch56.out.size) (by simp))
    case c3 => exact heap_alloc_new w6.drew _
    intro v7 w7 hown7 hch7 hat7
    obtain ⟨a7, cap7, rfl, _, _⟩ := hown7.form
    have hch67 := ((Ch.refl (fun k => (Value.slice an s.nodes.length capn).ownBlock = some k) w6).drew.alloc (.cells (ndC n (.slice a3 k3 cap3)).toArray 42)).trans hch7
    have hb7 := HP4.out.blk.ch hch67 (HP4.out.nodes.ne_blk HP4.out.blk (by decide))
    have hc7 := pcells hb7
    have z67 := hb7.frozen 4
    have Hb7 := Lib.hid hb7
    have Hch67 := Lib.hid hch67
    have Hown7 := Lib.hid hown7
    clear hc6 z66 hb7 hch67 hown7 hch7 c0 c1 c2 c3 c4 c5 c6 c7 c8 c9
    go_wp2_with fail
    refine ⟨by kernel_rfl, ?_⟩
    go_end0
    have hch78 : Ch (fun k => k = gp) w7 (w7.setCell ⟨gp, 4, none⟩ (.slice a7 (s.nodes.length + 1) cap7)) := Ch.setCell (S := fun k => k = gp) (p := ⟨gp, 4, none⟩) (Ch.refl _ _) rfl _
    have hlen : ({ n with kids := s.loose.drop f } : Nd).kids.length = k3 := (List.length_drop ..).trans Hk3.out.symm
    have hnew : ∀ (v : Value), (∀ g, v.ownBlock = some g → g < w2.heap.size) → NeB v (.slice a3 k3 cap3) := fun v hv g hg hg' => by have h1 := hv g hg; have h2 : w2.heap.size ≤ g := Hnew3.out g hg'; omega
    have P5 := HP4.out.updNodes (n := { n with kids := s.loose.drop f }) (kv := .slice a3 k3 cap3) ((Hch67.out.mono fun _ => Or.inr).trans (hch78.mono fun _ => Or.inl)) (Hb7.out.set_ 4 _)
      (Hown7.out.ch hch78 (fun g hg he => Hown7.out.ne_blk Hb7.out (by decide) (he ▸ hg))) (by rw [hlen]; exact Hown6.out)
      (fun g hg hg' => by
        rcases Hat5.out with h1 | h1
        · exact hnew _ Hlb.out g (Hcut2.out ▸ h1 ▸ hg) hg'
        · have h2 := h1 g hg
          have h3 := Hown4.out.lt hg'
          omega)
      (hnew _ fun g hg => HP1.out.funcs.lt hg) (hnew _ fun g hg => HP1.out.nest.lt hg)
      (fun v hv => by
        obtain ⟨i, hi, rfl⟩ := List.getElem_of_mem hv
        have hi' : i < s.nodes.length := HP1.out.kvl ▸ hi
        exact hnew _ fun g hg => (HP1.out.kids (s.nodes[i], kvs[i]) (List.mem_iff_getElem.2 ⟨i, by show i < (s.nodes.zip kvs).length; rw [List.length_zip]; omega, by simp⟩)).lt hg)
    have hsm : ∀ k, Out bd L k → Out bd (w.heap.size :: L) k := fun k hk => hk.elim .inl fun hk => .inr (List.mem_cons_of_mem _ hk)
    have k01 := kp_fr Hp.out HL.out Hf01.out
    have k12 := (kp_row ⟨_, _, _, _, _, _, _, _, _, HP0.out⟩ (fun k hk => HO1.out k (.inr hk)) HP0.out.begun Hch12.out).mono hsm
    have hS2 := Hch12.out.size
    have k23 := (kp_fr ⟨_, _, _, _, _, _, _, _, _, HP1.out⟩ (fun k hk => Nat.lt_of_lt_of_le (HO1.out k (.inr hk)) hS2) ((Ch.refl (fun _ => False) w2).drew.trans Hfr3.out)).mono hsm
    have hS3 := Hfr3.out.size
    have k34 : Kp (Out bd L) w3 w4 := .of_ch Hch34.out (fun k hk => Nat.lt_of_lt_of_le (HO1.out k (hsm k hk)) (Nat.le_trans hS2 hS3)) (fun k hk he => by have := out_lt Hp.out HL.out k hk; omega)
    have k46 := (kp_row ⟨_, _, _, _, _, _, _, _, _, HP3.out⟩ (fun k hk => HO4.out k (.inr hk)) HP3.out.loose ((Hch45.out.mono fun _ he => Or.inr (Hcut2.out ▸ he)).trans (Hch56.out.mono fun _ => Or.inl))).mono hsm
    have k68 := (kp_row ⟨_, _, _, _, _, _, _, _, _, HP4.out⟩ (fun k hk => Nat.lt_of_lt_of_le (HO4.out k (.inr hk)) (Nat.le_trans Hch45.out.size Hch56.out.size)) HP4.out.nodes ((Hch67.out.mono fun _ => Or.inr).trans (hch78.mono fun _ => Or.inl))).mono hsm
    have hdone : s.done = { s with begun := r, nodes := s.nodes ++ [{ n with kids := s.loose.drop f }], loose := s.loose.take f ++ [(s.nodes.length : Int)] } := by unfold PS.done; rw [Hbe.out]
    rw [hdone]
    exact post0_ok (((((k01.trans k12).trans k23).trans k34).trans k46).trans k68) rfl (PInv.drop ⟨_, _, _, _, _, _, _, _, _, P5⟩ fun k hk => List.mem_cons_of_mem _ hk)
end
end Go.Proofs.Ythodjlhjfaccpaa
