/- The printer's expressions: words, names, len, make, calls; appends at a step of a region whose order is drawn.
The printer's calls and blocks.
The printer's blocks. -/
import Derived.Test.YtllahgnpjodgmaaDoorTI
import Derived.Deep.AppendLies
set_option linter.unusedVariables false
namespace Go.Proofs.YtllahgnpjodgmaaDoor
open Go Go.RowKit Mem Pm
open Tm (Part)
namespace Mem
namespace Hs
variable {A : Nat → Prop} {w0 w : World} {rs : List Res}
theorem opPush {P : Program} {o : Oper} {a : Act} {K : Act → World → Prop} {Q : Exit → Act → World → Prop} (s x : Operand) (t : TypeId)
    (ho : o.op = .call { callee := .builtin .append, args := #[s, x], argTypes := #[t, t] })
    (e : TypeId) (inf : TypeInfo) (z : Value) (size bytes : Nat) (ht : P.underlying t = some (.slice e)) (hinf : P.info? e = some inf) (hz : inf.zero = some z)
    (hsize : inf.size = size) (hby : inf.bytes = bytes) (hzs : z.cells.size = size) (hsz : 0 < size) (hbb : bytes ≤ 1000)
    (i : Nat) (v : Value) (n : Nat) (xs : List Value) (hi : rs[i]? = some (.row e size v n xs)) (ad : Addr) (m c : Nat) (news : List Value)
    (hs : a.eval s = v) (hx : a.eval x = .slice (some ad) m c) (hm : 0 < m)
    (hl : news.length = m * size) (h1 : (news.all fun u => u.oneCell') = true) (hn : n + m ≤ 1000000001)
    (hc : ∀ j u, news[j]? = some u → w.cell? (ad.add j) = some u) (H : Hs A w0 w rs)
    (h : ∀ v' w', Hs A w0 w' (rs.set i (.row e size v' (n + m) (xs ++ news))) → K (a.put o.dst v') w') : o.wp P a w K Q := by
  have hown := H.get hi
  refine wp_append_lies w s x t ho 0 e inf z size bytes ht hinf hz hsize hby hzs hsz v n xs hs hown.1 ad m c news hx hl hc (fun u hu => List.all_eq_true.1 h1 u hu) hm ?_ ?_ (Nat.zero_le _) w.heap.size rfl ?_
  · simp only [maxLen]; omega
  · have : (n + m) * bytes ≤ 1000000001 * 1000 := Nat.mul_le_mul (by omega) hbb
    omega
  · intro g cap w' hown' hgr hat _
    refine h _ _ (H.turn hi ((Ch.refl _ _).grown hgr fun g hg => .inl hg) ⟨hown', fun k hk => ?_⟩ ?_)
    · have hk' : k = g := by simpa [Value.ownBlock] using hk.symm
      subst hk'
      rcases hat with h2 | h2
      · exact hown.2 _ h2
      · intro h3; have := H.alt' _ h3; omega
    · rcases hat with h2 | h2
      · left; show (Value.slice (some ⟨g, 0, none⟩) (n + m) cap).ownBlock = v.ownBlock; rw [h2]; rfl
      · right; intro k hk
        have hk' : k = g := by simpa [Res.own, Value.ownBlock] using hk.symm
        omega
theorem stepPush {P : Program} {ops : Array Oper} {o : Oper} {a : Act} {K : Act → World → Prop} {Q : Exit → Act → World → Prop} {E : Prop} (hgd : o.guard = none) (s x : Operand) (t : TypeId)
    (ho : o.op = .call { callee := .builtin .append, args := #[s, x], argTypes := #[t, t] })
    (e : TypeId) (inf : TypeInfo) (z : Value) (size bytes : Nat) (ht : P.underlying t = some (.slice e)) (hinf : P.info? e = some inf) (hz : inf.zero = some z)
    (hsize : inf.size = size) (hby : inf.bytes = bytes) (hzs : z.cells.size = size) (hsz : 0 < size) (hbb : bytes ≤ 1000)
    (i : Nat) (v : Value) (n : Nat) (xs : List Value) (hi : rs[i]? = some (.row e size v n xs)) (ad : Addr) (m c : Nat) (news : List Value)
    (hs : a.eval s = v) (hx : a.eval x = .slice (some ad) m c) (hm : 0 < m)
    (hl : news.length = m * size) (h1 : (news.all fun u => u.oneCell') = true) (hn : n + m ≤ 1000000001)
    (hc : ∀ j u, news[j]? = some u → w.cell? (ad.add j) = some u) (H : Hs A w0 w rs)
    (h : ∀ v' w', Hs A w0 w' (rs.set i (.row e size v' (n + m) (xs ++ news))) → K (a.put o.dst v') w') : if Region.wanted o (yielded ops a.tmps) = true then Oper.wp P o a w K Q else E := by
  have hw : Region.wanted o (yielded ops a.tmps) = true := by simp [Region.wanted, hgd]
  rw [if_pos hw]
  exact opPush s x t ho e inf z size bytes ht hinf hz hsize hby hzs hsz hbb i v n xs hi ad m c news hs hx hm hl h1 hn hc H h
/-- What lies in a block, to be appended. -/
theorem news (H : Hs A w0 w rs) (i : Nat) {g : Nat} {t : TypeId} {cs : List Value} (hi : rs[i]? = some (.blk g t cs)) : ∀ j u, cs[j]? = some u → w.cell? ((⟨g, 0, none⟩ : Addr).add j) = some u := fun j u hu => by
  have hadd : (⟨g, 0, none⟩ : Addr).add j = ⟨g, j, none⟩ := by unfold Addr.add; split <;> simp_all
  rw [hadd]; exact H.cell i hi j hu
end Hs
end Mem
open Mem
theorem PS.put {A : Nat → Prop} {w0 w : World} {p : Nat} {nd fu todo out : Value} {R : List Part} {rest : List Res} (H : Hs A w0 w (.blk p 64 [nd, fu, todo, out] :: .row 67 4 todo R.length (partsC R) :: rest)) : PS A w0 w p nd fu out R rest := ⟨todo, H⟩
set_option maxRecDepth 100000 in
set_option maxHeartbeats 16000000 in
theorem expr_21 {w0 : World} (w : World) (p : Nat) (nd fu todo out : Value) (R : List Part) (rest : List Res) (nodes : List Nd) (a1 a2 a3 a4 a5 a6 a7 : Int) (nm : ByteArray) (ks : List Int) (kv : Value)
    (H : Hs (fun k => k < w0.heap.size) w0 w (.blk p 64 [nd, fu, todo, out] :: .row 67 4 todo R.length (partsC R) :: rest)) (hb : R.length + 6 ≤ 1000000000) :
    Calls Tryd.prog 49 #[.pointer (some ⟨p, 0, none⟩), ndV (⟨21, a1, a2, a3, a4, a5, a6, a7, nm, ks⟩ : Nd) kv] w fun e w' => e = .returned (.tuple #[]) ∧ PS (fun k => k < w0.heap.size) w0 w' p nd fu out (R ++ (Tm.expression nodes (⟨21, a1, a2, a3, a4, a5, a6, a7, nm, ks⟩ : Nd)).reverse) rest := by
  have H1 := Lib.hid (H.alloc' (.cells #[.int .i64 21, .int .i64 a1, .int .i64 a2, .int .i64 a3, .int .i64 a4, .int .i64 a5, .int .i64 a6, .int .i64 a7, .string nm, kv] 45))
  clear H
  unfold ndV
  dsimp only
  go_enter Tryd.func49, Tryd.ntmps49
  go_wp2_with (first | (go_at_call 69; refine (say_c _ _).mono ?_; rintro e w' ⟨rfl, hf⟩; replace H1 := Lib.hid (H1.out.ch0 hf); clear hf))
  refine (put_lit _ p nd fu todo out R rest (Tm.expression nodes (⟨21, a1, a2, a3, a4, a5, a6, a7, nm, ks⟩ : Nd)) _ rfl 1 rfl H1.out hb (by decide)).mono ?_
  rintro e w2 ⟨rfl, hp⟩
  have HP := Lib.hid hp
  clear hp
  go_wp2_with fail
  first | go_end0 | refine bodyPost_ret (results_none rfl _ _ _) rfl ?_
  exact ⟨rfl, HP.out⟩
set_option maxRecDepth 100000 in
set_option maxHeartbeats 16000000 in
theorem expr_22 {w0 : World} (w : World) (p : Nat) (nd fu todo out : Value) (R : List Part) (rest : List Res) (nodes : List Nd) (a1 a2 a3 a4 a5 a6 a7 : Int) (nm : ByteArray) (ks : List Int) (kv : Value)
    (H : Hs (fun k => k < w0.heap.size) w0 w (.blk p 64 [nd, fu, todo, out] :: .row 67 4 todo R.length (partsC R) :: rest)) (hb : R.length + 6 ≤ 1000000000) :
    Calls Tryd.prog 49 #[.pointer (some ⟨p, 0, none⟩), ndV (⟨22, a1, a2, a3, a4, a5, a6, a7, nm, ks⟩ : Nd) kv] w fun e w' => e = .returned (.tuple #[]) ∧ PS (fun k => k < w0.heap.size) w0 w' p nd fu out (R ++ (Tm.expression nodes (⟨22, a1, a2, a3, a4, a5, a6, a7, nm, ks⟩ : Nd)).reverse) rest := by
  have H1 := Lib.hid (H.alloc' (.cells #[.int .i64 22, .int .i64 a1, .int .i64 a2, .int .i64 a3, .int .i64 a4, .int .i64 a5, .int .i64 a6, .int .i64 a7, .string nm, kv] 45))
  clear H
  unfold ndV
  dsimp only
  go_enter Tryd.func49, Tryd.ntmps49
  go_wp2_with (first | (go_at_call 69; refine (say_c _ _).mono ?_; rintro e w' ⟨rfl, hf⟩; replace H1 := Lib.hid (H1.out.ch0 hf); clear hf))
  refine (put_lit _ p nd fu todo out R rest (Tm.expression nodes (⟨22, a1, a2, a3, a4, a5, a6, a7, nm, ks⟩ : Nd)) _ rfl 1 rfl H1.out hb (by decide)).mono ?_
  rintro e w2 ⟨rfl, hp⟩
  have HP := Lib.hid hp
  clear hp
  go_wp2_with fail
  first | go_end0 | refine bodyPost_ret (results_none rfl _ _ _) rfl ?_
  exact ⟨rfl, HP.out⟩
set_option maxRecDepth 100000 in
set_option maxHeartbeats 16000000 in
theorem expr_23 {w0 : World} (w : World) (p : Nat) (nd fu todo out : Value) (R : List Part) (rest : List Res) (nodes : List Nd) (a1 a2 a3 a4 a5 a6 a7 : Int) (nm : ByteArray) (ks : List Int) (kv : Value)
    (H : Hs (fun k => k < w0.heap.size) w0 w (.blk p 64 [nd, fu, todo, out] :: .row 67 4 todo R.length (partsC R) :: rest)) (hb : R.length + 6 ≤ 1000000000) :
    Calls Tryd.prog 49 #[.pointer (some ⟨p, 0, none⟩), ndV (⟨23, a1, a2, a3, a4, a5, a6, a7, nm, ks⟩ : Nd) kv] w fun e w' => e = .returned (.tuple #[]) ∧ PS (fun k => k < w0.heap.size) w0 w' p nd fu out (R ++ (Tm.expression nodes (⟨23, a1, a2, a3, a4, a5, a6, a7, nm, ks⟩ : Nd)).reverse) rest := by
  have H1 := Lib.hid (H.alloc' (.cells #[.int .i64 23, .int .i64 a1, .int .i64 a2, .int .i64 a3, .int .i64 a4, .int .i64 a5, .int .i64 a6, .int .i64 a7, .string nm, kv] 45))
  clear H
  unfold ndV
  dsimp only
  go_enter Tryd.func49, Tryd.ntmps49
  go_wp2_with (first | (go_at_call 69; refine (say_c _ _).mono ?_; rintro e w' ⟨rfl, hf⟩; replace H1 := Lib.hid (H1.out.ch0 hf); clear hf))
  refine (put_lit _ p nd fu todo out R rest (Tm.expression nodes (⟨23, a1, a2, a3, a4, a5, a6, a7, nm, ks⟩ : Nd)) _ rfl 1 rfl H1.out hb (by decide)).mono ?_
  rintro e w2 ⟨rfl, hp⟩
  have HP := Lib.hid hp
  clear hp
  go_wp2_with fail
  first | go_end0 | refine bodyPost_ret (results_none rfl _ _ _) rfl ?_
  exact ⟨rfl, HP.out⟩
set_option maxRecDepth 100000 in
set_option maxHeartbeats 16000000 in
theorem expr_26 {w0 : World} (w : World) (p : Nat) (nd fu todo out : Value) (R : List Part) (rest : List Res) (nodes : List Nd) (a1 a2 a3 a4 a5 a6 a7 : Int) (nm : ByteArray) (ks : List Int) (kv : Value)
    (H : Hs (fun k => k < w0.heap.size) w0 w (.blk p 64 [nd, fu, todo, out] :: .row 67 4 todo R.length (partsC R) :: rest)) (hb : R.length + 6 ≤ 1000000000) :
    Calls Tryd.prog 49 #[.pointer (some ⟨p, 0, none⟩), ndV (⟨26, a1, a2, a3, a4, a5, a6, a7, nm, ks⟩ : Nd) kv] w fun e w' => e = .returned (.tuple #[]) ∧ PS (fun k => k < w0.heap.size) w0 w' p nd fu out (R ++ (Tm.expression nodes (⟨26, a1, a2, a3, a4, a5, a6, a7, nm, ks⟩ : Nd)).reverse) rest := by
  have H1 := Lib.hid (H.alloc' (.cells #[.int .i64 26, .int .i64 a1, .int .i64 a2, .int .i64 a3, .int .i64 a4, .int .i64 a5, .int .i64 a6, .int .i64 a7, .string nm, kv] 45))
  clear H
  unfold ndV
  dsimp only
  go_enter Tryd.func49, Tryd.ntmps49
  go_wp2_with (first | (go_at_call 69; refine (say_c _ _).mono ?_; rintro e w' ⟨rfl, hf⟩; replace H1 := Lib.hid (H1.out.ch0 hf); clear hf))
  refine (put_lit _ p nd fu todo out R rest (Tm.expression nodes (⟨26, a1, a2, a3, a4, a5, a6, a7, nm, ks⟩ : Nd)) _ rfl 1 rfl H1.out hb (by decide)).mono ?_
  rintro e w2 ⟨rfl, hp⟩
  have HP := Lib.hid hp
  clear hp
  go_wp2_with fail
  first | go_end0 | refine bodyPost_ret (results_none rfl _ _ _) rfl ?_
  exact ⟨rfl, HP.out⟩
set_option maxRecDepth 100000 in
set_option maxHeartbeats 16000000 in
theorem expr_24 {w0 : World} (w : World) (p : Nat) (nd fu todo out : Value) (R : List Part) (rest : List Res) (nodes : List Nd) (a1 a2 a3 a4 a5 a6 a7 : Int) (nm : ByteArray) (ks : List Int) (kv : Value)
    (H : Hs (fun k => k < w0.heap.size) w0 w (.blk p 64 [nd, fu, todo, out] :: .row 67 4 todo R.length (partsC R) :: rest)) (hb : R.length + 6 ≤ 1000000000) :
    Calls Tryd.prog 49 #[.pointer (some ⟨p, 0, none⟩), ndV (⟨24, a1, a2, a3, a4, a5, a6, a7, nm, ks⟩ : Nd) kv] w fun e w' => e = .returned (.tuple #[]) ∧ PS (fun k => k < w0.heap.size) w0 w' p nd fu out (R ++ (Tm.expression nodes (⟨24, a1, a2, a3, a4, a5, a6, a7, nm, ks⟩ : Nd)).reverse) rest := by
  have H1 := Lib.hid (H.alloc' (.cells #[.int .i64 24, .int .i64 a1, .int .i64 a2, .int .i64 a3, .int .i64 a4, .int .i64 a5, .int .i64 a6, .int .i64 a7, .string nm, kv] 45))
  clear H
  unfold ndV
  dsimp only
  go_enter Tryd.func49, Tryd.ntmps49
  go_wp2_with (first | (go_at_call 69; refine (say_c _ _).mono ?_; rintro e w' ⟨rfl, hf⟩; replace H1 := Lib.hid (H1.out.ch0 hf); clear hf))
  refine (put_lit _ p nd fu todo out R rest (Tm.expression nodes (⟨24, a1, a2, a3, a4, a5, a6, a7, nm, ks⟩ : Nd)) _ (by simp only [Tm.expression]; simp [partsC, Part.C, Part.tx, Part.isL, Part.num, Part.tabs, ba_nm]; repeat' (first | rfl | apply And.intro)) 1 rfl H1.out hb (by decide)).mono ?_
  rintro e w2 ⟨rfl, hp⟩
  have HP := Lib.hid hp
  clear hp
  go_wp2_with fail
  first | go_end0 | refine bodyPost_ret (results_none rfl _ _ _) rfl ?_
  exact ⟨rfl, HP.out⟩
set_option maxRecDepth 100000 in
set_option maxHeartbeats 16000000 in
theorem expr_27 {w0 : World} (w : World) (p : Nat) (nd fu todo out : Value) (R : List Part) (rest : List Res) (nodes : List Nd) (a1 a2 a3 a4 a5 a6 a7 : Int) (nm : ByteArray) (k0 : Int) (kv : Value)
    (H : Hs (fun k => k < w0.heap.size) w0 w (.blk p 64 [nd, fu, todo, out] :: .row 67 4 todo R.length (partsC R) :: rest)) (hr : RdS w0 kv 1 (ints [k0])) (hb : R.length + 6 ≤ 1000000000) :
    Calls Tryd.prog 49 #[.pointer (some ⟨p, 0, none⟩), ndV (⟨27, a1, a2, a3, a4, a5, a6, a7, nm, [k0]⟩ : Nd) kv] w fun e w' => e = .returned (.tuple #[]) ∧ PS (fun k => k < w0.heap.size) w0 w' p nd fu out (R ++ (Tm.expression nodes (⟨27, a1, a2, a3, a4, a5, a6, a7, nm, [k0]⟩ : Nd)).reverse) rest := by
  obtain ⟨ak, ck, rfl, hck⟩ : ∃ ak ck, kv = .slice ak 1 ck ∧ 1 ≤ ck := by obtain ⟨a, c, h1, h2, _⟩ := hr; exact ⟨a, c, h1, h2⟩
  obtain ⟨g, off, rfl, cx0⟩ := rdS_int (l := [k0]) hr (i := 0) rfl
  rw [Nat.add_zero] at cx0
  have CX := Lib.hid cx0
  have H1 := Lib.hid (show Hs (fun k => k < w0.heap.size) w0 _ (.blk p 64 [nd, fu, todo, out] :: .row 67 4 todo R.length (partsC R) :: .blk w.heap.size 45 [.int .i64 27, .int .i64 a1, .int .i64 a2, .int .i64 a3, .int .i64 a4, .int .i64 a5, .int .i64 a6, .int .i64 a7, .string nm, .slice (some ⟨g, off, none⟩) 1 ck] :: rest) from
    ((H.alloc [.int .i64 27, .int .i64 a1, .int .i64 a2, .int .i64 a3, .int .i64 a4, .int .i64 a5, .int .i64 a6, .int .i64 a7, .string nm, .slice (some ⟨g, off, none⟩) 1 ck] 45).mid (l := [.blk p 64 [nd, fu, todo, out], .row 67 4 todo R.length (partsC R)])))
  clear H hr cx0
  have i0 : (0 : Int) < 1 := by decide
  unfold ndV
  dsimp only
  go_enter Tryd.func49, Tryd.ntmps49
  go_upto_region 26 with fail
  replace H1 := Lib.hid H1.out.drew
  have x9 := H1.out.cell 2 rfl 9 rfl
  have cx := fr_cell (fr_of_kp H1.out.kp) CX.out
  go_region_held3 (fun w' => w'.cell? ⟨w.heap.size, 9, none⟩ = some (.slice (some ⟨g, off, none⟩) 1 ck) ∧ w'.cell? ⟨g, off, none⟩ = some (.int .i64 k0)) (go_keep) (first | (go_at_call 69; refine (say_c _ _).mono ?_; rintro e w' ⟨rfl, hf⟩; replace H1 := Lib.hid (H1.out.ch0 hf); replace x9 := fr_cell hf x9; replace cx := fr_cell hf cx; clear hf) | (go_at_call 31; refine (put_lit _ p nd fu todo out R _ (Tm.expression nodes (⟨27, a1, a2, a3, a4, a5, a6, a7, nm, [k0]⟩ : Nd)) _ rfl 3 rfl H1.out hb (by decide)).mono ?_; rintro e w2 ⟨rfl, hp⟩; have HP := Lib.hid hp; clear hp; obtain ⟨td2, hq⟩ := HP.out; replace x9 := hq.cell 2 rfl 9 rfl; replace cx := fr_cell (fr_of_kp hq.kp) CX.out; clear hq))
  go_wp2_with fail
  first | go_end0 | refine bodyPost_ret (results_none rfl _ _ _) rfl ?_
  exact ⟨rfl, HP.out.drop⟩
set_option maxRecDepth 100000 in
set_option maxHeartbeats 16000000 in
theorem expr_28 {w0 : World} (w : World) (p : Nat) (nd fu todo out : Value) (R : List Part) (rest : List Res) (nodes : List Nd) (a1 a2 a3 a4 a5 a6 a7 : Int) (nm : ByteArray) (k0 : Int) (kv : Value)
    (H : Hs (fun k => k < w0.heap.size) w0 w (.blk p 64 [nd, fu, todo, out] :: .row 67 4 todo R.length (partsC R) :: rest)) (hr : RdS w0 kv 1 (ints [k0])) (hb : R.length + 6 ≤ 1000000000) :
    Calls Tryd.prog 49 #[.pointer (some ⟨p, 0, none⟩), ndV (⟨28, a1, a2, a3, a4, a5, a6, a7, nm, [k0]⟩ : Nd) kv] w fun e w' => e = .returned (.tuple #[]) ∧ PS (fun k => k < w0.heap.size) w0 w' p nd fu out (R ++ (Tm.expression nodes (⟨28, a1, a2, a3, a4, a5, a6, a7, nm, [k0]⟩ : Nd)).reverse) rest := by
  obtain ⟨ak, ck, rfl, hck⟩ : ∃ ak ck, kv = .slice ak 1 ck ∧ 1 ≤ ck := by obtain ⟨a, c, h1, h2, _⟩ := hr; exact ⟨a, c, h1, h2⟩
  obtain ⟨g, off, rfl, cx0⟩ := rdS_int (l := [k0]) hr (i := 0) rfl
  rw [Nat.add_zero] at cx0
  have CX := Lib.hid cx0
  have H1 := Lib.hid (show Hs (fun k => k < w0.heap.size) w0 _ (.blk p 64 [nd, fu, todo, out] :: .row 67 4 todo R.length (partsC R) :: .blk w.heap.size 45 [.int .i64 28, .int .i64 a1, .int .i64 a2, .int .i64 a3, .int .i64 a4, .int .i64 a5, .int .i64 a6, .int .i64 a7, .string nm, .slice (some ⟨g, off, none⟩) 1 ck] :: rest) from
    ((H.alloc [.int .i64 28, .int .i64 a1, .int .i64 a2, .int .i64 a3, .int .i64 a4, .int .i64 a5, .int .i64 a6, .int .i64 a7, .string nm, .slice (some ⟨g, off, none⟩) 1 ck] 45).mid (l := [.blk p 64 [nd, fu, todo, out], .row 67 4 todo R.length (partsC R)])))
  clear H hr cx0
  have i0 : (0 : Int) < 1 := by decide
  unfold ndV
  dsimp only
  go_enter Tryd.func49, Tryd.ntmps49
  go_upto_region 28 with fail
  replace H1 := Lib.hid H1.out.drew
  have x9 := H1.out.cell 2 rfl 9 rfl
  have cx := fr_cell (fr_of_kp H1.out.kp) CX.out
  go_region_held3 (fun w' => w'.cell? ⟨w.heap.size, 9, none⟩ = some (.slice (some ⟨g, off, none⟩) 1 ck) ∧ w'.cell? ⟨g, off, none⟩ = some (.int .i64 k0)) (go_keep) (first | (go_at_call 69; refine (say_c _ _).mono ?_; rintro e w' ⟨rfl, hf⟩; replace H1 := Lib.hid (H1.out.ch0 hf); replace x9 := fr_cell hf x9; replace cx := fr_cell hf cx; clear hf) | (go_at_call 31; refine (put_lit _ p nd fu todo out R _ (Tm.expression nodes (⟨28, a1, a2, a3, a4, a5, a6, a7, nm, [k0]⟩ : Nd)) _ rfl 3 rfl H1.out hb (by decide)).mono ?_; rintro e w2 ⟨rfl, hp⟩; have HP := Lib.hid hp; clear hp; obtain ⟨td2, hq⟩ := HP.out; replace x9 := hq.cell 2 rfl 9 rfl; replace cx := fr_cell (fr_of_kp hq.kp) CX.out; clear hq))
  go_wp2_with fail
  first | go_end0 | refine bodyPost_ret (results_none rfl _ _ _) rfl ?_
  exact ⟨rfl, HP.out.drop⟩
theorem joined_snoc (k : Int) : ∀ l : List Int, Tm.joined (l ++ [k]) = if l = [] then [.k k 0] else Tm.joined l ++ [.s [44, 32], .k k 0]
  | [] => rfl
  | [a] => rfl
  | a :: b :: l => by
    have ih := joined_snoc k (b :: l)
    rw [if_neg (by simp)] at ih ⊢
    show Part.k a 0 :: Part.s [44, 32] :: Tm.joined ((b :: l) ++ [k]) = Part.k a 0 :: Part.s [44, 32] :: Tm.joined (b :: l) ++ _
    rw [ih]; rfl
theorem joined_len : ∀ l : List Int, (Tm.joined l).length ≤ 2 * l.length
  | [] => Nat.le_refl _
  | [a] => by show 1 ≤ 2; decide
  | a :: b :: l => by
    have ih := joined_len (b :: l)
    show (Part.k a 0 :: Part.s [44, 32] :: Tm.joined (b :: l)).length ≤ _
    simp only [List.length_cons] at ih ⊢
    omega
end Go.Proofs.YtllahgnpjodgmaaDoor

set_option linter.unusedVariables false
namespace Go.Proofs.YtllahgnpjodgmaaDoor
open Go Go.RowKit Mem Pm
open Tm (Part)
theorem row_eq {A : Nat → Prop} {w0 w : World} {e : TypeId} {s n : Nat} {v : Value} {xs ys : List Value} {rs : List Res} (h : Hs A w0 w (.row e s v n xs :: rs)) (hx : xs = ys) : Hs A w0 w (.row e s v n ys :: rs) := hx ▸ h
theorem joined_take {ks : List Int} {j : Nat} {k : Int} (h : ks[j]? = some k) : Tm.joined (ks.take (j + 1)) = if j = 0 then [.k k 0] else Tm.joined (ks.take j) ++ [.s [44, 32], .k k 0] := by
  rw [List.take_add_one, h]
  show Tm.joined (ks.take j ++ [k]) = _
  rw [joined_snoc]
  have hl := (List.getElem?_eq_some_iff.1 h).1
  by_cases hj : j = 0
  · subst hj; rfl
  · rw [if_neg hj, if_neg (fun h0 => by have h1 := congrArg List.length h0; rw [List.length_take, List.length_nil] at h1; omega)]
set_option maxRecDepth 100000 in
set_option maxHeartbeats 16000000 in
theorem expr_25 {w0 : World} (w : World) (p : Nat) (nd fu todo out : Value) (R : List Part) (rest : List Res) (nodes : List Nd) (a1 a2 a3 a4 a5 a6 a7 : Int) (nm : ByteArray) (ks : List Int) (kv : Value)
    (H : Hs (fun k => k < w0.heap.size) w0 w (.blk p 64 [nd, fu, todo, out] :: .row 67 4 todo R.length (partsC R) :: rest)) (hr : RdS w0 kv ks.length (ints ks)) (hnm : nm.size ≤ 64) (hb : R.length + 2 * ks.length + 6 ≤ 1000000000) :
    Calls Tryd.prog 49 #[.pointer (some ⟨p, 0, none⟩), ndV (⟨25, a1, a2, a3, a4, a5, a6, a7, nm, ks⟩ : Nd) kv] w fun e w' => e = .returned (.tuple #[]) ∧ PS (fun k => k < w0.heap.size) w0 w' p nd fu out (R ++ (Tm.expression nodes (⟨25, a1, a2, a3, a4, a5, a6, a7, nm, ks⟩ : Nd)).reverse) rest := by
  obtain ⟨i0, hi0, hz0, hz1, hz2⟩ := info_parts infoJob
  obtain ⟨ak, ck, rfl, hck⟩ : ∃ ak ck, kv = .slice ak ks.length ck ∧ ks.length ≤ ck := by obtain ⟨a, c, h1, h2, _⟩ := hr; exact ⟨a, c, h1, h2⟩
  have H1 := Lib.hid (H.alloc' (.cells #[.int .i64 25, .int .i64 a1, .int .i64 a2, .int .i64 a3, .int .i64 a4, .int .i64 a5, .int .i64 a6, .int .i64 a7, .string nm, .slice ak ks.length ck] 45))
  have HR := Lib.hid hr
  have s0 := cat_run nm ⟨#[40]⟩ (by simp only [bsize, List.size_toArray, List.length_cons, List.length_nil]; omega)
  have hL0 : partsC [.s (Tm.nm (⟨25, a1, a2, a3, a4, a5, a6, a7, nm, ks⟩ : Nd) ++ [40])] = [.string (nm ++ ⟨#[40]⟩), .bool false, .int .i64 0, .int .i64 0] := by
    show ([.string (ba (Tm.nm (⟨25, a1, a2, a3, a4, a5, a6, a7, nm, ks⟩ : Nd) ++ [40])), .bool false, .int .i64 0, .int .i64 0] : List Value) = _
    rw [ba_app, ba_nm]; rfl
  obtain ⟨p0, hp0⟩ : ∃ p0 : Part, p0 = .s (Tm.nm (⟨25, a1, a2, a3, a4, a5, a6, a7, nm, ks⟩ : Nd) ++ [40]) := ⟨_, rfl⟩
  have hE : Tm.expression nodes (⟨25, a1, a2, a3, a4, a5, a6, a7, nm, ks⟩ : Nd) = (p0 :: Tm.joined ks) ++ [.s [41]] := by rw [hp0]; rfl
  rw [hE]
  rw [← hp0] at hL0
  have HL0 := Lib.hid hL0
  have hbk : ks.length ≤ 1000000000 := by omega
  have HB := Lib.hid hb
  have x9 := (Blk.new w 45 [.int .i64 25, .int .i64 a1, .int .i64 a2, .int .i64 a3, .int .i64 a4, .int .i64 a5, .int .i64 a6, .int .i64 a7, .string nm, .slice ak ks.length ck]).cell 9
  clear H hr hL0 hp0 hE hb
  unfold ndV
  dsimp only
  go_enter Tryd.func49, Tryd.ntmps49
  go_wp2_with (first | (go_at_call 69; refine (say_c _ _).mono ?_; rintro e w' ⟨rfl, hf⟩; replace H1 := Lib.hid (H1.out.ch0 hf); replace x9 := fr_cell hf x9; have hlt9 := block_lt_of_cell x9; clear hf))
  rename_i w1
  have H2 := Lib.hid ((H1.out.alloc [.string (nm ++ ⟨#[40]⟩), .bool false, .int .i64 0, .int .i64 0] 67).asRow 0 rfl 4 1 rfl (by decide))
  clear H1
  go_loopg [4, 63] ks.length (fun m v4 v63 wr => ∃ j : Nat, j + m = ks.length ∧ v63 = .int .i64 (j : Int) ∧
    Hs (fun k => k < w0.heap.size) w0 wr (.row 67 4 v4 (p0 :: Tm.joined (ks.take j)).length (partsC (p0 :: Tm.joined (ks.take j))) :: .blk p 64 [nd, fu, todo, out] :: .row 67 4 todo R.length (partsC R) :: rest))
  case atStart => exact ⟨0, by omega, rfl, row_eq H2.out HL0.out.symm⟩
  case round =>
  obtain ⟨j, hj, rfl, hh⟩ := hrel
  have H3 := Lib.hid hh
  have HFr := Lib.hid (fr_of_kp hh.kp)
  have hlen : (p0 :: Tm.joined (ks.take j)).length ≤ 2 * j + 1 := by
    have := joined_len (ks.take j)
    rw [List.length_take] at this
    simp only [List.length_cons]; omega
  have hlenb : (p0 :: Tm.joined (ks.take j)).length ≤ 1000000000 := by have := HB.out; omega
  clear hh H2
  by_cases hjl : j < ks.length
  case pos =>
    have hji : (j : Int) < (ks.length : Int) := by omega
    have hj0 : (0 : Int) ≤ (j : Int) := by omega
    have hx : ks[j]? = some ks[j] := List.getElem?_eq_getElem hjl
    obtain ⟨g, off, rfl, cx⟩ := rdS_int (HR.out.fr HFr.out) hx
    have hjt := joined_take hx
    have HJt := Lib.hid hjt
    clear hx hjt
    generalize ks[j] = k at cx HJt
    obtain ⟨L, hL⟩ : ∃ L, L = p0 :: Tm.joined (ks.take j) := ⟨_, rfl⟩
    rw [← hL] at H3 hlenb hlen
    have HL := Lib.hid hL
    clear hL
    by_cases hj1 : j = 0
    · subst hj1
      replace cx : wr.cell? ⟨g, off, none⟩ = some (.int .i64 k) := cx
      have hz : ¬ ((0 : Int) < ((0 : Nat) : Int)) := by decide
      have Hn := Lib.hid (H3.out.alloc [.string ⟨#[]⟩, .bool false, .int .i64 k, .int .i64 0] 67)
      go_wp2_with (at_builtin; go_must (refine Hs.push rfl _ _ 62 rfl 67 i0 _ 4 40 (by kernel_rfl) hi0 hz0 hz1 hz2 rfl (Nat.succ_pos _) (Nat.le_of_ble_eq_true rfl) 1 _ L.length (partsC L) rfl 0 wr.heap.size [.string ⟨#[]⟩, .bool false, .int .i64 k, .int .i64 0] rfl rfl rfl rfl rfl hlenb Hn.out ?_))
      intro v1 w2 hh1
      have H4 := Lib.hid hh1.tail
      clear hh1 Hn
      go_wp2_with fail
      go_roundg (gk - 1)
      case measure => omega
      case rel =>
        refine ⟨0 + 1, by omega, by go_num, ?_⟩
        have h := H4.out
        rw [HJt.out, if_pos trivial]
        rw [HL.out] at h
        exact h
    · have hz : (0 : Int) < (j : Int) := by omega
      have H1 := H3
      have hl2 : L.length + 1 ≤ 1000000000 := by have := HB.out; omega
      go_wp2_with (first
        | (go_at_call 69; refine (say_c _ _).mono ?_; rintro e w' ⟨rfl, hf⟩; replace H1 := Lib.hid (H1.out.ch0 hf); replace cx := fr_cell hf cx; clear hf)
        | (at_builtin; go_must (refine Hs.push rfl _ _ 62 rfl 67 i0 _ 4 40 (by kernel_rfl) hi0 hz0 hz1 hz2 rfl (Nat.succ_pos _) (Nat.le_of_ble_eq_true rfl) 1 _ L.length (partsC L) rfl 0 _ [.string ⟨#[44, 32]⟩, .bool false, .int .i64 0, .int .i64 0] rfl rfl rfl rfl rfl hlenb (H1.out.alloc [.string ⟨#[44, 32]⟩, .bool false, .int .i64 0, .int .i64 0] 67) ?_)))
      intro v1 w2 hh1
      have Hn := Lib.hid (hh1.tail.alloc [.string ⟨#[]⟩, .bool false, .int .i64 k, .int .i64 0] 67)
      clear hh1 H1 H3
      go_wp2_with (at_builtin; go_must (refine Hs.push rfl _ _ 62 rfl 67 i0 _ 4 40 (by kernel_rfl) hi0 hz0 hz1 hz2 rfl (Nat.succ_pos _) (Nat.le_of_ble_eq_true rfl) 1 _ (L.length + 1) _ rfl 0 w2.heap.size [.string ⟨#[]⟩, .bool false, .int .i64 k, .int .i64 0] rfl rfl rfl rfl rfl hl2 Hn.out ?_))
      intro v2 w3 hh2
      have H4 := Lib.hid hh2.tail
      clear hh2 Hn
      go_wp2_with fail
      go_roundg (gk - 1)
      case measure => omega
      case rel =>
        refine ⟨j + 1, by omega, by go_num, ?_⟩
        have h := H4.out
        have hcons : p0 :: Tm.joined (ks.take (j + 1)) = L ++ [.s [44, 32], .k k 0] := by
          rw [HJt.out, if_neg hj1, HL.out]; simp
        rw [hcons, partsC_app, List.length_append]
        exact h
  case neg =>
    have hji : ¬ (j : Int) < (ks.length : Int) := by omega
    have htk : ks.take j = ks := List.take_of_length_le (by omega)
    rw [htk] at H3 hlen hlenb
    obtain ⟨L, hL⟩ : ∃ L, L = p0 :: Tm.joined ks := ⟨_, rfl⟩
    rw [← hL] at H3 hlenb hlen
    have HL := Lib.hid hL
    clear hL htk
    have H1 := H3
    clear H3
    go_wp2_with (first
      | (go_at_call 69; refine (say_c _ _).mono ?_; rintro e w' ⟨rfl, hf⟩; replace H1 := Lib.hid (H1.out.ch0 hf); clear hf)
      | (at_builtin; go_must (refine Hs.push rfl _ _ 62 rfl 67 i0 _ 4 40 (by kernel_rfl) hi0 hz0 hz1 hz2 rfl (Nat.succ_pos _) (Nat.le_of_ble_eq_true rfl) 1 _ L.length (partsC L) rfl 0 _ [.string ⟨#[41]⟩, .bool false, .int .i64 0, .int .i64 0] rfl rfl rfl rfl rfl hlenb (H1.out.alloc [.string ⟨#[41]⟩, .bool false, .int .i64 0, .int .i64 0] 67) ?_)))
    intro v1 w2 hh1
    have H4 := Lib.hid (show Hs (fun k => k < w0.heap.size) w0 w2 (.row 67 4 v1 (L ++ [Part.s [41]]).length (partsC (L ++ [Part.s [41]])) :: .blk p 64 [nd, fu, todo, out] :: .row 67 4 todo R.length (partsC R) :: rest) by
      rw [partsC_app, List.length_append]; exact hh1.tail)
    clear hh1 H1
    go_wp2_with fail
    refine (put_c _ p nd fu todo out _ R (L ++ [Part.s [41]]) rest H4.out (by have := HB.out; simp only [List.length_append, List.length_cons, List.length_nil]; omega)).mono ?_
    rintro e w3 ⟨rfl, hp⟩
    have HP := Lib.hid hp
    clear hp
    go_wp2_with fail
    first | go_end0 | refine bodyPost_ret (results_none rfl _ _ _) rfl ?_
    refine ⟨rfl, ?_⟩
    have h := HP.out
    rw [HL.out] at h
    exact h
end Go.Proofs.YtllahgnpjodgmaaDoor

set_option linter.unusedVariables false
namespace Go.Proofs.YtllahgnpjodgmaaDoor
open Go Go.RowKit Mem Pm
open Tm (Part)
def lines (l : List Int) (t : Nat) : List Part := l.flatMap (fun k => [.ln (t + 1), .k k (t + 1)])
theorem lines_len (l : List Int) (t : Nat) : (lines l t).length = 2 * l.length := by
  unfold lines
  induction l with
  | nil => rfl
  | cons a l ih => rw [List.flatMap_cons, List.length_append, ih, List.length_cons]; simp; omega
theorem lines_take {ks : List Int} {j : Nat} {k : Int} (t : Nat) (h : ks[j]? = some k) : lines (ks.take (j + 1)) t = lines (ks.take j) t ++ [.ln (t + 1), .k k (t + 1)] := by
  rw [List.take_add_one, h]
  unfold lines
  rw [List.flatMap_append]; rfl
set_option maxRecDepth 100000 in
set_option maxHeartbeats 16000000 in
theorem block_c {w0 : World} (w : World) (p : Nat) (nd fu todo out : Value) (R : List Part) (rest : List Res) (n : Nd) (kv : Value) (t : Nat)
    (H : Hs (fun k => k < w0.heap.size) w0 w (.blk p 64 [nd, fu, todo, out] :: .row 67 4 todo R.length (partsC R) :: rest)) (hr : RdS w0 kv n.kids.length (ints n.kids)) (hb : R.length + 2 * n.kids.length + 6 ≤ 1000000000) (ht : t ≤ 1000000000) :
    Calls Tryd.prog 46 #[.pointer (some ⟨p, 0, none⟩), ndV n kv, .int .i64 (t : Int)] w fun e w' => e = .returned (.tuple #[]) ∧ PS (fun k => k < w0.heap.size) w0 w' p nd fu out (R ++ (Tm.block n t).reverse) rest := by
  obtain ⟨k, a1, a2, a3, a4, a5, a6, a7, nm, ks⟩ := n
  dsimp only at hr hb
  obtain ⟨i0, hi0, hz0, hz1, hz2⟩ := info_parts infoJob
  obtain ⟨ak, ck, rfl, hck⟩ : ∃ ak ck, kv = .slice ak ks.length ck ∧ ks.length ≤ ck := by obtain ⟨a, c, h1, h2, _⟩ := hr; exact ⟨a, c, h1, h2⟩
  have H1 := Lib.hid (H.alloc' (.cells #[.int .i64 k, .int .i64 a1, .int .i64 a2, .int .i64 a3, .int .i64 a4, .int .i64 a5, .int .i64 a6, .int .i64 a7, .string nm, .slice ak ks.length ck] 45))
  have HR := Lib.hid hr
  have hE : Tm.block (⟨k, a1, a2, a3, a4, a5, a6, a7, nm, ks⟩ : Nd) t = (.s [123] :: lines ks t) ++ [.ln t, .s [125]] := rfl
  rw [hE]
  have hbk : ks.length ≤ 1000000000 := by omega
  have HB := Lib.hid hb
  have x9 := (Blk.new w 45 [.int .i64 k, .int .i64 a1, .int .i64 a2, .int .i64 a3, .int .i64 a4, .int .i64 a5, .int .i64 a6, .int .i64 a7, .string nm, .slice ak ks.length ck]).cell 9
  have ht1 : (t : Int) ≤ 1000000000 := by omega
  have ht0 : (0 : Int) ≤ (t : Int) := by omega
  clear H hr hE hb
  unfold ndV
  dsimp only
  go_enter Tryd.func46, Tryd.ntmps46
  go_wp2_with (first | (go_at_call 69; refine (say_c _ _).mono ?_; rintro e w' ⟨rfl, hf⟩; replace H1 := Lib.hid (H1.out.ch0 hf); replace x9 := fr_cell hf x9; have hlt9 := block_lt_of_cell x9; clear hf))
  rename_i w1
  have H2 := Lib.hid ((H1.out.alloc [.string ⟨#[123]⟩, .bool false, .int .i64 0, .int .i64 0] 67).asRow 0 rfl 4 1 rfl (by decide))
  clear H1
  go_loopg [6, 14] ks.length (fun m v6 v14 wr => ∃ j : Nat, j + m = ks.length ∧ v14 = .int .i64 (j : Int) ∧
    Hs (fun k => k < w0.heap.size) w0 wr (.row 67 4 v6 (Part.s [123] :: lines (ks.take j) t).length (partsC (Part.s [123] :: lines (ks.take j) t)) :: .blk p 64 [nd, fu, todo, out] :: .row 67 4 todo R.length (partsC R) :: rest))
  case atStart => exact ⟨0, by omega, rfl, row_eq H2.out rfl⟩
  case round =>
  obtain ⟨j, hj, rfl, hh⟩ := hrel
  have H1 := Lib.hid hh
  have HFr := Lib.hid (fr_of_kp hh.kp)
  have hlen : (Part.s [123] :: lines (ks.take j) t).length ≤ 2 * j + 1 := by
    have := lines_len (ks.take j) t
    rw [List.length_take] at this
    simp only [List.length_cons]; omega
  have hlenb : (Part.s [123] :: lines (ks.take j) t).length + 2 ≤ 1000000001 := by have := HB.out; by_cases h : j ≤ ks.length <;> omega
  clear hh H2
  by_cases hjl : j < ks.length
  case pos =>
    have hji : (j : Int) < (ks.length : Int) := by omega
    have hj0 : (0 : Int) ≤ (j : Int) := by omega
    have hx : ks[j]? = some ks[j] := List.getElem?_eq_getElem hjl
    obtain ⟨g, off, rfl, cx⟩ := rdS_int (HR.out.fr HFr.out) hx
    have hjt := lines_take t hx
    have HJt := Lib.hid hjt
    clear hx hjt
    generalize ks[j] = kk at cx HJt
    obtain ⟨L, hL⟩ : ∃ L, L = Part.s [123] :: lines (ks.take j) t := ⟨_, rfl⟩
    rw [← hL] at H1 hlenb hlen
    have HL := Lib.hid hL
    clear hL
    go_wp2_with (first
      | (go_at_call 71; refine (margin_c _ _).mono ?_; rintro e w' ⟨rfl, hf⟩; replace H1 := Lib.hid (H1.out.ch0 hf); clear hf)
      | (at_builtin; go_must (refine Hs.pushN rfl _ _ 62 rfl 67 i0 _ 4 40 (by kernel_rfl) hi0 hz0 hz1 hz2 rfl (Nat.succ_pos _) (Nat.le_of_ble_eq_true rfl) 1 _ L.length (partsC L) rfl 0 _ 2 [.string ⟨#[]⟩, .bool true, .int .i64 0, .int .i64 ((t : Int) + 1), .string ⟨#[]⟩, .bool false, .int .i64 kk, .int .i64 ((t : Int) + 1)] rfl rfl rfl (by decide) rfl rfl hlenb (H1.out.alloc [.string ⟨#[]⟩, .bool true, .int .i64 0, .int .i64 ((t : Int) + 1), .string ⟨#[]⟩, .bool false, .int .i64 kk, .int .i64 ((t : Int) + 1)] 67) ?_)))
    intro v1 w2 hh1
    have H4 := Lib.hid hh1.tail
    clear hh1 H1
    go_wp2_with fail
    go_roundg (gk - 1)
    case measure => omega
    case rel =>
      refine ⟨j + 1, by omega, by go_num, ?_⟩
      have h := H4.out
      have hcons : Part.s [123] :: lines (ks.take (j + 1)) t = L ++ [.ln (t + 1), .k kk (t + 1)] := by
        rw [HJt.out, HL.out]; simp
      rw [hcons, partsC_app, List.length_append]
      exact h
  case neg =>
    have hji : ¬ (j : Int) < (ks.length : Int) := by omega
    have htk : ks.take j = ks := List.take_of_length_le (by omega)
    rw [htk] at H1 hlen hlenb
    obtain ⟨L, hL⟩ : ∃ L, L = Part.s [123] :: lines ks t := ⟨_, rfl⟩
    rw [← hL] at H1 hlenb hlen
    have HL := Lib.hid hL
    clear hL htk
    go_wp2_with (first
      | (go_at_call 71; refine (margin_c _ _).mono ?_; rintro e w' ⟨rfl, hf⟩; replace H1 := Lib.hid (H1.out.ch0 hf); clear hf)
      | (go_at_call 69; refine (say_c _ _).mono ?_; rintro e w' ⟨rfl, hf⟩; replace H1 := Lib.hid (H1.out.ch0 hf); clear hf)
      | (at_builtin; go_must (refine Hs.pushN rfl _ _ 62 rfl 67 i0 _ 4 40 (by kernel_rfl) hi0 hz0 hz1 hz2 rfl (Nat.succ_pos _) (Nat.le_of_ble_eq_true rfl) 1 _ L.length (partsC L) rfl 0 _ 2 [.string ⟨#[]⟩, .bool true, .int .i64 0, .int .i64 (t : Int), .string ⟨#[125]⟩, .bool false, .int .i64 0, .int .i64 0] rfl rfl rfl (by decide) rfl rfl hlenb (H1.out.alloc [.string ⟨#[]⟩, .bool true, .int .i64 0, .int .i64 (t : Int), .string ⟨#[125]⟩, .bool false, .int .i64 0, .int .i64 0] 67) ?_)))
    intro v1 w2 hh1
    have H4 := Lib.hid (show Hs (fun k => k < w0.heap.size) w0 w2 (.row 67 4 v1 (L ++ [Part.ln t, Part.s [125]]).length (partsC (L ++ [Part.ln t, Part.s [125]])) :: .blk p 64 [nd, fu, todo, out] :: .row 67 4 todo R.length (partsC R) :: rest) by
      rw [partsC_app, List.length_append]; exact hh1.tail)
    clear hh1 H1
    go_wp2_with fail
    refine (put_c _ p nd fu todo out _ R (L ++ [Part.ln t, Part.s [125]]) rest H4.out (by have := HB.out; simp only [List.length_append, List.length_cons, List.length_nil]; omega)).mono ?_
    rintro e w3 ⟨rfl, hp⟩
    have HP := Lib.hid hp
    clear hp
    go_wp2_with fail
    first | go_end0 | refine bodyPost_ret (results_none rfl _ _ _) rfl ?_
    refine ⟨rfl, ?_⟩
    have h := HP.out
    rw [HL.out] at h
    exact h
end Go.Proofs.YtllahgnpjodgmaaDoor
