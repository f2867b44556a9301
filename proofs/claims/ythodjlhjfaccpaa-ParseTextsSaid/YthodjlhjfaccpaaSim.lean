/- The document's own machine and the parser's machine go side by side: words for it. No program here. -/
import Derived.Test.YthodjlhjfaccpaaPz
import Derived.Test.YthodjlhjfaccpaaRf
set_option linter.unusedVariables false
namespace Go.Proofs.Ythodjlhjfaccpaa
open Go Pm
namespace Rf

/-- What a rule stands for. -/
def syms : Sym → List Int
  | .program => [100] | .function => [101] | .block => [107] | .statement => [109] | .semi => [47] | .closed => [41, 4001] | .shut => [45, 4001] | .leave => [4001] | .set => [48]
  | .arguments => [117, 41, 4001] | .moreArguments => [118, 41, 4001] | .condition => [112] | .expression => [119] | .both => [121] | .either => [120] | .compared => [123] | .andMore => [122]
  | .sum => [125] | .compare => [124] | .nothing => [] | .product => [127] | .sumMore => [126] | .signed => [129] | .productMore => [128] | .plain => [131] | .index => [130]
  | _ => []
def plainSym : Sym → Bool
  | .done | .functionEnd | .statements | .otherwise => false
  | _ => true
/-- What is wanted stands for what is to be read. -/
inductive Wt : List Sym → List (Nd × Nat) → List Int → Prop where
  | nil {B} : Wt [] B []
  | done {r n f B l} : 2 ≤ n.kind → n.kind < 1000 → Wt r B l → Wt (.done :: r) ((n, f) :: B) ((1000 + n.kind) :: l)
  | functionEnd {r n f B l} : n.kind = 1 → Wt r B l → Wt (.functionEnd :: r) ((n, f) :: B) (4007 :: 1001 :: l)
  | statements {r n f B l} : n.kind = 3 → Wt r B l → Wt (.statements :: r) ((n, f) :: B) (108 :: 43 :: 4001 :: 1003 :: l)
  | otherwise {r n f B l} : n.kind = 10 → Wt r B l → Wt (.otherwise :: r) ((n, f) :: B) (113 :: 1010 :: l)
  | plain {x r B l} : plainSym x = true → Wt r B l → Wt (x :: r) B (syms x ++ l)
theorem Wt.len {t B l} (h : Wt t B l) : l.length ≤ 4 * t.length := by
  induction h with
  | nil => simp
  | plain hx _ ih =>
    rename_i x r B l _
    have : (syms x).length ≤ 3 := by cases x <;> simp [syms]
    simp only [List.length_append, List.length_cons]; omega
  | _ => simp only [List.length_cons]; omega

/-- The document's state that goes with the parser's. -/
def R (s : PS) (l : List Int) (d : Int) (la : Tok) : RS := ⟨s.nodes, s.funcs, s.nest, l, s.begun, s.loose, d, s.open_, la⟩
def LastOk (s : PS) (la : Tok) : Prop := 1 ≤ s.at_ → la = s.toks.getD (s.at_ - 1) ⟨0, 0, 0, ⟨#[]⟩⟩
def Rel (s : PS) (r : RS) (i : Nat) : Prop := ∃ l d la, r = R s l d la ∧ Wt s.todo s.begun l ∧ LastOk s la ∧ i = s.at_
def Bad (toks : List Tok) (en : Int) (r : RS) (i : Nat) (f : Int × Int) : Prop := ∃ w t, r.want = w :: t ∧ step toks en { r with want := t } i w = .bad ∧ fault toks en i = f
def Out (toks : List Tok) (en : Int) (o : M PS) (r : RS) (i : Nat) : Prop := match o with
  | .ok s' => Rel s' r i ∨ ∃ x t f, s'.todo = x :: t ∧ ({ s' with todo := t } : PS).rule x = .error f ∧ Bad toks en r i f
  | .error f => Bad toks en r i f
inductive Steps (toks : List Tok) (en : Int) : Nat → RS → Nat → RS → Nat → Prop where
  | refl {r i} : Steps toks en 0 r i r i
  | cons {n r i w t r1 i1 r' i'} : r.want = w :: t → step toks en { r with want := t } i w = .go r1 i1 → i1 ≤ toks.length → Steps toks en n r1 i1 r' i' → Steps toks en (n + 1) r i r' i'
def Go (K : Nat) (s : PS) (l : List Int) (d : Int) (la : Tok) (P : RS → Nat → Prop) : Prop := ∃ n r' i', n ≤ K ∧ Steps s.toks s.en n (R s l d la) s.at_ r' i' ∧ P r' i'

variable {K : Nat} {s u : PS} {l : List Int} {d : Int} {la : Tok} {P : RS → Nat → Prop} {A : M PS}
theorem kind_eq (s : PS) : kind s.toks s.at_ = s.kind := rfl
theorem fault_eq (s : PS) : fault s.toks s.en s.at_ = s.fault := rfl
theorem next_eq (h : s.at_ < s.toks.length) : next s.toks s.en s.at_ = s.cur := by
  unfold next PS.cur
  rw [List.getD_eq_getElem?_getD, List.getD_eq_getElem?_getD, List.getElem?_eq_getElem h]
  rfl
theorem Go.mono {K' : Nat} (h : Go K s l d la P) (hK : K ≤ K') : Go K' s l d la P := by
  obtain ⟨n, r, i, hn, h⟩ := h
  exact ⟨n, r, i, Nat.le_trans hn hK, h⟩
theorem go_end (h : P (R s l d la) s.at_) : Go K s l d la P := ⟨0, _, _, Nat.zero_le _, .refl, h⟩
theorem go_one {w : Int} {u : PS} {l' : List Int} {d' : Int} {la' : Tok} (h : step s.toks s.en (R s l d la) s.at_ w = .go (R u l' d' la') u.at_) (ht : u.toks = s.toks) (he : u.en = s.en) (hl : u.at_ ≤ s.toks.length)
    (hg : Go K u l' d' la' P) : Go (K + 1) s (w :: l) d la P := by
  obtain ⟨n, r, i, hn, hs, hp⟩ := hg
  rw [ht, he] at hs
  exact ⟨n + 1, r, i, by omega, .cons (w := w) (t := l) rfl h hl hs, hp⟩
theorem go_act {w : Int} {u : PS} (h1 : 1000 ≤ w) (h : (R s l d la).act w (next s.toks s.en s.at_) = some (R u l d la)) (ht : u.toks = s.toks) (he : u.en = s.en) (ha : u.at_ = s.at_) (hl : s.at_ ≤ s.toks.length)
    (hg : Go K u l d la P) : Go (K + 1) s (w :: l) d la P := by
  refine go_one (u := u) ?_ ht he (ha ▸ hl) hg
  unfold step
  rw [if_pos h1, h, ha]

/-- A token. -/
theorem go_t {k : Int} (hk : k < 100) (hk0 : k ≠ 0) (h : s.kind = k → s.at_ < s.toks.length → Go K s.skip l d s.cur (Out s.toks s.en A)) : Go (K + 1) s (k :: l) d la (Out s.toks s.en (if s.kind = k then A else .error s.fault)) := by
  by_cases hkk : s.kind = k
  · have hlt : s.at_ < s.toks.length := kind_lt (by rw [hkk]; exact hk0)
    rw [if_pos hkk]
    refine go_one (u := s.skip) ?_ rfl rfl hlt (h hkk hlt)
    unfold step
    rw [if_neg (by omega), if_neg (by omega), kind_eq, if_pos hkk, next_eq hlt]
    rfl
  · rw [if_neg hkk]
    refine go_end ⟨k, l, rfl, ?_, rfl⟩
    unfold step
    rw [if_neg (by omega), if_neg (by omega), show kind s.toks s.at_ = s.kind from rfl, if_neg hkk]
/-- A node begins at the token that is next. -/
theorem go_mark {w m : Int} (hm : w - 2000 = m) (h1 : 2000 ≤ w) (h2 : w < 3000) (hl : s.at_ ≤ s.toks.length) (h : Go K (s.begin_ { kind := m, at_ := (next s.toks s.en s.at_).at_ } 0) l d la P) : Go (K + 1) s (w :: l) d la P := by
  refine go_act (u := s.begin_ { kind := m, at_ := (next s.toks s.en s.at_).at_ } 0) (by omega) ?_ rfl rfl rfl hl h
  unfold RS.act
  rw [if_neg (by omega), if_neg (by omega), if_neg (by omega), if_neg (by omega), if_neg (by omega), if_neg (by omega), if_neg (by omega), if_neg (by omega), if_neg (by omega), if_neg (by omega), if_neg (by omega), if_neg (by omega), if_pos (by omega), hm]
  rfl
theorem go_mt {w m k : Int} (hm : w - 2000 = m) (h1 : 2000 ≤ w) (h2 : w < 3000) (hl : s.at_ ≤ s.toks.length) (hk : k < 100) (hk0 : k ≠ 0)
    (h : s.kind = k → s.at_ < s.toks.length → Go K (s.begin_ { kind := m, at_ := s.cur.at_ } 0).skip l d s.cur (Out s.toks s.en A)) :
    Go (K + 2) s (w :: k :: l) d la (Out s.toks s.en (if s.kind = k then A else .error s.fault)) := by
  refine go_mark hm h1 h2 hl (go_t (s := s.begin_ { kind := m, at_ := (next s.toks s.en s.at_).at_ } 0) hk hk0 fun a b => ?_)
  have e : (next s.toks s.en s.at_).at_ = s.cur.at_ := by rw [next_eq (s := s) b]
  have h' := h a b
  rw [← e] at h'
  exact h'
/-- A rule. -/
theorem go_rule {w : Int} {row : List Int} (h1 : 100 ≤ w) (h2 : w < 1000) (hl : s.at_ ≤ s.toks.length) (hr : rule w s.kind (s.at_ == s.toks.length) = (row, true)) (h : Go K s (row ++ l) (declOf w s.kind row d) la P) : Go (K + 1) s (w :: l) d la P := by
  refine go_one (u := s) ?_ rfl rfl hl h
  unfold step
  rw [if_neg (by omega), if_pos h1, show kind s.toks s.at_ = s.kind from rfl, hr, if_pos rfl]
  rfl
theorem go_bad {w : Int} {row : List Int} (h1 : 100 ≤ w) (h2 : w < 1000) (hr : rule w s.kind (s.at_ == s.toks.length) = (row, false)) : Go K s (w :: l) d la (Out s.toks s.en (.error s.fault)) := by
  refine go_end ⟨w, l, rfl, ?_, rfl⟩
  unfold step
  rw [if_neg (by omega), if_pos h1, show kind s.toks s.at_ = s.kind from rfl, hr, if_neg (show ¬ false = true by decide)]
theorem go_enter (hn : s.nest ≠ []) (hl : s.at_ ≤ s.toks.length) (h : Go K s.enter l d la P) : Go (K + 1) s (4000 :: l) d la P := by
  refine go_act (u := s.enter) (by decide) ?_ rfl rfl rfl hl h
  unfold RS.act
  rw [if_neg (by decide), if_neg (by decide), if_pos rfl, if_neg (show ¬ (R s l d la).nest = [] from hn)]
  rfl
theorem go_leave (hl : s.at_ ≤ s.toks.length) (h : Go K s.leave l d la P) : Go (K + 1) s (4001 :: l) d la P := by
  refine go_act (u := s.leave) (by decide) ?_ rfl rfl rfl hl h
  unfold RS.act
  rw [if_neg (by decide), if_neg (by decide), if_neg (by decide), if_pos rfl]
  rfl
/-- The node that was begun last is turned. -/
theorem go_top {w : Int} {n : Nd} {f : Nat} {B : List (Nd × Nat)} {n' : Nd} (h1 : 1000 ≤ w) (hb : s.begun = (n, f) :: B) (h : (R s l d la).act w (next s.toks s.en s.at_) = some { (R s l d la) with marks := (n', f) :: B }) (hl : s.at_ ≤ s.toks.length)
    (hg : Go K { s with begun := (n', f) :: B } l d la P) : Go (K + 1) s (w :: l) d la P := go_act (u := { s with begun := (n', f) :: B }) h1 h rfl rfl rfl hl hg
theorem act_top {r : RS} {w : Int} {t : Tok} {n : Nd} {f : Nat} {B : List (Nd × Nat)} {g : Nd → Nd} (hb : r.marks = (n, f) :: B) (h : r.act w t = r.top g) : r.act w t = some { r with marks := (g n, f) :: B } := by
  rw [h, RS.top, hb]
theorem go_name {n : Nd} {f : Nat} {B : List (Nd × Nat)} (hb : s.begun = (n, f) :: B) (hl : s.at_ ≤ s.toks.length) (hg : Go K { s with begun := ({ n with name := la.name, where_ := la.at_ }, f) :: B } l d la P) : Go (K + 1) s (4002 :: l) d la P :=
  go_top (by decide) hb (act_top (g := fun n => { n with name := la.name, where_ := la.at_ }) hb rfl) hl hg
theorem go_decl {n : Nd} {f : Nat} {B : List (Nd × Nat)} (hb : s.begun = (n, f) :: B) (hl : s.at_ ≤ s.toks.length) (hg : Go K { s with begun := ({ n with decl := d }, f) :: B } l d la P) : Go (K + 1) s (4003 :: l) d la P :=
  go_top (by decide) hb (act_top (g := fun n => { n with decl := d }) hb rfl) hl hg
theorem go_sign {n : Nd} {f : Nat} {B : List (Nd × Nat)} (hk : 49 ≤ la.kind ∧ la.kind ≤ 67) (hb : s.begun = (n, f) :: B) (hl : s.at_ ≤ s.toks.length) (hg : Go K { s with begun := ({ n with op := operator la.kind, where_ := la.at_ }, f) :: B } l d la P) : Go (K + 1) s (4004 :: l) d la P :=
  go_top (by decide) hb (act_top (g := fun n => { n with op := operator la.kind, where_ := la.at_ }) hb (by
    show (if 49 ≤ la.kind ∧ la.kind ≤ 67 then _ else _) = _
    rw [if_pos hk]
    rfl)) hl hg
theorem go_own {n : Nd} {f : Nat} {B : List (Nd × Nat)} (hb : s.begun = (n, f) :: B) (hl : s.at_ ≤ s.toks.length) (hg : Go K { s with begun := ({ n with op := RS.own la.kind }, f) :: B } l d la P) : Go (K + 1) s (4005 :: l) d la P :=
  go_top (by decide) hb (act_top (g := fun n => { n with op := RS.own la.kind }) hb rfl) hl hg
theorem go_value {n : Nd} {f : Nat} {B : List (Nd × Nat)} (hb : s.begun = (n, f) :: B) (hl : s.at_ ≤ s.toks.length) (hg : Go K { s with begun := ({ n with value := la.value }, f) :: B } l d la P) : Go (K + 1) s (4006 :: l) d la P :=
  go_top (by decide) hb (act_top (g := fun n => { n with value := la.value }) hb rfl) hl hg
theorem go_close {n : Nd} {f : Nat} {B : List (Nd × Nat)} (hb : s.begun = (n, f) :: B) (hl : s.at_ ≤ s.toks.length) (hg : Go K { s with begun := ({ n with close := la.at_ }, f) :: B } l d la P) : Go (K + 1) s (4007 :: l) d la P :=
  go_top (by decide) hb (act_top (g := fun n => { n with close := la.at_ }) hb rfl) hl hg
theorem go_nest (hl : s.at_ ≤ s.toks.length) (hg : Go K { s with nest := s.nest ++ [0] } l d la P) : Go (K + 1) s (4008 :: l) d la P :=
  go_act (u := { s with nest := s.nest ++ [0] }) (by decide) rfl rfl rfl rfl hl hg
/-- The node that is begun is of a kind. -/
theorem go_as {w m : Int} {n : Nd} {f : Nat} {B : List (Nd × Nat)} (hm : w - 5000 = m) (h1 : 5000 ≤ w) (h2 : w < 6000) (hb : s.begun = (n, f) :: B) (hl : s.at_ ≤ s.toks.length) (hg : Go K { s with begun := ({ n with kind := m }, f) :: B } l d la P) : Go (K + 1) s (w :: l) d la P := by
  refine go_top (by omega) hb (act_top (g := fun n => { n with kind := m }) hb ?_) hl hg
  unfold RS.act
  rw [if_neg (by omega), if_pos h1, hm]
theorem go_last {w m : Int} (hm : w - 6000 = m) (h1 : 6000 ≤ w) (h2 : w < 10000) (hl : s.at_ ≤ s.toks.length) (h : Go K (s.begin_ { kind := m, at_ := la.at_ } 0) l d la P) : Go (K + 1) s (w :: l) d la P := by
  refine go_act (u := s.begin_ { kind := m, at_ := la.at_ } 0) (by omega) ?_ rfl rfl rfl hl h
  unfold RS.act
  rw [if_pos h1, if_pos h2, hm]
  rfl
theorem go_left {w m : Int} (hm : w - 3000 = m) (h1 : 3000 ≤ w) (h2 : w < 4000) (hh : HasLeft s) (hl : s.at_ ≤ s.toks.length) (h : Go K (s.begin_ { kind := m, at_ := s.leftAt } 1) l d la P) : Go (K + 1) s (w :: l) d la P := by
  refine go_act (u := s.begin_ { kind := m, at_ := s.leftAt } 1) (by omega) ?_ rfl rfl rfl hl h
  obtain ⟨j, hj, hjn⟩ := hh
  have hla : (R s l d la).leftAt = some s.leftAt := by
    have h3 : s.loose.getLast? = some (j : Int) := by rw [List.getLast?_eq_getElem?]; exact hj
    unfold RS.leftAt PS.leftAt
    rw [show (R s l d la).wait = s.loose from rfl, show (R s l d la).nodes = s.nodes from rfl, h3, List.getLastD_eq_getLast?, h3]
    dsimp only [Option.getD_some]
    rw [Int.toNat_natCast, List.getD_eq_getElem?_getD, List.getElem?_eq_getElem hjn]
    dsimp only [Option.getD_some]
    rw [if_pos (by omega)]
  unfold RS.act
  rw [if_neg (by omega), if_neg (by omega), if_neg (by omega), if_neg (by omega), if_neg (by omega), if_neg (by omega), if_neg (by omega), if_neg (by omega), if_neg (by omega), if_neg (by omega), if_neg (by omega), if_pos h1, if_pos h2, hla, hm]
  rfl
/-- The node that was begun last is whole. -/
theorem go_node {w : Int} {n : Nd} {f : Nat} {B : List (Nd × Nat)} (h1 : 1000 ≤ w) (h2 : w < 2000) (hb : s.begun = (n, f) :: B) (hk : n.kind ≠ 1) (hf : f ≤ s.loose.length) (hl : s.at_ ≤ s.toks.length) (h : Go K s.done l d la P) : Go (K + 1) s (w :: l) d la P := by
  have e : s.done.toks = s.toks ∧ s.done.en = s.en ∧ s.done.at_ = s.at_ := by unfold PS.done; rw [hb]; exact ⟨rfl, rfl, rfl⟩
  refine go_act (u := s.done) h1 ?_ e.1 e.2.1 e.2.2 hl h
  unfold RS.act RS.node PS.done
  rw [if_neg (by omega), if_neg (by omega), if_neg (by omega), if_neg (by omega), if_neg (by omega), if_neg (by omega), if_neg (by omega), if_neg (by omega), if_neg (by omega), if_neg (by omega), if_neg (by omega), if_neg (by omega), if_neg (by omega), hb,
    show (R s l d la).marks = (n, f) :: B from hb]
  dsimp only
  rw [if_pos (show f ≤ (R s l d la).wait.length from hf), if_neg hk]
  rfl
theorem go_node0 {w : Int} {n : Nd} (h1 : 1000 ≤ w) (h2 : w < 2000) (hk : n.kind ≠ 1) (hl : s.at_ ≤ s.toks.length) (h : Go K (s.leaf n) l d la P) : Go (K + 1) (s.begin_ n 0) (w :: l) d la P :=
  go_node (s := s.begin_ n 0) h1 h2 rfl hk (Nat.le_refl _) hl h
theorem go_fn {n : Nd} {f : Nat} {B : List (Nd × Nat)} (hb : s.begun = (n, f) :: B) (hk : n.kind = 1) (hf : f ≤ s.loose.length) (hl : s.at_ ≤ s.toks.length)
    (h : Go K { s with begun := B, nodes := s.nodes ++ [{ n with kids := s.loose.drop f }], funcs := s.funcs ++ [(s.nodes.length : Int)], loose := [] } l d la P) : Go (K + 1) s (1001 :: l) d la P := by
  refine go_act (u := { s with begun := B, nodes := s.nodes ++ [{ n with kids := s.loose.drop f }], funcs := s.funcs ++ [(s.nodes.length : Int)], loose := [] }) (by decide) ?_ rfl rfl rfl hl h
  unfold RS.act RS.node
  rw [if_neg (by decide), if_neg (by decide), if_neg (by decide), if_neg (by decide), if_neg (by decide), if_neg (by decide), if_neg (by decide), if_neg (by decide), if_neg (by decide), if_neg (by decide), if_neg (by decide), if_neg (by decide), if_neg (by decide),
    show (R s l d la).marks = (n, f) :: B from hb]
  dsimp only
  rw [if_pos (show f ≤ (R s l d la).wait.length from hf), if_pos hk]
  rfl
/-- The end. -/
theorem go_fin {s' : PS} (h : R s l d la = R s' l d la) (hw : Wt s'.todo s'.begun l) (hl : LastOk s' la) (ha : s.at_ = s'.at_) : Go K s l d la (Out s.toks s.en (.ok s')) := go_end (.inl ⟨l, d, la, h, hw, hl, ha⟩)
/-- The document's machine sees a fault one step earlier. -/
theorem go_early {w : Int} {row : List Int} {s' : PS} {x : Sym} {t : List Sym} (h1 : 100 ≤ w) (h2 : w < 1000) (hr : rule w s.kind (s.at_ == s.toks.length) = (row, false)) (ht : s'.todo = x :: t) (he : ({ s' with todo := t } : PS).rule x = .error s.fault) : Go K s (w :: l) d la (Out s.toks s.en (.ok s')) := by
  obtain ⟨n, r, i, hn, hs, hb⟩ := go_bad (K := K) (s := s) (l := l) (d := d) (la := la) h1 h2 hr
  exact ⟨n, r, i, hn, hs, .inr ⟨x, t, _, ht, he, hb⟩⟩
theorem LastOk.skip : LastOk s.skip s.cur := fun _ => rfl

/-- What takes a token, and what follows. -/
theorem take_b {α : Type} (k : Int) (f : Tok × PS → M α) : ((s.take k).bind f) = if s.kind = k then f (s.cur, s.skip) else .error s.fault := by
  unfold PS.take
  split <;> rfl
theorem expect_b {α : Type} (k : Int) (f : PS → M α) : ((s.expect k).bind f) = if s.kind = k then f s.skip else .error s.fault := by
  unfold PS.expect PS.take
  split <;> rfl
theorem opened_b {α : Type} (k : Int) (f : PS → M α) : ((s.opened k).bind f) = if s.kind = k then f s.skip.enter else .error s.fault := by
  unfold PS.opened PS.expect PS.take
  split <;> rfl
theorem closed_b {α : Type} (f : PS → M α) : (s.closed.bind f) = if s.kind = 41 then f s.skip.leave else .error s.fault := by
  unfold PS.closed PS.expect PS.take
  split <;> rfl
theorem expect_e (k : Int) : s.expect k = if s.kind = k then .ok s.skip else .error s.fault := by
  unfold PS.expect PS.take
  split <;> rfl
theorem closed_e : s.closed = if s.kind = 41 then .ok s.skip.leave else .error s.fault := by
  unfold PS.closed PS.expect PS.take
  split <;> rfl
theorem shut_e : s.shut = if s.kind = 45 then .ok s.skip.leave else .error s.fault := by
  unfold PS.shut PS.expect PS.take
  split <;> rfl
end Rf
end Go.Proofs.Ythodjlhjfaccpaa
