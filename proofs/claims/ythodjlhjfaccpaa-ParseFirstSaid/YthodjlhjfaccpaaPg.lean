/- left, opened, closed, shut, semi, set, typed. -/
import Derived.Test.YthodjlhjfaccpaaPe
set_option linter.unusedVariables false
namespace Go.Proofs.Ythodjlhjfaccpaa
open Go Go.RowKit Mem Pm

section
variable {bd : Nat} {L Li : List Nat} {gp b b' : Nat} {s s' : PS} {w0 w w' : World}

theorem ndsC_get {l : List (Nd × Value)} {i : Nat} {n : Nd} {kv : Value} (h : l[i]? = some (n, kv)) (j : Nat) (hj : j < 10) : (ndsC l)[i * 10 + j]? = (ndC n kv)[j]? := by
  have hlen : ∀ (n : Nd) kv, (ndC n kv).length = 10 := fun _ _ => rfl
  induction l generalizing i with
  | nil => simp at h
  | cons x r ih =>
    unfold ndsC at ih ⊢
    rw [List.flatMap_cons]
    cases i with
    | zero => simp at h; subst h; rw [List.getElem?_append_left (by rw [hlen]; omega)]; simp
    | succ i => rw [List.getElem?_append_right (by rw [hlen]; omega), hlen, show (i + 1) * 10 + j - 10 = i * 10 + j by omega]; exact ih (by simpa using h)

/-- The value that was read last is there. -/
def HasLeft (s : PS) : Prop := ∃ j : Nat, s.loose[s.loose.length - 1]? = some (j : Int) ∧ j < s.nodes.length

set_option maxRecDepth 100000 in
set_option maxHeartbeats 2000000 in
theorem left_c (h : PInv bd L gp s w) (hs : s.sz ≤ 1000000000) (hl : HasLeft s) : Calls Try.prog 86 #[.pointer (some ⟨gp, 0, none⟩)] w fun e w' => e = .returned (.int .i64 s.leftAt) ∧ Fr w w' := by
  obtain ⟨ta, tc, td, nd, fu, lo, be, ne, kvs, h⟩ := h
  obtain ⟨j, hj, hjn⟩ := hl
  have hll : 0 < s.loose.length := by have := (List.getElem?_eq_some_iff.1 hj).1; omega
  obtain ⟨al, cl, rfl, hcl, hgl⟩ := h.loose.form
  obtain ⟨gl, rfl, hgl⟩ := hgl hll
  obtain ⟨an, cn, rfl, hcn, hgn⟩ := h.nodes.form
  obtain ⟨gn, rfl, hgn⟩ := hgn (by omega)
  have hc := pcells h.blk
  have c1 := h.loose.cell hgl (ints_get hj)
  have hz : (s.nodes.zip kvs)[j]? = some (s.nodes[j], kvs[j]'(by have := h.kvl; omega)) := by
    rw [List.getElem?_eq_getElem (by rw [List.length_zip]; have := h.kvl; omega)]
    simp
  have c2 : w.cell? ⟨gn, j * 10 + 1, none⟩ = some (.int .i64 s.nodes[j].at_) := h.nodes.cell hgn (by rw [ndsC_get hz 1 (by omega)]; rfl)
  have hla : s.leftAt = s.nodes[j].at_ := by
    unfold PS.leftAt
    have : s.loose.getLastD 0 = (j : Int) := by rw [List.getLastD_eq_getLast?, List.getLast?_eq_getElem?, hj]; rfl
    rw [this, Int.toNat_natCast, List.getD_eq_getElem?_getD, List.getElem?_eq_getElem hjn, Option.getD_some]
  have hi0 : (0 : Int) ≤ (s.loose.length : Int) - 1 := by omega
  have hi1 : (s.loose.length : Int) - 1 < (s.loose.length : Int) := by omega
  have hi2 : ((s.loose.length : Int) - 1).toNat = s.loose.length - 1 := by omega
  have hj0 : (0 : Int) ≤ (j : Int) := by omega
  have hj1 : (j : Int) < (s.nodes.length : Int) := by omega
  have hnl : s.loose.length ≤ 1000000000 := by unfold PS.sz at hs; omega
  rw [hla]
  clear hla hz hj hs h
  generalize s.nodes[j].at_ = x at c2 ⊢
  go_enter Try.func86, Try.ntmps86
  go_wp2_with fail
  refine Reg.wp_region_text (by kernel_rfl) (by kernel_rfl) ?_
  go_wp2_with fail
  refine ⟨by kernel_rfl, ?_⟩
  go_wp2_with fail
  go_ret
  exact ⟨rfl, (Ch.refl _ _).drew⟩

theorem left_s (h : St bd L gp w0 Li b s w) (hb : b ≤ 999999000) (hl : HasLeft s) : Calls Try.prog 86 #[.pointer (some ⟨gp, 0, none⟩)] w (PostS bd L gp w0 Li b w (.int .i64 s.leftAt) s) :=
  (left_c h.p (by have := h.sz; omega) hl).mono fun e w' ⟨h1, h2⟩ => ⟨h1, kp_fr h.p h.li h2, h.fr h2⟩

/-- How a rule's call ends. -/
def PostM (bd : Nat) (L : List Nat) (gp : Nat) (w0 : World) (Li : List Nat) (b : Nat) (w : World) (r : M PS) (e : Ending) (w' : World) : Prop :=
  (∃ f, r = .error f ∧ e = thrown f ∧ Kp (Out bd L) w0 w') ∨ ∃ s', r = .ok s' ∧ PostS bd L gp w0 Li b w (.tuple #[]) s' e w'
theorem PostM.ok {e : Ending} (h : PostS bd L gp w0 Li b w (.tuple #[]) s' e w') {r : M PS} (hr : r = .ok s') : PostM bd L gp w0 Li b w r e w' := .inr ⟨_, hr, h⟩
theorem PostM.err {r : M PS} {f : Int × Int} (hr : r = .error f) (hk : Kp (Out bd L) w0 w') : PostM bd L gp w0 Li b w r (thrown f) w' := .inl ⟨_, hr, rfl, hk⟩
/-- How a call ends that takes one token first. -/
def PostT (bd : Nat) (L : List Nat) (gp : Nat) (w0 : World) (Li : List Nat) (b : Nat) (s : PS) (k : Int) (w : World) (s' : PS) (e : Ending) (w' : World) : Prop :=
  (s.kind ≠ k ∧ e = thrown s.fault ∧ Kp (Out bd L) w0 w') ∨ (s.kind = k ∧ PostS bd L gp w0 Li b w (.tuple #[]) s' e w')
/-- How the reading of a type ends. -/
def PostY (bd : Nat) (L : List Nat) (gp : Nat) (w0 : World) (Li : List Nat) (b : Nat) (w : World) (s : PS) (e : Ending) (w' : World) : Prop :=
  (∃ f, s.typed = .error f ∧ e = thrown f ∧ Kp (Out bd L) w0 w') ∨ ∃ d a, s.typed = .ok (d, { s with at_ := a }) ∧ PostS bd L gp w0 Li b w (.int .i64 d) { s with at_ := a } e w'
theorem St.outv {Lj : List Nat} (H : St bd L gp w0 Li b s w) (h : St bd Li gp w Lj b' s' w') (v : Value) : PostS bd L gp w0 Li b' w v s' (.returned v) w' :=
  ⟨rfl, h.kp, H.next h.kp (h.p.drop h.sub) h.sz⟩
/-- A method's own St, told from its start. -/
theorem St.out {Lj : List Nat} (H : St bd L gp w0 Li b s w) (h : St bd Li gp w Lj b' s' w') : PostS bd L gp w0 Li b' w (.tuple #[]) s' (.returned (.tuple #[])) w' :=
  ⟨rfl, h.kp, H.next h.kp (h.p.drop h.sub) h.sz⟩
theorem St.outk (H : St bd L gp w0 Li b s w) (h : Kp (Out bd Li) w w') : Kp (Out bd L) w0 w' := H.kpl h
/-- The parser's struct, and the token that is next, as they lie. -/
theorem St.cellsT (h : St bd L gp w0 Li b s w) (hk : s.at_ < s.toks.length) : ∃ bt off tc td nd fu lo be ne, w.cell? ⟨gp, 0, none⟩ = some (.slice (some ⟨bt, off, none⟩) s.toks.length tc) ∧ w.cell? ⟨gp, 1, none⟩ = some (.int .i64 s.en) ∧ w.cell? ⟨gp, 2, none⟩ = some (.int .i64 s.at_) ∧
    w.cell? ⟨gp, 3, none⟩ = some td ∧ w.cell? ⟨gp, 4, none⟩ = some nd ∧ w.cell? ⟨gp, 5, none⟩ = some fu ∧ w.cell? ⟨gp, 6, none⟩ = some lo ∧ w.cell? ⟨gp, 7, none⟩ = some be ∧ w.cell? ⟨gp, 8, none⟩ = some (.int .i64 s.open_) ∧ w.cell? ⟨gp, 9, none⟩ = some ne ∧
    bt ≠ gp ∧ (bt < w0.heap.size ∧ w.cell? ⟨bt, off + s.at_ * 4, none⟩ = some (.int .i64 s.cur.kind) ∧ w.cell? ⟨bt, off + s.at_ * 4 + 1, none⟩ = some (.int .i64 s.cur.at_) ∧ w.cell? ⟨bt, off + s.at_ * 4 + 2, none⟩ = some (.int .i64 s.cur.value) ∧ w.cell? ⟨bt, off + s.at_ * 4 + 3, none⟩ = some (.string s.cur.name)) := by
  obtain ⟨ta, tc, td, nd, fu, lo, be, ne, kvs, hp⟩ := h.p
  have hc := pcells hp.blk
  have ht : s.toks[s.at_]? = some s.cur := by simp [PS.cur, hk]
  obtain ⟨bt, off, rfl, h1, h2, h3, h4, h5⟩ := hp.tok ht
  have h6 := hp.bd_le
  have h7 := h.g0
  obtain ⟨c0, c1, c2, c3, c4, c5, c6, c7, c8, c9⟩ := hc
  exact ⟨bt, off, tc, _, _, _, _, _, _, c0, c1, c2, c3, c4, c5, c6, c7, c8, c9, by omega, by omega, h2, h3, h4, h5⟩
/-- Where the next token lies, in numbers. -/
theorem St.nums (h : St bd L gp w0 Li b s w) (hk : s.at_ < s.toks.length) : (s.at_ : Int) < (s.toks.length : Int) ∧ (0 : Int) ≤ (s.at_ : Int) ∧ ((s.at_ : Int) + 1 - 1).toNat = s.at_ ∧ s.toks.length ≤ 1000000000 ∧ ((s.at_ : Int) == (s.toks.length : Int)) = false := by
  have := h.ntok
  refine ⟨by omega, by omega, by omega, this.1, by simp; omega⟩
/-- Back by one token. -/
theorem St.unskip (h : St bd L gp w0 Li b s.skip w) : St bd L gp w0 Li b s (w.setCell ⟨gp, 2, none⟩ (.int .i64 (s.at_ : Int))) := by
  have hch : Ch (fun k => k = gp) w (w.setCell ⟨gp, 2, none⟩ (.int .i64 (s.at_ : Int))) := Ch.setCell (S := fun k => k = gp) (p := ⟨gp, 2, none⟩) (Ch.refl _ _) rfl _
  refine h.next (kp_gp h.p h.li hch) ?_ h.sz
  have hl := h.ntok.2
  obtain ⟨ta, tc, td, nd, fu, lo, be, ne, kvs, hp⟩ := h.p
  exact ⟨ta, tc, td, nd, fu, lo, be, ne, kvs, hp.upd0 (a' := s.at_) (o' := s.open_) hch (Nat.le_of_succ_le hl) (hp.blk.set_ 2 _)⟩
/-- A block of the call's own lies apart from the parser's struct. -/
theorem St.apart (h : St bd L gp w0 Li b s w) : w.heap.size ≠ gp ∧ gp ≠ w.heap.size := by have := h.p.lt; omega
end
end Go.Proofs.Ythodjlhjfaccpaa
