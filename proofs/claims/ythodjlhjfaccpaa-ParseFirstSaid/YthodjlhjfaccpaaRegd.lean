/- A region in whose midst a call panics, whatever has come up ahead of it: loads and the like stand ahead, all that stands behind it waits for it. -/
import Derived.Test.YthodjlhjfaccpaaReg
namespace Go.Proofs.Ythodjlhjfaccpaa
namespace Reg
open Go
section
variable {P : Program} {ops : Array Oper}

/-- Looks at the world, and changes nothing. -/
def still (P : Program) (op : Op) : Bool := kp P op || isLoad op
/-- The exits of Q, but not the normal way out. -/
def Doom (Q : Exit → Act → World → Prop) : Exit → Act → World → Prop
  | .normal, _, _ => False
  | e, a, w => Q e a w

theorem still_step {o : Oper} {i : Nat} (ho : ops[i]? = some o) (hs : still P o.op = true) {F K : Act → World → Prop} {a : Act} {w : World} (ht : tame a.eval o.op = true) (h : wpOp P ops (NQ F) i K a w) :
    ∃ v, K (a.put o.dst v) w := by
  rw [wpOp_iff ho] at h
  unfold still at hs
  rw [Bool.or_eq_true] at hs
  rcases hs with hk | hl
  · rcases eff_uni (ops := ops) hk ht with ⟨v, hv⟩ | hh
    · rw [hv w] at h; exact ⟨v, h⟩
    · obtain ⟨x, w', hx⟩ := hh w
      rw [hx] at h
      exact (not_upon_halt h).elim
  · cases he : eff P ops o a w with
    | halt x w' => rw [he] at h; exact (not_upon_halt h).elim
    | ok n w1 =>
      obtain ⟨rfl, ⟨v, rfl⟩, _⟩ := load_eff hl he
      rw [he] at h
      exact ⟨v, h⟩

/-- What no frame's temporaries have a part in. -/
def Frameless (Q : Exit → Act → World → Prop) : Prop := ∀ c a d v w, Q (.panic c) (a.put d v) w → Q (.panic c) a w

theorem doom_back {m : Nat} {om : Oper} (hom : ops[m]? = some om) (hns : ∀ cs b, om.op ≠ .select cs b) {Q : Exit → Act → World → Prop} (hQ : Frameless Q) {a : Act} {w : World} {d : Option Tmp} {v : Value}
    (hd : ∀ t, d = some t → t ∉ om.looksAt ops) (h : wpOp P ops Q m (fun _ _ => False) (a.put d v) w) : wpOp P ops Q m (fun _ _ => False) a w := by
  unfold wpOp at h ⊢
  simp only [hom, wanted_put om a d v hd] at h ⊢
  split
  case isTrue hw =>
    rw [if_pos hw] at h
    unfold Oper.wp Oper.asks at *
    rw [execOp_put om hns a d v hd] at h
    rcases h with h | h
    · left
      generalize (execOp a.eval om).run P w = r at h ⊢
      cases r with
      | ok n w' =>
        cases n <;> simp only [Oper.upon] at h ⊢
        exact Calls.mono h fun e w'' he => by cases e <;> first | exact he | exact hQ _ _ _ _ _ he
        exact h
      | halt x w' => cases x <;> simp only [Oper.upon] at h ⊢; exact hQ _ _ _ _ _ h
    · exact .inr h
  case isFalse hw => rw [if_neg hw] at h; exact h.elim

theorem doom_now {m : Nat} {om : Oper} (hok : Ok m P ops) (hom : ops[m]? = some om) (hns : ∀ cs b, om.op ≠ .select cs b) {Q : Exit → Act → World → Prop} (hQ : Frameless Q) (hst : ∀ k ok, k < m → ops[k]? = some ok → still P ok.op = true)
    (hlook : ∀ k ok t, k < m → ops[k]? = some ok → ok.dst = some t → t ∈ om.looksAt ops → pre ops m k = true) : ∀ (R : List Nat) (a : Act) (w : World),
    R.Pairwise (· < ·) → (∀ k ∈ R, k < m ∧ pre ops m k = false) →
    wpOps P ops (NQ fun a' w' => tames ops a' = true ∧ wpOp P ops Q m (fun _ _ => False) a' w') R a w → wpOp P ops Q m (fun _ _ => False) a w := by
  intro R
  induction R with
  | nil => intro a w _ _ h; exact h.2
  | cons k R ih =>
    intro a w hR hk h
    obtain ⟨hkm, hkp⟩ := hk k (by simp)
    obtain ⟨ok, hok'⟩ : ∃ ok, ops[k]? = some ok := ⟨_, Array.getElem?_eq_getElem (by have := lt_of_get hom; omega)⟩
    rw [List.pairwise_cons] at hR
    have ht : tame a.eval ok.op = true := tame_now hok hok' (R := k :: R) (fun j hj hjs => by
      cases hp : pre ops k j with
      | false => rfl
      | true =>
        have h1 := (hok.clos k ok hok' j hjs hp).1
        rcases List.mem_cons.1 hj with rfl | hj
        · omega
        · have := hR.1 j hj; omega) h
    rw [wpOps_cons] at h
    obtain ⟨v, hv⟩ := still_step hok' (hst k ok hkm hok') ht h
    refine doom_back hom hns hQ (fun t hd hm => ?_) (ih _ w hR.2 (fun j hj => hk j (List.mem_cons_of_mem _ hj)) hv)
    rw [hlook k ok t hkm hok' hd hm] at hkp
    cases hkp

theorem core_doom {m : Nat} {om : Oper} (hok : Ok m P ops) (hom : ops[m]? = some om) (hns : ∀ cs b, om.op ≠ .select cs b) {Q : Exit → Act → World → Prop} (hQ : Frameless Q) (hst : ∀ k ok, k < m → ops[k]? = some ok → still P ok.op = true)
    (hlook : ∀ k ok t, k < m → ops[k]? = some ok → ok.dst = some t → t ∈ om.looksAt ops → pre ops m k = true) (hafter : ∀ k, m < k → k < ops.size → pre ops k m = true) : ∀ (fuel : Nat) (listed : Array Bool) (a : Act) (w : World),
    listed.size = ops.size → listed.getD m true = false →
    (∀ x, x < ops.size → listed.getD x true = true → ∀ k, k < ops.size → pre ops x k = true → listed.getD k true = true) → (rem m listed).length < fuel →
    wpOps P ops (NQ fun a' w' => tames ops a' = true ∧ wpOp P ops Q m (fun _ _ => False) a' w') (rem m listed) a w → wpAny P .any ops Q fuel listed a w := by
  have hgd : ∀ (listed : Array Bool) k, listed.getD k false = true → listed.getD k true = true := by
    intro listed k hk
    rcases Nat.lt_or_ge k listed.size with h' | h'
    · simp [h'] at hk ⊢; exact hk
    · simp [Array.getElem?_eq_none h'] at hk
  have hgi : ∀ (listed : Array Bool) k, k < listed.size → listed.getD k true = true → listed.getD k false = true := by
    intro listed k h' hk
    simp [h'] at hk ⊢; exact hk
  have hmsz := lt_of_get hom
  intro fuel
  induction fuel with
  | zero => intro listed a w _ _ _ hf; omega
  | succ fuel ih =>
    intro listed a w hsz hml hcl hf h
    refine ⟨fun hr => ?_, fun i hi => ?_⟩
    · exfalso
      -- something is ready: the first that remains, or the doomed one
      cases hrem : rem m listed with
      | nil =>
        have hall : ∀ k, k < m → listed.getD k true = true := by
          intro k hk
          cases hl : listed.getD k true with
          | true => rfl
          | false =>
            have : k ∈ rem m listed := mem_rem.2 ⟨hk, hl⟩
            rw [hrem] at this; cases this
        have : m ∈ Region.ready .any ops listed := mem_ready.2 ⟨hml, om, hom, fun e he hb => hgi _ _ (by have := hok.edges m om hom e he hb; omega) (hall _ (hok.edges m om hom e he hb))⟩
        rw [hr] at this; cases this
      | cons x xs =>
        have hx := mem_rem.1 (show x ∈ rem m listed by rw [hrem]; simp)
        obtain ⟨ox, hox⟩ : ∃ ox, ops[x]? = some ox := ⟨_, Array.getElem?_eq_getElem (by omega)⟩
        have hs := rem_sorted m listed
        rw [hrem, List.pairwise_cons] at hs
        have : x ∈ Region.ready .any ops listed := mem_ready.2 ⟨hx.2, ox, hox, fun e he hb => by
          have hlt := hok.edges x ox hox e he hb
          cases hl : listed.getD e.on true with
          | true => exact hgi _ _ (by omega) hl
          | false =>
            have hmm : e.on ∈ rem m listed := mem_rem.2 ⟨by omega, hl⟩
            rw [hrem] at hmm
            rcases List.mem_cons.1 hmm with h1 | h1
            · omega
            · have := hs.1 _ h1; omega⟩
        rw [hr] at this
        cases this
    · obtain ⟨h0, oi, hoi, hall⟩ := mem_ready.1 hi
      have hprei : ∀ k, k < ops.size → pre ops i k = true → listed.getD k true = true := by
        intro k hk hp
        obtain ⟨_, e, he, hb, h2⟩ := hok.clos i oi hoi k hk hp
        have h3 := hall e he hb
        rcases h2 with rfl | h2
        · exact hgd _ _ h3
        · exact hcl e.on (by have := hok.edges i oi hoi e he hb; have := lt_of_get hoi; omega) (hgd _ _ h3) k hk h2
      have hi' := lt_of_get hoi
      rcases Nat.lt_trichotomy i m with him | him | him
      · have him' : i ∈ rem m listed := mem_rem.2 ⟨him, h0⟩
        obtain ⟨l1, l2, hl⟩ := List.append_of_mem him'
        have hs := rem_sorted m listed
        have hfr := front hok him hoi (Q := fun a' w' => wpOp P ops Q m (fun _ _ => False) a' w') (l2 := l2) l1 (fun k => listed.getD k true = true) a w
          (fun x hx => by rw [← hl] at hx; have := mem_rem.1 hx; exact ⟨by omega, by rw [this.2]; simp⟩)
          (by rw [← hl]; exact hs.imp (fun h => Nat.ne_of_lt h))
          (fun j hj => by rw [hl, List.pairwise_append] at hs; exact hs.2.2 j hj i (by simp))
          (fun p j q he k hk hp => by
            have hj : j ∈ rem m listed := by rw [hl, he]; simp
            have hjm := (mem_rem.1 hj).1
            obtain ⟨oj, hoj⟩ : ∃ oj, ops[j]? = some oj := ⟨_, Array.getElem?_eq_getElem (by omega)⟩
            have hkj := (hok.clos j oj hoj k hk hp).1
            cases hlk : listed.getD k true with
            | true => exact .inl rfl
            | false =>
              right
              have hm : k ∈ rem m listed := mem_rem.2 ⟨by omega, hlk⟩
              rw [hl, he] at hm hs
              simp only [List.append_assoc, List.cons_append, List.mem_append, List.mem_cons] at hm
              rw [List.append_assoc, List.pairwise_append] at hs
              have hs2 := hs.2.1
              rw [List.cons_append, List.pairwise_cons] at hs2
              rcases hm with h1 | h1
              · exact h1
              · rcases h1 with h1 | h1
                · omega
                · have := hs2.1 k (by simp only [List.mem_append, List.mem_cons]; exact h1); omega)
          hprei (by rw [← hl]; exact h)
        refine wpOp_toQ (fun a' w' h' => ih (listed.setIfInBounds i true) a' w' (by simp [hsz]) ?_ ?_ ?_ ?_) hfr
        · rw [getD_set_ne true (by omega)]; exact hml
        · intro x hx hxl k hk hp
          by_cases hik : i = k
          · subst hik; simp [hsz, hk]
          · rw [getD_set_ne true hik]
            by_cases hix : i = x
            · subst hix; exact hprei k hk hp
            · rw [getD_set_ne true hix] at hxl; exact hcl x hx hxl k hk hp
        · rw [rem_set (by omega) hl]; rw [hl] at hf; simp at hf ⊢; omega
        · rw [rem_set (by omega) hl]; exact h'
      · subst him
        have hd := doom_now hok hom hns hQ hst hlook (rem i listed) a w (rem_sorted i listed) (fun k hk => ⟨(mem_rem.1 hk).1, by
          cases hp : pre ops i k with
          | false => rfl
          | true =>
            have h1 := hprei k (by have := (mem_rem.1 hk).1; omega) hp
            rw [(mem_rem.1 hk).2] at h1; cases h1⟩) h
        exact wpOp_mono (fun _ _ h => h.elim) hd
      · have h1 := hprei m hmsz (hafter i him hi')
        rw [hml] at h1; cases h1
end

def notSel : Op → Bool | .select .. => false | _ => true
def stillAt (P : Program) (m : Nat) (ops : Array Oper) (om : Oper) (k : Nat) : Bool := match ops[k]? with
  | some ok => still P ok.op && (match ok.dst with | some d => !(om.looksAt ops).contains d || pre ops m k | none => true)
  | none => true
def doomAt (P : Program) (m : Nat) (ops : Array Oper) : Bool := match ops[m]? with
  | some om => notSel om.op && (List.range m).all (stillAt P m ops om)
  | none => false
def doomB (P : Program) (m : Nat) (ops : Array Oper) : Bool := okB m P ops && doomAt P m ops && (List.range ops.size).all fun k => decide (k ≤ m) || pre ops k m
/-- A region in which the operation behind l panics, whatever has come up. -/
theorem wp_region_doom {P : Program} {id : Nat} (l r : List Oper) {o : Oper} {Q : Exit → Act → World → Prop} {a : Act} {w : World} (hm : P.follows .mixedOrders = true) (hs : doomB P l.length (l ++ o :: r).toArray = true) (hQ : Frameless Q)
    (h : wpList P (l ++ o :: r).toArray (NQ fun a' w' => tames (l ++ o :: r).toArray a' = true ∧ wpList P (l ++ o :: r).toArray (Doom Q) [o] a' w') l a w.drew) : (Code.region id (l ++ o :: r).toArray true).wp P Q a w := by
  have hsz : (l ++ o :: r).toArray.size = l.length + 1 + r.length := by simp; omega
  have hom : (l ++ o :: r).toArray[l.length]? = some o := by simp
  unfold doomB at hs
  rw [Bool.and_eq_true, Bool.and_eq_true] at hs
  obtain ⟨⟨h1, h23⟩, h4⟩ := hs
  unfold doomAt at h23
  rw [hom] at h23
  simp only [Bool.and_eq_true, List.all_eq_true, List.mem_range] at h23 h4
  obtain ⟨h2, h3⟩ := h23
  refine wp_region_any hm ?_
  refine core_doom (ok_of h1) hom (fun cs b he => by rw [he] at h2; simp [notSel] at h2) hQ (fun k ok hk ho => ?_) (fun k ok t hk ho hd hmem => ?_) (fun k hk hk2 => ?_) _ _ _ _ (by simp) (by simp) ?_ ?_ ?_
  · have := h3 k hk
    unfold stillAt at this
    rw [ho] at this
    simp only [Bool.and_eq_true] at this
    exact this.1
  · have := h3 k hk
    unfold stillAt at this
    rw [ho] at this
    simp only [Bool.and_eq_true, hd] at this
    simpa [hmem] using this.2
  · have := h4 k hk2
    have hn : ¬ k ≤ l.length := Nat.not_le.2 hk
    simpa [hn] using this
  · intro x hx h1
    have hx2 : x < (Array.replicate (l ++ o :: r).toArray.size false).size := by rw [Array.size_replicate]; exact hx
    rw [Array.getD_eq_getD_getElem?, Array.getElem?_eq_getElem hx2, Option.getD_some, Array.getElem_replicate] at h1
    cases h1
  · unfold rem
    refine Nat.lt_of_le_of_lt (List.length_filter_le _ _) ?_
    rw [List.length_range, hsz]; omega
  · have hr : rem l.length (Array.replicate (l ++ o :: r).toArray.size false) = List.range' 0 l.length := by
      unfold rem
      rw [List.filter_eq_self.2 (fun k hk => by have h5 : k < l.length := by simpa using hk
                                                have h6 : k < (Array.replicate (l ++ o :: r).toArray.size false).size := by rw [Array.size_replicate]; omega
                                                rw [Array.getD_eq_getD_getElem?, Array.getElem?_eq_getElem h6, Option.getD_some, Array.getElem_replicate]; rfl)]
      simp [List.range_eq_range']
    rw [hr, wpOps_prefix l 0 (by intro j hj; rw [Nat.zero_add, List.getElem?_toArray, List.getElem?_append_left hj])]
    refine wpList_F (fun a' w' h' => ⟨h'.1, ?_⟩) l _ _ h
    have h2 := h'.2
    unfold wpOp
    simp only [hom]
    unfold wpList at h2
    split
    · rename_i hw
      rw [if_pos hw] at h2
      rcases h2 with h2 | ⟨h2, h3⟩
      · left
        unfold Oper.wp at *
        generalize (execOp a'.eval o).run P w' = res at h2 ⊢
        cases res with
        | ok n w2 =>
          cases n <;> simp only [Oper.upon] at h2 ⊢ <;> first | exact h2 | exact Calls.mono h2 (fun e w'' he => by cases e <;> first | exact he | (obtain ⟨x, y, z⟩ := he; exact ⟨x, y, z⟩))
        | halt x w2 => cases x <;> simp only [Oper.upon] at h2 ⊢ <;> exact h2
      · exact .inr ⟨h2, by obtain ⟨x, y, z⟩ := h3; exact ⟨x, y, z⟩⟩
    · rename_i hw; rw [if_neg hw] at h2; exact h2
end Reg
end Go.Proofs.Ythodjlhjfaccpaa
