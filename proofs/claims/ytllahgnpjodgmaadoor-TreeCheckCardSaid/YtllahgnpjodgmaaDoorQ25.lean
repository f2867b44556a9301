/- How long a tree's text is (chapter 3), on plain data. No program here.
Places and types change no tree and no text: the plain law of TreePlaces. No program here. -/
import Derived.Test.YtllahgnpjodgmaaDoorQ19
import Derived.Lib.ItoaLen
import Derived.Test.YtllahgnpjodgmaaDoorQ9
import Derived.Test.YtllahgnpjodgmaaDoorQ11
set_option linter.unusedVariables false
namespace Go.Proofs.YtllahgnpjodgmaaDoor
open Pm
namespace Tm
variable {nodes : List Nd} {funcs : List Int}
/-- A job of a node's, and how long its text is. -/
def PG (n : Nd) (t : Nat) : Part → Prop
  | .s l => l.length ≤ 81
  | .ln x => n.kind = 3
  | .k k x => n.kind = 3 ∨ x ≤ t
theorem tyLen (t : Int) : (typeName t).length ≤ 5 := by
  unfold typeName
  split
  · decide
  · split <;> decide
theorem signLen (op : Int) : (sign op).length ≤ 2 := by
  unfold sign
  have h : ∀ l ∈ signs, l.length ≤ 2 := by decide
  rw [List.getD_eq_getElem?_getD]
  cases e : signs[op.toNat]? with
  | none => exact Nat.zero_le _
  | some l => exact h l (List.mem_of_getElem? e)
theorem itoaLen {v : Int} (h0 : 0 ≤ v) (h1 : v ≤ 9223372036854775807) : (Lib.itoa v).length ≤ 20 := by
  unfold Lib.itoa
  rw [if_neg (by omega), Lib.decDigits_length]
  exact Lib.nDigits_le20 _ (by omega)
theorem pg_value {n : Nd} {t : Nat} {k : Int} {b : Bool} : ∀ p ∈ value k b, PG n t p := by
  intro p hp
  cases b
  · rcases List.mem_singleton.1 hp with rfl; exact .inr (Nat.zero_le _)
  · have hp' : p = .s [40] ∨ p = .k k 0 ∨ p = .s [41] := by simpa [value] using hp
    rcases hp' with rfl | rfl | rfl
    · show 1 ≤ 81; decide
    · exact .inr (Nat.zero_le _)
    · show 1 ≤ 81; decide
theorem params_pg (hnm : ∀ k : Int, (nm (nodeAt nodes k)).length ≤ 64) : ∀ (l : List Int) (p : Part), p ∈ params nodes l → ∃ x, p = .s x ∧ x.length ≤ 81
  | [], p, h => by cases h
  | [a], p, h => ⟨_, List.mem_singleton.1 h, by have := hnm a; have := tyLen (nodeAt nodes a).decl; simp; omega⟩
  | a :: b :: l, p, h => by
    have h' : p ∈ Part.s (nm (nodeAt nodes a) ++ [32] ++ typeName (nodeAt nodes a).decl) :: Part.s [44, 32] :: params nodes (b :: l) := h
    rcases List.mem_cons.1 h' with rfl | h1
    · exact ⟨_, rfl, by have := hnm a; have := tyLen (nodeAt nodes a).decl; simp; omega⟩
    · rcases List.mem_cons.1 h1 with rfl | h2
      · exact ⟨_, rfl, by decide⟩
      · exact params_pg hnm (b :: l) p h2
theorem v20 {n : Nd} (h : fields n = true) (hk : n.kind = 20) : 0 ≤ n.value := by
  unfold fields at h
  simp only [hk, Bool.and_eq_true] at h
  have := h.1.1.2
  simpa using this
theorem node_pg {n : Nd} (hf : fields n = true) (hk : kidsOk n.kind (n.kids.map (kindOf nodes)) = true) (h2 : n.kind ≠ 2) (hnl : (nm n).length ≤ 64) (hpn : ∀ k : Int, (nm (nodeAt nodes k)).length ≤ 64) (hv : n.value ≤ 9223372036854775807) (t : Nat) : ∀ p ∈ node nodes n t, PG n t p := by
  have hv20 := v20 hf
  have hty := tyLen n.decl
  obtain ⟨k, a1, a2, a3, a4, a5, a6, a7, nmm, ks⟩ := n
  dsimp only at hk h2 hv hv20 hty
  have hsg := signLen a6
  intro p hp
  by_cases e1 : k = 1
  · subst e1
    have hE : node nodes (⟨1, a1, a2, a3, a4, a5, a6, a7, nmm, ks⟩ : Nd) t = function nodes (⟨1, a1, a2, a3, a4, a5, a6, a7, nmm, ks⟩ : Nd) := rfl
    rw [hE] at hp
    unfold function at hp
    dsimp only at hp
    simp only [List.mem_cons, List.mem_append, List.not_mem_nil, or_false] at hp
    rcases hp with rfl | hp | rfl | hp | rfl | rfl
    · show List.length _ ≤ 81; simp; omega
    · obtain ⟨x, rfl, hx⟩ := params_pg hpn _ _ hp; exact hx
    · show 2 ≤ 81; decide
    · split at hp
      · cases hp
      · rcases List.mem_singleton.1 hp with rfl; show List.length _ ≤ 81; simp; omega
    · exact .inr (Nat.zero_le _)
    · show 1 ≤ 81; decide
  by_cases e3 : k = 3
  · subst e3
    have hE : node nodes (⟨3, a1, a2, a3, a4, a5, a6, a7, nmm, ks⟩ : Nd) t = block (⟨3, a1, a2, a3, a4, a5, a6, a7, nmm, ks⟩ : Nd) t := rfl
    rw [hE] at hp
    unfold block at hp
    simp only [List.mem_cons, List.mem_append, List.not_mem_nil, or_false, List.mem_flatMap] at hp
    rcases hp with rfl | ⟨x, hx, rfl | rfl⟩ | rfl | rfl
    · show 1 ≤ 81; decide
    · exact rfl
    · exact .inl rfl
    · exact rfl
    · show 1 ≤ 81; decide
  by_cases hs : isS k = true
  · have hE : node nodes (⟨k, a1, a2, a3, a4, a5, a6, a7, nmm, ks⟩ : Nd) t = statement (⟨k, a1, a2, a3, a4, a5, a6, a7, nmm, ks⟩ : Nd) t := by
      unfold node; dsimp only; rw [if_neg e1, if_neg e3, if_pos hs]
    rw [hE] at hp
    have hk' : k = 4 ∨ k = 5 ∨ k = 6 ∨ k = 7 ∨ k = 8 ∨ k = 9 ∨ k = 10 ∨ k = 11 ∨ k = 12 ∨ k = 13 ∨ k = 14 := by
      unfold isS at hs
      simp only [Bool.and_eq_true, decide_eq_true_eq] at hs
      omega
    have key : ∀ (q : Part), q ∈ statement (⟨k, a1, a2, a3, a4, a5, a6, a7, nmm, ks⟩ : Nd) t → PG (⟨k, a1, a2, a3, a4, a5, a6, a7, nmm, ks⟩ : Nd) t q := by
      clear hk hf hp hE
      intro q hq
      have hnl' : nmm.data.toList.length ≤ 64 := hnl
      rcases hk' with rfl | rfl | rfl | rfl | rfl | rfl | rfl | rfl | rfl | rfl | rfl
      all_goals (unfold statement at hq; simp only [if_true, if_false, Int.reduceEq, nm] at hq)
      all_goals (try split at hq)
      all_goals (simp only [List.mem_cons, List.not_mem_nil, or_false] at hq)
      all_goals (repeat' (first | (rcases hq with rfl | hq) | (subst hq)))
      all_goals (first | exact .inr (Nat.le_refl _) | (show List.length _ ≤ 81; simp only [List.length_append, List.length_cons, List.length_nil]; omega))
    exact key p hp
  · have hE : node nodes (⟨k, a1, a2, a3, a4, a5, a6, a7, nmm, ks⟩ : Nd) t = expression nodes (⟨k, a1, a2, a3, a4, a5, a6, a7, nmm, ks⟩ : Nd) := by
      unfold node; dsimp only; rw [if_neg e1, if_neg e3, if_neg hs]
    rw [hE] at hp
    have one : ∀ l : List UInt8, p ∈ [Part.s l] → l.length ≤ 81 → PG (⟨k, a1, a2, a3, a4, a5, a6, a7, nmm, ks⟩ : Nd) t p := fun l h1 h3 => by
      rcases List.mem_singleton.1 h1 with rfl; exact h3
    unfold expression at hp
    dsimp only at hp
    split at hp
    · rename_i h; exact one _ hp (by have := itoaLen (hv20 h) hv; omega)
    split at hp
    · exact one _ hp (by decide)
    split at hp
    · exact one _ hp (by decide)
    split at hp
    · exact one _ hp (by decide)
    split at hp
    · exact one _ hp (by decide)
    split at hp
    · exact one _ hp (by omega)
    split at hp
    · simp only [List.mem_cons, List.mem_append, List.not_mem_nil, or_false] at hp
      rcases hp with rfl | hp | rfl
      · show List.length _ ≤ 81; simp; omega
      · rcases mem_joined _ _ hp with ⟨x, hx, rfl⟩ | rfl
        · exact .inr (Nat.zero_le _)
        · show 2 ≤ 81; decide
      · show 1 ≤ 81; decide
    split at hp
    · simp only [List.mem_cons, List.not_mem_nil, or_false] at hp
      rcases hp with rfl | rfl | rfl
      · show 4 ≤ 81; decide
      · exact .inr (Nat.zero_le _)
      · show 1 ≤ 81; decide
    split at hp
    · simp only [List.mem_cons, List.not_mem_nil, or_false] at hp
      rcases hp with rfl | rfl | rfl
      · show 12 ≤ 81; decide
      · exact .inr (Nat.zero_le _)
      · show 1 ≤ 81; decide
    unfold operation at hp
    dsimp only at hp
    split at hp
    · rcases List.mem_append.1 hp with hp | hp
      · exact pg_value p hp
      · simp only [List.mem_cons, List.not_mem_nil, or_false] at hp
        rcases hp with rfl | rfl | rfl
        · show 1 ≤ 81; decide
        · exact .inr (Nat.zero_le _)
        · show 1 ≤ 81; decide
    split at hp
    · rcases List.mem_cons.1 hp with rfl | hp
      · show (sign a6).length ≤ 81; omega
      · exact pg_value p hp
    · rcases List.mem_append.1 hp with hp | hp
      · exact pg_value p hp
      · rcases List.mem_cons.1 hp with rfl | hp
        · show List.length _ ≤ 81; simp; omega
        · exact pg_value p hp
/-- Blocks among the first ones. -/
def bU (nodes : List Nd) (k : Nat) : Nat := ((nodes.take (k + 1)).filter fun n => n.kind == 3).length
theorem filt_take (l : List Nd) (f : Nd → Bool) : ∀ {a b : Nat}, a ≤ b → ((l.take a).filter f).length ≤ ((l.take b).filter f).length := by
  intro a b h
  have : l.take a = (l.take b).take a := by rw [List.take_take, Nat.min_eq_left h]
  rw [this]
  exact ((List.take_sublist a (l.take b)).filter f).length_le
theorem bU_mono {a b : Nat} (h : a ≤ b) : bU nodes a ≤ bU nodes b := filt_take nodes _ (by omega)
theorem bU_le (k : Nat) : bU nodes k ≤ (nodes.filter fun n => n.kind == 3).length := ((List.take_sublist (k + 1) nodes).filter _).length_le
theorem bU_block {k k' : Nat} (hk : k < nodes.length) (h3 : (nodes.getD k {}).kind = 3) (hlt : k' < k) : bU nodes k' + 1 ≤ bU nodes k := by
  have h1 : bU nodes k = ((nodes.take k).filter fun n => n.kind == 3).length + 1 := by
    unfold bU
    rw [List.take_add_one, List.getElem?_eq_getElem hk, List.filter_append, List.length_append]
    rw [getD_get hk] at h3
    simp [h3]
  have h2 := filt_take nodes (fun n => n.kind == 3) (show k' + 1 ≤ k by omega)
  unfold bU at h1 ⊢
  omega
theorem parts_len {M : Nat} {f : Int → Nat → List UInt8} {g : Int → Nat} : ∀ L : List Part, (∀ p ∈ L, match p with | .s l => l.length ≤ M | .ln x => 1 + x ≤ M | .k k x => (f k x).length ≤ M * g k) →
    (L.flatMap (outP f)).length ≤ M * (L.length + ((L.filterMap kOf).map g).sum)
  | [], _ => Nat.zero_le _
  | p :: L, h => by
    have ih := parts_len L (fun q hq => h q (List.mem_cons_of_mem _ hq))
    have h1 := h p (List.mem_cons_self ..)
    rw [List.flatMap_cons, List.length_append, List.length_cons]
    cases p with
    | s l =>
      have e : (Part.s l :: L).filterMap kOf = L.filterMap kOf := rfl
      have h2 : (outP f (Part.s l)).length ≤ M := h1
      rw [e, show L.length + 1 + ((L.filterMap kOf).map g).sum = 1 + (L.length + ((L.filterMap kOf).map g).sum) by omega, Nat.mul_add, Nat.mul_one]
      omega
    | ln x =>
      have e : (Part.ln x :: L).filterMap kOf = L.filterMap kOf := rfl
      have h2 : (outP f (Part.ln x)).length ≤ M := by
        show (10 :: List.replicate x 9).length ≤ M
        rw [List.length_cons, List.length_replicate]
        have : 1 + x ≤ M := h1
        omega
      rw [e, show L.length + 1 + ((L.filterMap kOf).map g).sum = 1 + (L.length + ((L.filterMap kOf).map g).sum) by omega, Nat.mul_add, Nat.mul_one]
      omega
    | k x y =>
      have e : (Part.k x y :: L).filterMap kOf = x :: L.filterMap kOf := rfl
      have h2 : (outP f (Part.k x y)).length ≤ M * g x := h1
      rw [e, List.map_cons, List.sum_cons, show L.length + 1 + (g x + ((L.filterMap kOf).map g).sum) = 1 + g x + (L.length + ((L.filterMap kOf).map g).sum) by omega, Nat.mul_add, Nat.mul_add, Nat.mul_one]
      omega
theorem tx_len (h : Ok nodes funcs) (hpn : ∀ k : Int, (nm (nodeAt nodes k)).length ≤ 64) (hv : ∀ n ∈ nodes, n.value ≤ 9223372036854775807) (D : Nat) : ∀ (d : Nat) (k : Int) (t : Nat), 0 ≤ k → k < (nodes.length : Int) → kindOf nodes k ≠ 2 → t + bU nodes k.toNat ≤ D → (tx nodes d k t).length ≤ (81 + D) * wk nodes d k
  | 0, _, _, _, _, _, _ => Nat.zero_le _
  | d + 1, k, t, h0, hn, h2, hD => by
    obtain ⟨hf, hko⟩ := h.each _ (nodeAt_mem h0 hn)
    have hpf := node_pf hf hko h2 t
    have hpg := node_pg hf hko h2 (hpn k) hpn (hv _ (nodeAt_mem h0 hn)) t
    obtain ⟨s1, s2⟩ := node_sub hko h2 t
    have h3 := parts_len (M := 81 + D) (f := tx nodes d) (g := wk nodes d) (node nodes (nodeAt nodes k) t) (fun p hp => by
      have p1 := hpf p hp
      have p2 := hpg p hp
      cases p with
      | s l => have : l.length ≤ 81 := p2; show l.length ≤ _; omega
      | ln x =>
        have q1 : x ≤ t + 1 := p1
        have q2 : (nodeAt nodes k).kind = 3 := p2
        have q3 : 1 ≤ bU nodes k.toNat := by
          rcases Nat.eq_zero_or_pos k.toNat with h5 | h5
          · unfold bU
            rw [h5]
            have hl : 0 < nodes.length := by omega
            have q4 : (nodes.getD 0 {}).kind = 3 := by unfold nodeAt at q2; rw [h5] at q2; exact q2
            rw [getD_get hl] at q4
            rw [List.take_add_one, List.getElem?_eq_getElem hl]
            simp [q4]
          · have := bU_block (nodes := nodes) (k := k.toNat) (k' := 0) (by omega) q2 h5
            omega
        show 1 + x ≤ _; omega
      | k x y =>
        have q1 : x ∈ (nodeAt nodes k).kids ∧ y ≤ t + 1 ∧ kindOf nodes x ≠ 2 := p1
        have q2 : (nodeAt nodes k).kind = 3 ∨ y ≤ t := p2
        have q3 := nodeAt_low h h0 x q1.1
        refine tx_len h hpn hv D d x y q3.1 (by omega) q1.2.2 ?_
        rcases q2 with q2 | q2
        · have := bU_block (nodes := nodes) (k := k.toNat) (k' := x.toNat) (by omega) q2 (by omega)
          omega
        · have := bU_mono (nodes := nodes) (a := x.toNat) (b := k.toNat) (by omega)
          omega)
    have s3 := sum_le_of_sub (f := wk nodes d) s1
    refine Nat.le_trans h3 (Nat.mul_le_mul_left _ ?_)
    show _ ≤ 8 + 2 * (nodeAt nodes k).kids.length + ((nodeAt nodes k).kids.map (wk nodes d)).sum
    omega
theorem kOf_map : ∀ l : List Int, (l.map fun f => Part.k f 0).filterMap kOf = l
  | [] => rfl
  | a :: l => by
    show a :: ((l.map fun f => Part.k f 0).filterMap kOf) = _
    rw [kOf_map l]
/-- A tree's text is not long. -/
theorem print_len (h : Ok nodes funcs) (hpn : ∀ k : Int, (nm (nodeAt nodes k)).length ≤ 64) (hv : ∀ n ∈ nodes, n.value ≤ 9223372036854775807) : (print nodes funcs).length ≤ (81 + (nodes.filter fun n => n.kind == 3).length) * (10 * nodes.length) := by
  have h1 := parts_len (M := 81 + (nodes.filter fun n => n.kind == 3).length) (f := tx nodes (nodes.length + 1)) (g := wk nodes (nodes.length + 1)) (funcs.map fun f => .k f 0) (fun p hp => by
    obtain ⟨f, hf, rfl⟩ := List.mem_map.1 hp
    obtain ⟨q0, q1, q2, _⟩ := pok_start h _ hp
    exact tx_len h hpn hv _ _ f 0 q0 q1 q2 (by rw [Nat.zero_add]; exact bU_le _))
  have hk : (funcs.map fun f => Part.k f 0).filterMap kOf = funcs := kOf_map funcs
  have hf := wk_fo h h.fo (nodes.length + 1) (Nat.le_succ _)
  rw [Nat.sub_zero, List.map_map, List.length_map] at hf
  have he : funcs.map ((fun (r : Nat) => wk nodes (nodes.length + 1) (r : Int)) ∘ Int.toNat) = funcs.map (wk nodes (nodes.length + 1)) := List.map_congr_left fun f hf => by
    show wk nodes _ ((f.toNat : Nat) : Int) = _
    rw [Int.toNat_of_nonneg (h.nn f hf)]
  rw [he] at hf
  rw [hk, List.length_map] at h1
  exact Nat.le_trans h1 (Nat.mul_le_mul_left _ (by omega))
end Tm
end Go.Proofs.YtllahgnpjodgmaaDoor

set_option linter.unusedVariables false
namespace Go.Proofs.YtllahgnpjodgmaaDoor
open Pm
namespace Tm
/-- A node without its places and its type. -/
def er (n : Nd) : Nd := { n with at_ := 0, where_ := 0, close := 0, type := 0 }
variable {nodes U : List Nd} {funcs : List Int}
theorem getD_er (k : Nat) : (nodes.map er).getD k {} = er (nodes.getD k {}) := by
  rw [List.getD_eq_getElem?_getD, List.getD_eq_getElem?_getD, List.getElem?_map]
  cases nodes[k]? <;> rfl
theorem nodeAt_er (k : Int) : nodeAt (nodes.map er) k = er (nodeAt nodes k) := getD_er _
theorem params_er : ∀ l : List Int, params (nodes.map er) l = params nodes l
  | [] => rfl
  | [k] => by
    show [Part.s (nm (nodeAt (nodes.map er) k) ++ _ ++ typeName (nodeAt (nodes.map er) k).decl)] = _
    rw [nodeAt_er]; rfl
  | k :: x :: l => by
    show Part.s (nm (nodeAt (nodes.map er) k) ++ _ ++ typeName (nodeAt (nodes.map er) k).decl) :: _ :: params (nodes.map er) (x :: l) = _
    rw [params_er (x :: l), nodeAt_er]; rfl
theorem level_er (n : Nd) : level (er n) = level n := rfl
theorem operation_er (n : Nd) : operation (nodes.map er) (er n) = operation nodes n := by
  unfold operation
  simp only [nodeAt_er, level_er]
  rfl
theorem node_er (n : Nd) (t : Nat) : node (nodes.map er) (er n) t = node nodes n t := by
  unfold node function expression
  rw [operation_er]
  show (if n.kind = 1 then Part.s _ :: (params (nodes.map er) n.kids.dropLast ++ _) else _) = _
  rw [params_er]
  rfl
theorem tx_er : ∀ (d : Nat) (k : Int) (t : Nat), tx (nodes.map er) d k t = tx nodes d k t
  | 0, _, _ => rfl
  | d + 1, k, t => by
    show (node (nodes.map er) (nodeAt (nodes.map er) k) t).flatMap (outP (tx (nodes.map er) d)) = _
    rw [nodeAt_er, node_er, show tx (nodes.map er) d = tx nodes d from funext fun k => funext fun t => tx_er d k t]
    rfl
theorem print_er : print (nodes.map er) funcs = print nodes funcs := by
  unfold print text
  rw [List.length_map, show tx (nodes.map er) (nodes.length + 1) = tx nodes (nodes.length + 1) from funext fun k => funext fun t => tx_er _ k t]
theorem places_print (h : U.map er = nodes.map er) : print U funcs = print nodes funcs := by
  rw [← print_er (nodes := U), h, print_er]
theorem er_get (h : U.map er = nodes.map er) (k : Nat) : er (U.getD k {}) = er (nodes.getD k {}) := by rw [← getD_er, h, getD_er]
theorem er_kind (h : U.map er = nodes.map er) (k : Nat) : (U.getD k {}).kind = (nodes.getD k {}).kind := by have := congrArg Nd.kind (er_get h k); exact this
theorem er_kids (h : U.map er = nodes.map er) (k : Nat) : (U.getD k {}).kids = (nodes.getD k {}).kids := by have := congrArg Nd.kids (er_get h k); exact this
theorem er_len (h : U.map er = nodes.map er) : U.length = nodes.length := by have := congrArg List.length h; simpa using this
theorem places_ok (h : U.map er = nodes.map er) (hf : ∀ n ∈ U, fields n = true) (hok : Ok nodes funcs) : Ok U funcs := by
  have hk : kindOf U = kindOf nodes := funext fun k => er_kind h _
  have hks : kidsOf U = kidsOf nodes := funext fun k => by unfold kidsOf; rw [er_kids h]
  refine ⟨fun n hn => ⟨hf n hn, ?_⟩, ?_, ?_, hok.nn, ?_⟩
  · obtain ⟨i, hi, rfl⟩ := List.getElem_of_mem hn
    have hi' : i < nodes.length := by rw [← er_len h]; exact hi
    have h1 := er_kind h i
    have h2 := er_kids h i
    rw [getD_get hi, getD_get hi'] at h1 h2
    rw [h1, h2, hk]
    exact (hok.each _ (List.getElem_mem hi')).2
  · intro i n hn
    have hi := (List.getElem?_eq_some_iff.1 hn)
    have h2 := er_kids h i
    rw [getD_get hi.1, hi.2] at h2
    rw [h2]
    exact hok.low' i
  · rw [hks, er_len h]; exact hok.fo
  · rw [hk]; exact hok.funcs
theorem places_check (h : U.map er = nodes.map er) (hf : ∀ n ∈ U, fields n = true) (hc : check nodes funcs = true) : check U funcs = true :=
  check_iff.2 (places_ok h hf (check_iff.1 hc))
theorem kids_kind {k : Int} {l : List Int} (h : kidsOk k l = true) : k ≤ 31 := by
  by_cases h1 : k ≤ 31
  · exact h1
  · exfalso
    unfold kidsOk at h
    rw [if_neg (by omega), if_neg (by omega), if_neg (by omega), if_neg (by omega), if_neg (by omega), if_neg (by omega), if_neg (by omega), if_neg (by omega), if_neg (by omega), if_neg (by omega)] at h
    cases h
/-- One place: the node as it is then. -/
def put1 (a wh cl ty : Int) (n : Nd) : Nd :=
  { n with at_ := a, where_ := if n.name.size ≠ 0 ∨ n.kind = 31 then wh else n.where_, close := if n.kind = 1 then cl else n.close, type := if 20 ≤ n.kind then ty else n.type }
theorem er_put1 (a wh cl ty : Int) (n : Nd) : er (put1 a wh cl ty n) = er n := rfl
theorem fields_put1 {a wh cl ty : Int} {n : Nd} (h : fields n = true) (hk : n.kind ≤ 31) (h0 : 0 ≤ ty) (h3 : ty ≤ 3) : fields (put1 a wh cl ty n) = true := by
  unfold fields at h ⊢
  simp only [Bool.and_eq_true] at h
  obtain ⟨⟨⟨⟨⟨⟨h1, h2⟩, h4⟩, h5⟩, h6⟩, h7⟩, h8⟩ := h
  simp only [Bool.and_eq_true]
  refine ⟨⟨⟨⟨⟨⟨?_, h2⟩, h4⟩, h5⟩, h6⟩, ?_⟩, ?_⟩
  · show ((if n.name.size ≠ 0 ∨ n.kind = 31 then wh else n.where_) == 0 || named n.kind || n.kind == 31) = true
    by_cases hc : n.name.size ≠ 0 ∨ n.kind = 31
    · rw [if_pos hc]
      rcases hc with hc | hc
      · cases hnm : named n.kind with
        | true => simp
        | false =>
          rw [hnm, if_neg (by decide)] at h2
          exfalso
          apply hc
          show n.name.data.size = 0
          rw [← Array.length_toList]
          rw [List.isEmpty_iff.1 h2]; rfl
      · simp [hc]
    · rw [if_neg hc]; exact h1
  · show ((if 20 ≤ n.kind then ty else n.type) == 0 || (isE n.kind && decide (0 < (if 20 ≤ n.kind then ty else n.type)) && decide ((if 20 ≤ n.kind then ty else n.type) ≤ 3))) = true
    by_cases hc : 20 ≤ n.kind
    · rw [if_pos hc]
      have : isE n.kind = true := by unfold isE; simp [hc, hk]
      rw [this]
      by_cases ht : ty = 0
      · simp [ht]
      · have : 0 < ty := by omega
        simp [this, h3]
    · rw [if_neg hc]; exact h7
  · show ((if n.kind = 1 then cl else n.close) == 0 || n.kind == 1) = true
    by_cases hc : n.kind = 1
    · simp [hc]
    · rw [if_neg hc]; exact h8
theorem set_er {V : List Nd} {i : Nat} {n m : Nd} (h : V[i]? = some n) (he : er m = er n) : (V.set i m).map er = V.map er := by
  rw [List.map_set, he]
  refine List.ext_getElem? fun j => ?_
  rw [List.getElem?_set]
  split
  · rename_i hij
    subst hij
    rw [List.getElem?_map, h]
    have := (List.getElem?_eq_some_iff.1 h).1
    rw [if_pos (by rw [List.length_map]; exact this)]; rfl
  · rfl
end Tm
end Go.Proofs.YtllahgnpjodgmaaDoor
