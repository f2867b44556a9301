/- One rule, whichever: what its call does. -/
import Derived.Test.YthodjlhjfaccpaaPs
set_option linter.unusedVariables false
namespace Go.Proofs.Ythodjlhjfaccpaa
open Go Go.RowKit Mem Pm

namespace Pm
/-- What the node begun last wants. -/
def HasTop (s : PS) : Prop := ∃ n f r, s.begun = (n, f) :: r ∧ f ≤ s.loose.length
/-- What each rule wants of the state. -/
def Pre (s : PS) : Sym → Prop
  | .function | .program => True
  | .functionEnd => HasTop s ∧ 1 ≤ s.at_
  | .done | .statements => HasTop s
  | .otherwise => s.nest ≠ [] ∧ HasTop s
  | .either | .andMore | .compare | .sumMore | .productMore => HasLeft s
  | .index => s.nest ≠ [] ∧ HasLeft s
  | _ => s.nest ≠ []
end Pm

section
variable {bd : Nat} {L : List Nat} {gp b : Nat} {s s' : PS} {w w' : World}
theorem of_M {r : M PS} {e : Ending} (h : PostM bd L gp w L b w r e w') : Post0 bd L gp w r e w' := by
  rcases h with ⟨f, rfl, rfl, hk⟩ | ⟨s', rfl, rfl, hk, hS⟩
  · exact post0_err hk rfl
  · exact post0_ok hk rfl hS.p
theorem of_S {e : Ending} (h : PostS bd L gp w L b w (.tuple #[]) s' e w') : Post0 bd L gp w (.ok s') e w' := of_M (.ok h rfl)
theorem of_T {k : Int} {r : M PS} {e : Ending} (h : PostT bd L gp w L b s k w s' e w') (h1 : s.kind ≠ k → r = .error s.fault) (h2 : s.kind = k → r = .ok s') : Post0 bd L gp w r e w' := by
  rcases h with ⟨hm, rfl, hk⟩ | ⟨hm, hS⟩
  · rw [h1 hm]; exact post0_err hk rfl
  · rw [h2 hm]; exact of_S hS

set_option maxRecDepth 100000 in
set_option maxHeartbeats 2000000 in
theorem either_s {Li : List Nat} {w0 : World} (h : St bd L gp w0 Li b s w) (hb : b ≤ 999980000) (hl : HasLeft s) : Calls Try.prog 78 #[.pointer (some ⟨gp, 0, none⟩)] w (PostM bd L gp w0 Li (b + 60) w (.ok (s.joined 1 .both .either))) := by
  have S0 := Lib.hid (St.start h.p h.li h.sz)
  have H := Lib.hid h
  have Hl := Lib.hid hl
  clear h hl
  go_enter Try.func78, Try.ntmps78
  go_wp2_with fail
  refine (joined_s S0.out (by omega) 1 .both .either (by decide) (fun _ => Hl.out)).mono ?_
  rintro e w1 (⟨f, hm, rfl, hk⟩ | ⟨s', hm, rfl, hk, hS⟩)
  · cases hm
  have S1 := Lib.hid hS
  have M1 := Lib.hid hm
  clear hm hk hS
  go_wp2_with fail
  go_end0
  exact .ok (H.out.out S1.out) M1.out

set_option maxRecDepth 100000 in
set_option maxHeartbeats 2000000 in
theorem andMore_s {Li : List Nat} {w0 : World} (h : St bd L gp w0 Li b s w) (hb : b ≤ 999980000) (hl : HasLeft s) : Calls Try.prog 81 #[.pointer (some ⟨gp, 0, none⟩)] w (PostM bd L gp w0 Li (b + 60) w (.ok (s.joined 2 .compared .andMore))) := by
  have S0 := Lib.hid (St.start h.p h.li h.sz)
  have H := Lib.hid h
  have Hl := Lib.hid hl
  clear h hl
  go_enter Try.func81, Try.ntmps81
  go_wp2_with fail
  refine (joined_s S0.out (by omega) 2 .compared .andMore (by decide) (fun _ => Hl.out)).mono ?_
  rintro e w1 (⟨f, hm, rfl, hk⟩ | ⟨s', hm, rfl, hk, hS⟩)
  · cases hm
  have S1 := Lib.hid hS
  have M1 := Lib.hid hm
  clear hm hk hS
  go_wp2_with fail
  go_end0
  exact .ok (H.out.out S1.out) M1.out

set_option maxRecDepth 100000 in
set_option maxHeartbeats 2000000 in
theorem compare_s {Li : List Nat} {w0 : World} (h : St bd L gp w0 Li b s w) (hb : b ≤ 999980000) (hl : HasLeft s) : Calls Try.prog 84 #[.pointer (some ⟨gp, 0, none⟩)] w (PostM bd L gp w0 Li (b + 60) w (.ok (s.joined 3 .sum .nothing))) := by
  have S0 := Lib.hid (St.start h.p h.li h.sz)
  have H := Lib.hid h
  have Hl := Lib.hid hl
  clear h hl
  go_enter Try.func84, Try.ntmps84
  go_wp2_with fail
  refine (joined_s S0.out (by omega) 3 .sum .nothing (by decide) (fun _ => Hl.out)).mono ?_
  rintro e w1 (⟨f, hm, rfl, hk⟩ | ⟨s', hm, rfl, hk, hS⟩)
  · cases hm
  have S1 := Lib.hid hS
  have M1 := Lib.hid hm
  clear hm hk hS
  go_wp2_with fail
  go_end0
  exact .ok (H.out.out S1.out) M1.out

set_option maxRecDepth 100000 in
set_option maxHeartbeats 2000000 in
theorem sumMore_s {Li : List Nat} {w0 : World} (h : St bd L gp w0 Li b s w) (hb : b ≤ 999980000) (hl : HasLeft s) : Calls Try.prog 88 #[.pointer (some ⟨gp, 0, none⟩)] w (PostM bd L gp w0 Li (b + 60) w (.ok (s.joined 4 .product .sumMore))) := by
  have S0 := Lib.hid (St.start h.p h.li h.sz)
  have H := Lib.hid h
  have Hl := Lib.hid hl
  clear h hl
  go_enter Try.func88, Try.ntmps88
  go_wp2_with fail
  refine (joined_s S0.out (by omega) 4 .product .sumMore (by decide) (fun _ => Hl.out)).mono ?_
  rintro e w1 (⟨f, hm, rfl, hk⟩ | ⟨s', hm, rfl, hk, hS⟩)
  · cases hm
  have S1 := Lib.hid hS
  have M1 := Lib.hid hm
  clear hm hk hS
  go_wp2_with fail
  go_end0
  exact .ok (H.out.out S1.out) M1.out

set_option maxRecDepth 100000 in
set_option maxHeartbeats 2000000 in
theorem productMore_s {Li : List Nat} {w0 : World} (h : St bd L gp w0 Li b s w) (hb : b ≤ 999980000) (hl : HasLeft s) : Calls Try.prog 91 #[.pointer (some ⟨gp, 0, none⟩)] w (PostM bd L gp w0 Li (b + 60) w (.ok (s.joined 5 .signed .productMore))) := by
  have S0 := Lib.hid (St.start h.p h.li h.sz)
  have H := Lib.hid h
  have Hl := Lib.hid hl
  clear h hl
  go_enter Try.func91, Try.ntmps91
  go_wp2_with fail
  refine (joined_s S0.out (by omega) 5 .signed .productMore (by decide) (fun _ => Hl.out)).mono ?_
  rintro e w1 (⟨f, hm, rfl, hk⟩ | ⟨s', hm, rfl, hk, hS⟩)
  · cases hm
  have S1 := Lib.hid hS
  have M1 := Lib.hid hm
  clear hm hk hS
  go_wp2_with fail
  go_end0
  exact .ok (H.out.out S1.out) M1.out

theorem rule_c (h : PInv bd L gp s w) (hL : ∀ k ∈ L, k < w.heap.size) (hs : s.sz + 3 * s.toks.length ≤ 900000000) (x : Sym) (hp : Pre s x) :
    Calls Try.prog (symFn x) #[.pointer (some ⟨gp, 0, none⟩)] w (Post0 bd L gp w (s.rule x)) := by
  have S := St.start h hL (Nat.le_refl s.sz)
  have hb : s.sz ≤ 900000000 := by omega
  have ex : ∀ k, s.kind ≠ k → s.expect k = .error s.fault := fun k hm => by simp only [PS.expect, PS.take, bind, Except.bind, if_neg hm]
  have eo : ∀ k, s.kind = k → s.expect k = .ok s.skip := fun k hm => by simp only [PS.expect, PS.take, bind, Except.bind, if_pos hm]; rfl
  cases x with
  | program => exact (program_s S (by omega)).mono fun _ _ => of_M
  | function => exact (function_s S (by omega) (by omega)).mono fun _ _ => of_M
  | functionEnd => exact (functionEnd_s S (by omega) hp.1 hp.2).mono fun _ _ => of_M
  | block => exact (block_s S (by omega) hp).mono fun _ _ => of_M
  | statements => exact (statements_s S (by omega) hp).mono fun _ _ => of_M
  | statement => exact (statement_s S (by omega) hp).mono fun _ _ => of_M
  | semi => exact (semi_s S (by omega)).mono fun _ _ h => of_T h (ex 47) (eo 47)
  | done => exact (done_s S (by omega) hp).mono fun _ _ => of_S
  | closed => exact (closed_s S (by omega)).mono fun _ _ h => of_T h (fun hm => by simp only [PS.rule, PS.closed, ex 41 hm, bind, Except.bind]) (fun hm => by simp only [PS.rule, PS.closed, eo 41 hm, bind, Except.bind]; rfl)
  | shut => exact (shut_s S (by omega)).mono fun _ _ h => of_T h (fun hm => by simp only [PS.rule, PS.shut, ex 45 hm, bind, Except.bind]) (fun hm => by simp only [PS.rule, PS.shut, eo 45 hm, bind, Except.bind]; rfl)
  | leave => exact (leave_s S (by omega)).mono fun _ _ => of_S
  | set => exact (set_s S (by omega)).mono fun _ _ h => of_T h (ex 48) (eo 48)
  | arguments => exact (arguments_s S (by omega)).mono fun _ _ => of_M
  | moreArguments => exact (moreArguments_s S (by omega)).mono fun _ _ => of_M
  | otherwise => exact (otherwise_s S (by omega) hp.1 hp.2).mono fun _ _ => of_M
  | condition => exact (condition_s S (by omega)).mono fun _ _ => of_M
  | expression => exact (expression_s S (by omega)).mono fun _ _ => of_M
  | both => exact (both_s S (by omega)).mono fun _ _ => of_M
  | compared => exact (compared_s S (by omega)).mono fun _ _ => of_M
  | sum => exact (sum_s S (by omega)).mono fun _ _ => of_M
  | product => exact (product_s S (by omega)).mono fun _ _ => of_M
  | nothing => exact (nothing_s S (by omega)).mono fun _ _ => of_M
  | signed => exact (signed_s S (by omega) hp).mono fun _ _ => of_M
  | plain => exact (plain_s S (by omega) hp).mono fun _ _ => of_M
  | index => exact (index_s S (by omega) hp.1 fun _ => hp.2).mono fun _ _ => of_M
  | either => exact (either_s S (by omega) hp).mono fun _ _ => of_M
  | andMore => exact (andMore_s S (by omega) hp).mono fun _ _ => of_M
  | compare => exact (compare_s S (by omega) hp).mono fun _ _ => of_M
  | sumMore => exact (sumMore_s S (by omega) hp).mono fun _ _ => of_M
  | productMore => exact (productMore_s S (by omega) hp).mono fun _ _ => of_M
end
end Go.Proofs.Ythodjlhjfaccpaa
