/- The state of quernref4 in memory; its method want. -/
import Derived.Test.YthodjlhjfaccpaaHs
import Derived.Test.YthodjlhjfaccpaaRf
import Derived.Test.YthodjlhjfaccpaaRn
set_option linter.unusedVariables false
namespace Go.Proofs.Ythodjlhjfaccpaa
open Go Go.RowKit Mem Pm Rf

def kidRows (l : List (Nd × Value)) : List Res := l.map fun x => .row 3 1 x.2 x.1.kids.length (ints x.1.kids)
/-- What the reading's state holds. -/
def RSt (gs : Nat) (s : RS) (nd fu ne wa ma wt : Value) (kvs : List Value) : List Res :=
  .blk gs 68 [nd, fu, ne, wa, ma, wt, .int .i64 s.decl, .int .i64 s.deep, .int .i64 s.last.kind, .int .i64 s.last.at_, .int .i64 s.last.value, .string s.last.name] ::
    .row 42 10 nd s.nodes.length (ndsC (s.nodes.zip kvs)) :: .row 3 1 fu s.funcs.length (ints s.funcs) :: .row 3 1 ne s.nest.length (ints s.nest) :: .row 3 1 wa s.want.length (ints s.want.reverse) ::
    .row 85 11 ma s.marks.length (begsC s.marks) :: .row 3 1 wt s.wait.length (ints s.wait) :: kidRows (s.nodes.zip kvs)
def RI (A : Nat → Prop) (w0 w : World) (gs : Nat) (s : RS) (rest : List Res) : Prop := ∃ nd fu ne wa ma wt kvs, kvs.length = s.nodes.length ∧ Hs A w0 w (RSt gs s nd fu ne wa ma wt kvs ++ rest)

section
variable {A : Nat → Prop} {w0 w : World} {gs : Nat} {s : RS} {rest : List Res}
set_option maxRecDepth 100000 in
set_option maxHeartbeats 4000000 in
theorem want_c {a : Option Addr} {cap : Nat} {l : List Int} (h : RI A w0 w gs s (.row 3 1 (.slice a l.length cap) l.length (ints l) :: rest)) (hl : l.length ≤ 100) (hs : s.sz ≤ 999999000) :
    Calls Try.prog 23 #[.pointer (some ⟨gs, 0, none⟩), .slice a l.length cap] w fun e w' => e = .returned (.tuple #[]) ∧ RI A w0 w' gs { s with want := l ++ s.want } (.row 3 1 (.slice a l.length cap) l.length (ints l) :: rest) := by
  obtain ⟨nd, fu, ne, wa, ma, wt, kvs, hkv, h⟩ := h
  have hsl : s.want.length ≤ 999999000 := by unfold RS.sz at hs; omega
  have H := Lib.hid h.front
  have Hkv := Lib.hid hkv
  clear h hs hkv
  go_enter Try.func23, Try.ntmps23
  go_wp2_with fail
  go_loopg [4] l.length (fun m i wr => ∃ k : Nat, k = m ∧ k ≤ l.length ∧ i = .int .i64 ((k : Int) - 1) ∧ ∃ wa', Hs A w0 wr (.row 3 1 (.slice a l.length cap) l.length (ints l) :: (RSt gs { s with want := l.drop k ++ s.want } nd fu ne wa' ma wt kvs ++ rest)))
  case atStart => exact ⟨l.length, rfl, Nat.le_refl _, rfl, wa, by rw [List.drop_length]; exact H.out⟩
  case round =>
    obtain ⟨k, rfl, hkl, rfl, wa', hh⟩ := hrel
    cases k with
    | zero =>
      have Hh := Lib.hid hh
      clear hh
      go_wp2_with fail
      go_end0
      exact ⟨rfl, nd, fu, ne, wa', ma, wt, kvs, Hkv.out, Hh.out.mid⟩
    | succ k =>
      have hx : (ints l)[k]? = some (.int .i64 l[k]) := ints_get (List.getElem?_eq_getElem (by omega))
      obtain ⟨g, hg, hlc⟩ := hh.rdRow 0 rfl (by intro h0; rw [h0] at hx; cases hx)
      have hc := hlc k _ hx
      subst hg
      obtain ⟨a1, cp1, rfl, _, _⟩ := hh.form 5 rfl
      have c2 := hh.cell 1 rfl 3 rfl
      have z2 := hh.froz 1 rfl 3
      have hsl2 : (l.drop (k + 1) ++ s.want).length ≤ 1000000000 := by rw [List.length_append, List.length_drop]; omega
      have Hx := Lib.hid (show l.drop k ++ s.want = l[k] :: (l.drop (k + 1) ++ s.want) by rw [List.drop_eq_getElem_cons (by omega)]; rfl)
      have hgs := (hh.nin (i := 1) rfl rfl).1
      have Hh := Lib.hid hh
      have hkk : ((k + 1 : Nat) : Int) - 1 = (k : Int) := by omega
      have hk1 : (k : Int) < (l.length : Int) := by omega
      have hk0 : (0 : Int) ≤ (k : Int) := by omega
      obtain ⟨i0, hi0, hz0, hz1, hz2⟩ := info_parts infoInt
      rw [hkk]
      generalize l[k] = x at hc Hx
      generalize hwl : (l.drop (k + 1) ++ s.want) = wl at Hx hsl2 c2 Hh
      clear hh hlc hx
      go_wp2_with fail
      refine Reg.wp_region_text (by kernel_rfl) (by kernel_rfl) ?_
      have Hh1 := Lib.hid (Hh.out.drew.alloc [.int .i64 x] 3)
      go_wp2_with (at_builtin; go_must (refine Hs.push rfl _ _ 33 rfl 3 i0 _ 1 8 (by kernel_rfl) hi0 hz0 hz1 hz2 rfl (Nat.succ_pos _) (Nat.le_of_ble_eq_true rfl) 6 _ _ _ rfl 0 _ _ rfl rfl rfl rfl rfl hsl2 Hh1.out ?_))
      intro v1 w1 hh2
      obtain ⟨a2, cp2, rfl, _, _⟩ := hh2.form 6 rfl
      have c3 := hh2.cell 2 rfl 3 rfl
      have z3 := hh2.froz 2 rfl 3
      have Hh2 := Lib.hid hh2
      clear hh2 c2 z2
      go_wp2_with fail
      refine ⟨by kernel_rfl, ?_⟩
      go_wp2_with fail
      go_roundg k
      case measure => omega
      case rel =>
        refine ⟨k, rfl, by omega, rfl, .slice a2 (wl.length + 1) cp2, ?_⟩
        have h3 := (Hh2.out.set_ 2 rfl 3 (.slice a2 (wl.length + 1) cp2)).tail
        rw [Hx.out]
        have e : ints (wl.reverse) ++ [Value.int .i64 x] = ints ((x :: wl).reverse) := by simp [ints]
        rw [e] at h3
        exact h3
end
end Go.Proofs.Ythodjlhjfaccpaa
