/- A run of the plain machine: steps till nothing is left to be read. No program here. -/
import Derived.Test.YthodjlhjfaccpaaPz
set_option linter.unusedVariables false
namespace Go.Proofs.Ythodjlhjfaccpaa
open Go
namespace Pm

/-- A run, so many steps at most. -/
def run : Nat → PS → M PS
  | 0, s => .ok s
  | n + 1, s => match s.todo with
    | [] => .ok s
    | x :: r => (({ s with todo := r } : PS).rule x).bind (run n)
/-- The state at the beginning. -/
def start (toks : List Tok) (en : Int) : PS := ⟨toks, en, 0, [.program], [], [], [], [], 0, []⟩
theorem start_inv (toks : List Tok) (en : Int) : Inv (start toks en) := ⟨by intro m; trivial, .inr rfl, fun h => absurd rfl h, Nat.zero_le _, fun i hi => by cases hi⟩
/-- What the text's tokens come to. -/
def parse (toks : List Tok) (en : Int) : M PS := run (mu (start toks en)) (start toks en)
end Pm
end Go.Proofs.Ythodjlhjfaccpaa
