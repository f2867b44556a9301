/- tree.kids: all kinds. -/
import Derived.Test.YtllahgnpjodgmaaDoorT5
import Derived.Test.YtllahgnpjodgmaaDoorT6
import Derived.Test.YtllahgnpjodgmaaDoorTk
namespace Go.Proofs.YtllahgnpjodgmaaDoor
open Go Go.RowKit Mem Pm
theorem kids_c (k : Int) (l : List Int) (v : Value) (w : World) (hr : RdS w v l.length (ints l)) (hl : l.length ≤ 9223372036854775807) :
    Calls Tryd.prog 38 #[.int .i64 k, v] w fun e w' => e = .returned (.bool (Tm.kidsOk k l)) ∧ Fr w w' := by
  by_cases h1 : k = 1
  · exact kids_1 k l v w hr hl h1
  by_cases h3 : k = 3
  · exact kids_3 k l v w hr hl h3
  by_cases h4 : k = 4 ∨ k = 12
  · exact kids_4 k l v w hr hl h4
  by_cases h5 : k = 5 ∨ k = 8 ∨ k = 9 ∨ k = 27 ∨ k = 28 ∨ k = 30
  · exact kids_5 k l v w hr hl h5
  by_cases h6 : k = 6 ∨ k = 29 ∨ k = 31
  · exact kids_6 k l v w hr hl h6
  by_cases h7 : k = 7
  · exact kids_7 k l v w hr hl h7
  by_cases h10 : k = 10
  · exact kids_10 k l v w hr hl h10
  by_cases h11 : k = 11
  · exact kids_11 k l v w hr hl h11
  by_cases h25 : k = 25
  · exact kids_25 k l v w hr hl h25
  by_cases h2 : k = 2 ∨ k = 13 ∨ k = 14 ∨ k = 20 ∨ k = 21 ∨ k = 22 ∨ k = 23 ∨ k = 24 ∨ k = 26
  · exact kids_2 k l v w hr hl h2
  exact kids_no k l v w hr hl (by omega)
end Go.Proofs.YtllahgnpjodgmaaDoor
