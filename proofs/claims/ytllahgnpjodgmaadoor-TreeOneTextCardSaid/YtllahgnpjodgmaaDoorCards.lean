/-
  DERIVED. GIVEN WITH THE SEED: THE CARDS: each row of YtllahgnpjodgmaaDoorRows.lean that lists a variable, with what it lists TIED to the program's text (the seventh form; the later family's looks); each row that meets fmt, with fmt's text TOLD by the authors' own Lean function (tested against real Go, not proved from fmt's source: count such statements apart). THE CARD IS WHAT COUNTS. Prove the row's statement (the work); the ties are given (YtllahgnpjodgmaaDoorTie.lean); close each card by the builder's one call (the guide's Derived/Test/ToyasCard.lean, 'card_holds'). Laid BY PROGRAM, IN A SANDBOX (cutbox-door.mjs). By AI agents, Wed Nov 11 2026. No macro, syntax, notation, axiom, sorry.
-/
import Derived.Test.YtllahgnpjodgmaaDoorRows
import GoSem.ClaimSeven
namespace Go.Proofs.YtllahgnpjodgmaaDoor
namespace Rows

/-- THE TIED CARD OF 'quernlaw3.TreeCheck'. -/
def treeCheckCard : Claim7 := { stood := { row := treeCheckRow, standIns := [], harness := (true, "e11ed22026333eae6a0c57171708051c6ad8536a9d9f00021398f801419d9ed8"), looks := false }, kinds := [], alts := [], laidByText := true, laidKinds := [.data, .data, .data], laidTests := true, laidLooks := .later }
def TreeCheckCardSaid : Prop := Claim7.holds Tryd.pinned (.plain (OpenSpec.ofChange treeCheckSpec)) treeCheckCard

/-- THE TIED CARD OF 'quernlaw3.TreePrint'. -/
def treePrintCard : Claim7 := { stood := { row := treePrintRow, standIns := [], harness := (true, "e11ed22026333eae6a0c57171708051c6ad8536a9d9f00021398f801419d9ed8"), looks := false }, kinds := [], alts := [], laidByText := true, laidKinds := [.data, .data, .data], laidTests := true, laidLooks := .later }
def TreePrintCardSaid : Prop := Claim7.holds Tryd.pinned (.plain (OpenSpec.ofChange treePrintSpec)) treePrintCard

/-- THE TIED CARD OF 'quernlaw3.TreeAll'. -/
def treeAllCard : Claim7 := { stood := { row := treeAllRow, standIns := [], harness := (true, "e11ed22026333eae6a0c57171708051c6ad8536a9d9f00021398f801419d9ed8"), looks := false }, kinds := [], alts := [], laidByText := true, laidKinds := [.data, .data, .data], laidTests := true, laidLooks := .later }
def TreeAllCardSaid : Prop := Claim7.holds Tryd.pinned (.plain (OpenSpec.ofChange treeAllSpec)) treeAllCard

/-- THE TIED CARD OF 'quernlaw3.TreePlaces'. -/
def treePlacesCard : Claim7 := { stood := { row := treePlacesRow, standIns := [], harness := (true, "e11ed22026333eae6a0c57171708051c6ad8536a9d9f00021398f801419d9ed8"), looks := false }, kinds := [], alts := [], laidByText := true, laidKinds := [.data, .data, .data], laidTests := true, laidLooks := .later }
def TreePlacesCardSaid : Prop := Claim7.holds Tryd.pinned (.plain (OpenSpec.ofChange treePlacesSpec)) treePlacesCard

/-- THE TIED CARD OF 'quernlaw3.TreeOneText'. -/
def treeOneTextCard : Claim7 := { stood := { row := treeOneTextRow, standIns := [], harness := (true, "e11ed22026333eae6a0c57171708051c6ad8536a9d9f00021398f801419d9ed8"), looks := false }, kinds := [], alts := [], laidByText := true, laidKinds := [.data, .data, .data], laidTests := true, laidLooks := .later }
def TreeOneTextCardSaid : Prop := Claim7.holds Tryd.pinned (.plain (OpenSpec.ofChange treeOneTextSpec)) treeOneTextCard

/-- THE TIED CARD OF 'quernlaw3.TreeOrder'. -/
def treeOrderCard : Claim7 := { stood := { row := treeOrderRow, standIns := [], harness := (true, "e11ed22026333eae6a0c57171708051c6ad8536a9d9f00021398f801419d9ed8"), looks := false }, kinds := [], alts := [], laidByText := true, laidKinds := [.data, .data, .data], laidTests := true, laidLooks := .later }
def TreeOrderCardSaid : Prop := Claim7.holds Tryd.pinned (.plain (OpenSpec.ofChange treeOrderSpec)) treeOrderCard

/-- THE TIED CARD OF 'quernlaw3.TreeKids'. -/
def treeKidsCard : Claim7 := { stood := { row := treeKidsRow, standIns := [], harness := (true, "e11ed22026333eae6a0c57171708051c6ad8536a9d9f00021398f801419d9ed8"), looks := false }, kinds := [], alts := [], laidByText := true, laidKinds := [.data, .data, .data], laidTests := true, laidLooks := .later }
def TreeKidsCardSaid : Prop := Claim7.holds Tryd.pinned (.plain (OpenSpec.ofChange treeKidsSpec)) treeKidsCard

/-- THE TIED CARD OF 'quernlaw3.TreeDeep'. -/
def treeDeepCard : Claim7 := { stood := { row := treeDeepRow, standIns := [], harness := (true, "e11ed22026333eae6a0c57171708051c6ad8536a9d9f00021398f801419d9ed8"), looks := false }, kinds := [], alts := [], laidByText := true, laidKinds := [.data, .data, .data], laidTests := true, laidLooks := .later }
def TreeDeepCardSaid : Prop := Claim7.holds Tryd.pinned (.plain (OpenSpec.ofChange treeDeepSpec)) treeDeepCard

/-- THE SECOND FORM's CARD OF 'quernlaw3.TreeCheck'. -/
def treeCheckUptoCard : Claim7 := { stood := { row := treeCheckUptoRow, standIns := [], harness := (true, "e11ed22026333eae6a0c57171708051c6ad8536a9d9f00021398f801419d9ed8"), looks := false }, kinds := [], alts := [], laidByText := true, laidKinds := [.data, .data, .data], laidTests := true, laidLooks := .later }
def TreeCheckUptoCardSaid : Prop := Claim7.holds Tryd.pinned (.plain (OpenSpec.upto treeCheckSpec)) treeCheckUptoCard

/-- THE SECOND FORM's CARD OF 'quernlaw3.TreePrint'. -/
def treePrintUptoCard : Claim7 := { stood := { row := treePrintUptoRow, standIns := [], harness := (true, "e11ed22026333eae6a0c57171708051c6ad8536a9d9f00021398f801419d9ed8"), looks := false }, kinds := [], alts := [], laidByText := true, laidKinds := [.data, .data, .data], laidTests := true, laidLooks := .later }
def TreePrintUptoCardSaid : Prop := Claim7.holds Tryd.pinned (.plain (OpenSpec.upto treePrintSpec)) treePrintUptoCard

/-- THE SECOND FORM's CARD OF 'quernlaw3.TreeAll'. -/
def treeAllUptoCard : Claim7 := { stood := { row := treeAllUptoRow, standIns := [], harness := (true, "e11ed22026333eae6a0c57171708051c6ad8536a9d9f00021398f801419d9ed8"), looks := false }, kinds := [], alts := [], laidByText := true, laidKinds := [.data, .data, .data], laidTests := true, laidLooks := .later }
def TreeAllUptoCardSaid : Prop := Claim7.holds Tryd.pinned (.plain (OpenSpec.upto treeAllSpec)) treeAllUptoCard

/-- THE SECOND FORM's CARD OF 'quernlaw3.TreePlaces'. -/
def treePlacesUptoCard : Claim7 := { stood := { row := treePlacesUptoRow, standIns := [], harness := (true, "e11ed22026333eae6a0c57171708051c6ad8536a9d9f00021398f801419d9ed8"), looks := false }, kinds := [], alts := [], laidByText := true, laidKinds := [.data, .data, .data], laidTests := true, laidLooks := .later }
def TreePlacesUptoCardSaid : Prop := Claim7.holds Tryd.pinned (.plain (OpenSpec.upto treePlacesSpec)) treePlacesUptoCard

/-- THE SECOND FORM's CARD OF 'quernlaw3.TreeOneText'. -/
def treeOneTextUptoCard : Claim7 := { stood := { row := treeOneTextUptoRow, standIns := [], harness := (true, "e11ed22026333eae6a0c57171708051c6ad8536a9d9f00021398f801419d9ed8"), looks := false }, kinds := [], alts := [], laidByText := true, laidKinds := [.data, .data, .data], laidTests := true, laidLooks := .later }
def TreeOneTextUptoCardSaid : Prop := Claim7.holds Tryd.pinned (.plain (OpenSpec.upto treeOneTextSpec)) treeOneTextUptoCard

/-- THE SECOND FORM's CARD OF 'quernlaw3.TreeOrder'. -/
def treeOrderUptoCard : Claim7 := { stood := { row := treeOrderUptoRow, standIns := [], harness := (true, "e11ed22026333eae6a0c57171708051c6ad8536a9d9f00021398f801419d9ed8"), looks := false }, kinds := [], alts := [], laidByText := true, laidKinds := [.data, .data, .data], laidTests := true, laidLooks := .later }
def TreeOrderUptoCardSaid : Prop := Claim7.holds Tryd.pinned (.plain (OpenSpec.upto treeOrderSpec)) treeOrderUptoCard

/-- THE SECOND FORM's CARD OF 'quernlaw3.TreeKids'. -/
def treeKidsUptoCard : Claim7 := { stood := { row := treeKidsUptoRow, standIns := [], harness := (true, "e11ed22026333eae6a0c57171708051c6ad8536a9d9f00021398f801419d9ed8"), looks := false }, kinds := [], alts := [], laidByText := true, laidKinds := [.data, .data, .data], laidTests := true, laidLooks := .later }
def TreeKidsUptoCardSaid : Prop := Claim7.holds Tryd.pinned (.plain (OpenSpec.upto treeKidsSpec)) treeKidsUptoCard

/-- THE SECOND FORM's CARD OF 'quernlaw3.TreeDeep'. -/
def treeDeepUptoCard : Claim7 := { stood := { row := treeDeepUptoRow, standIns := [], harness := (true, "e11ed22026333eae6a0c57171708051c6ad8536a9d9f00021398f801419d9ed8"), looks := false }, kinds := [], alts := [], laidByText := true, laidKinds := [.data, .data, .data], laidTests := true, laidLooks := .later }
def TreeDeepUptoCardSaid : Prop := Claim7.holds Tryd.pinned (.plain (OpenSpec.upto treeDeepSpec)) treeDeepUptoCard
end Rows
end Go.Proofs.YtllahgnpjodgmaaDoor
