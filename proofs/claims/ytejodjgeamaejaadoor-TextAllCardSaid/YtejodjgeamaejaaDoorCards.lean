/-
  DERIVED. GIVEN WITH THE SEED: THE CARDS: each row of YtejodjgeamaejaaDoorRows.lean that lists a variable, with what it lists TIED to the program's text (the seventh form; the later family's looks); each row that meets fmt, with fmt's text TOLD by the authors' own Lean function (tested against real Go, not proved from fmt's source: count such statements apart). THE CARD IS WHAT COUNTS. Prove the row's statement (the work); the ties are given (YtejodjgeamaejaaDoorTie.lean); close each card by the builder's one call (the guide's Derived/Test/ToyasCard.lean, 'card_holds'). Laid BY PROGRAM, IN A SANDBOX (cutbox-door.mjs). By AI agents, Wed Nov 11 2026. No macro, syntax, notation, axiom, sorry.
-/
import Derived.Test.YtejodjgeamaejaaDoorRows
import GoSem.ClaimSeven
namespace Go.Proofs.YtejodjgeamaejaaDoor
namespace Rows

/-- THE TIED CARD OF 'pillarboxlaw1.TextNumbers'. -/
def textNumbersCard : Claim7 := { stood := { row := textNumbersRow, standIns := [], harness := (true, "d53989d0cc7606da18b77807ca887b13f4febffe88f07818dddbd2c92ba6a26e"), looks := false }, kinds := [], alts := [], laidByText := true, laidKinds := [.data, .data, .data], laidTests := true, laidLooks := .later }
def TextNumbersCardSaid : Prop := Claim7.holds Tryd.pinned (.plain (OpenSpec.ofChange textNumbersSpec)) textNumbersCard

/-- THE TIED CARD OF 'pillarboxlaw1.TextStrings'. -/
def textStringsCard : Claim7 := { stood := { row := textStringsRow, standIns := [], harness := (true, "d53989d0cc7606da18b77807ca887b13f4febffe88f07818dddbd2c92ba6a26e"), looks := false }, kinds := [], alts := [], laidByText := true, laidKinds := [.data, .data, .data], laidTests := true, laidLooks := .later }
def TextStringsCardSaid : Prop := Claim7.holds Tryd.pinned (.plain (OpenSpec.ofChange textStringsSpec)) textStringsCard

/-- THE TIED CARD OF 'pillarboxlaw1.TextFolds'. -/
def textFoldsCard : Claim7 := { stood := { row := textFoldsRow, standIns := [], harness := (true, "d53989d0cc7606da18b77807ca887b13f4febffe88f07818dddbd2c92ba6a26e"), looks := false }, kinds := [], alts := [], laidByText := true, laidKinds := [.data, .data, .data], laidTests := true, laidLooks := .later }
def TextFoldsCardSaid : Prop := Claim7.holds Tryd.pinned (.plain (OpenSpec.ofChange textFoldsSpec)) textFoldsCard

/-- THE TIED CARD OF 'pillarboxlaw1.TextLong'. -/
def textLongCard : Claim7 := { stood := { row := textLongRow, standIns := [], harness := (true, "d53989d0cc7606da18b77807ca887b13f4febffe88f07818dddbd2c92ba6a26e"), looks := false }, kinds := [], alts := [], laidByText := true, laidKinds := [.data, .data, .data], laidTests := true, laidLooks := .later }
def TextLongCardSaid : Prop := Claim7.holds Tryd.pinned (.plain (OpenSpec.ofChange textLongSpec)) textLongCard

/-- THE TIED CARD OF 'pillarboxlaw1.TextDigits'. -/
def textDigitsCard : Claim7 := { stood := { row := textDigitsRow, standIns := [], harness := (true, "d53989d0cc7606da18b77807ca887b13f4febffe88f07818dddbd2c92ba6a26e"), looks := false }, kinds := [], alts := [], laidByText := true, laidKinds := [.data, .data, .data], laidTests := true, laidLooks := .later }
def TextDigitsCardSaid : Prop := Claim7.holds Tryd.pinned (.plain (OpenSpec.ofChange textDigitsSpec)) textDigitsCard

/-- THE TIED CARD OF 'pillarboxlaw1.TextAtoms'. -/
def textAtomsCard : Claim7 := { stood := { row := textAtomsRow, standIns := [], harness := (true, "d53989d0cc7606da18b77807ca887b13f4febffe88f07818dddbd2c92ba6a26e"), looks := false }, kinds := [], alts := [], laidByText := true, laidKinds := [.data, .data, .data], laidTests := true, laidLooks := .later }
def TextAtomsCardSaid : Prop := Claim7.holds Tryd.pinned (.plain (OpenSpec.ofChange textAtomsSpec)) textAtomsCard

/-- THE TIED CARD OF 'pillarboxlaw1.TextWithin'. -/
def textWithinCard : Claim7 := { stood := { row := textWithinRow, standIns := [], harness := (true, "d53989d0cc7606da18b77807ca887b13f4febffe88f07818dddbd2c92ba6a26e"), looks := false }, kinds := [], alts := [], laidByText := true, laidKinds := [.data, .data, .data], laidTests := true, laidLooks := .later }
def TextWithinCardSaid : Prop := Claim7.holds Tryd.pinned (.plain (OpenSpec.ofChange textWithinSpec)) textWithinCard

/-- THE TIED CARD OF 'pillarboxlaw1.TextAll'. -/
def textAllCard : Claim7 := { stood := { row := textAllRow, standIns := [], harness := (true, "d53989d0cc7606da18b77807ca887b13f4febffe88f07818dddbd2c92ba6a26e"), looks := false }, kinds := [], alts := [], laidByText := true, laidKinds := [.data, .data, .data], laidTests := true, laidLooks := .later }
def TextAllCardSaid : Prop := Claim7.holds Tryd.pinned (.plain (OpenSpec.ofChange textAllSpec)) textAllCard

/-- THE SECOND FORM's CARD OF 'pillarboxlaw1.TextNumbers'. -/
def textNumbersUptoCard : Claim7 := { stood := { row := textNumbersUptoRow, standIns := [], harness := (true, "d53989d0cc7606da18b77807ca887b13f4febffe88f07818dddbd2c92ba6a26e"), looks := false }, kinds := [], alts := [], laidByText := true, laidKinds := [.data, .data, .data], laidTests := true, laidLooks := .later }
def TextNumbersUptoCardSaid : Prop := Claim7.holds Tryd.pinned (.plain (OpenSpec.upto textNumbersSpec)) textNumbersUptoCard

/-- THE SECOND FORM's CARD OF 'pillarboxlaw1.TextStrings'. -/
def textStringsUptoCard : Claim7 := { stood := { row := textStringsUptoRow, standIns := [], harness := (true, "d53989d0cc7606da18b77807ca887b13f4febffe88f07818dddbd2c92ba6a26e"), looks := false }, kinds := [], alts := [], laidByText := true, laidKinds := [.data, .data, .data], laidTests := true, laidLooks := .later }
def TextStringsUptoCardSaid : Prop := Claim7.holds Tryd.pinned (.plain (OpenSpec.upto textStringsSpec)) textStringsUptoCard

/-- THE SECOND FORM's CARD OF 'pillarboxlaw1.TextFolds'. -/
def textFoldsUptoCard : Claim7 := { stood := { row := textFoldsUptoRow, standIns := [], harness := (true, "d53989d0cc7606da18b77807ca887b13f4febffe88f07818dddbd2c92ba6a26e"), looks := false }, kinds := [], alts := [], laidByText := true, laidKinds := [.data, .data, .data], laidTests := true, laidLooks := .later }
def TextFoldsUptoCardSaid : Prop := Claim7.holds Tryd.pinned (.plain (OpenSpec.upto textFoldsSpec)) textFoldsUptoCard

/-- THE SECOND FORM's CARD OF 'pillarboxlaw1.TextLong'. -/
def textLongUptoCard : Claim7 := { stood := { row := textLongUptoRow, standIns := [], harness := (true, "d53989d0cc7606da18b77807ca887b13f4febffe88f07818dddbd2c92ba6a26e"), looks := false }, kinds := [], alts := [], laidByText := true, laidKinds := [.data, .data, .data], laidTests := true, laidLooks := .later }
def TextLongUptoCardSaid : Prop := Claim7.holds Tryd.pinned (.plain (OpenSpec.upto textLongSpec)) textLongUptoCard

/-- THE SECOND FORM's CARD OF 'pillarboxlaw1.TextDigits'. -/
def textDigitsUptoCard : Claim7 := { stood := { row := textDigitsUptoRow, standIns := [], harness := (true, "d53989d0cc7606da18b77807ca887b13f4febffe88f07818dddbd2c92ba6a26e"), looks := false }, kinds := [], alts := [], laidByText := true, laidKinds := [.data, .data, .data], laidTests := true, laidLooks := .later }
def TextDigitsUptoCardSaid : Prop := Claim7.holds Tryd.pinned (.plain (OpenSpec.upto textDigitsSpec)) textDigitsUptoCard

/-- THE SECOND FORM's CARD OF 'pillarboxlaw1.TextAtoms'. -/
def textAtomsUptoCard : Claim7 := { stood := { row := textAtomsUptoRow, standIns := [], harness := (true, "d53989d0cc7606da18b77807ca887b13f4febffe88f07818dddbd2c92ba6a26e"), looks := false }, kinds := [], alts := [], laidByText := true, laidKinds := [.data, .data, .data], laidTests := true, laidLooks := .later }
def TextAtomsUptoCardSaid : Prop := Claim7.holds Tryd.pinned (.plain (OpenSpec.upto textAtomsSpec)) textAtomsUptoCard

/-- THE SECOND FORM's CARD OF 'pillarboxlaw1.TextWithin'. -/
def textWithinUptoCard : Claim7 := { stood := { row := textWithinUptoRow, standIns := [], harness := (true, "d53989d0cc7606da18b77807ca887b13f4febffe88f07818dddbd2c92ba6a26e"), looks := false }, kinds := [], alts := [], laidByText := true, laidKinds := [.data, .data, .data], laidTests := true, laidLooks := .later }
def TextWithinUptoCardSaid : Prop := Claim7.holds Tryd.pinned (.plain (OpenSpec.upto textWithinSpec)) textWithinUptoCard

/-- THE SECOND FORM's CARD OF 'pillarboxlaw1.TextAll'. -/
def textAllUptoCard : Claim7 := { stood := { row := textAllUptoRow, standIns := [], harness := (true, "d53989d0cc7606da18b77807ca887b13f4febffe88f07818dddbd2c92ba6a26e"), looks := false }, kinds := [], alts := [], laidByText := true, laidKinds := [.data, .data, .data], laidTests := true, laidLooks := .later }
def TextAllUptoCardSaid : Prop := Claim7.holds Tryd.pinned (.plain (OpenSpec.upto textAllSpec)) textAllUptoCard
end Rows
end Go.Proofs.YtejodjgeamaejaaDoor
