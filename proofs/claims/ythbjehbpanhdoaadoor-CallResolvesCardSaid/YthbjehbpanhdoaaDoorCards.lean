/-
  DERIVED. GIVEN WITH THE SEED: THE CARDS: each row of YthbjehbpanhdoaaDoorRows.lean that lists a variable, with what it lists TIED to the program's text (the seventh form; the later family's looks); each row that meets fmt, with fmt's text TOLD by the authors' own Lean function (tested against real Go, not proved from fmt's source: count such statements apart). THE CARD IS WHAT COUNTS. Prove the row's statement (the work); the ties are given (YthbjehbpanhdoaaDoorTie.lean); close each card by the builder's one call (the guide's Derived/Test/ToyasCard.lean, 'card_holds'). Laid BY PROGRAM, IN A SANDBOX (cutbox-door.mjs). By AI agents, Wed Nov 11 2026. No macro, syntax, notation, axiom, sorry.
-/
import Derived.Test.YthbjehbpanhdoaaDoorRows
import GoSem.ClaimSeven
namespace Go.Proofs.YthbjehbpanhdoaaDoor
namespace Rows

/-- THE TIED CARD OF 'pillarboxlaw26.CallResolves'. -/
def callResolvesCard : Claim7 := { stood := { row := callResolvesRow, standIns := [], harness := (true, "db4a7a910009e3f664b2515a9a3a4b1d8be97acd98a6c8e9c79d287b98485d32"), looks := false }, kinds := [], alts := [], laidByText := true, laidKinds := [.data, .pinned], laidTests := true, laidLooks := .later }
def CallResolvesCardSaid : Prop := Claim7.holds Tryd.pinned (.plain (OpenSpec.ofChange callResolvesSpec)) callResolvesCard

/-- THE TIED CARD OF 'pillarboxlaw26.CallPlain'. -/
def callPlainCard : Claim7 := { stood := { row := callPlainRow, standIns := [], harness := (true, "db4a7a910009e3f664b2515a9a3a4b1d8be97acd98a6c8e9c79d287b98485d32"), looks := false }, kinds := [], alts := [], laidByText := true, laidKinds := [.data, .pinned], laidTests := true, laidLooks := .later }
def CallPlainCardSaid : Prop := Claim7.holds Tryd.pinned (.plain (OpenSpec.ofChange callPlainSpec)) callPlainCard

/-- THE TIED CARD OF 'pillarboxlaw26.CallRefs'. -/
def callRefsCard : Claim7 := { stood := { row := callRefsRow, standIns := [], harness := (true, "db4a7a910009e3f664b2515a9a3a4b1d8be97acd98a6c8e9c79d287b98485d32"), looks := false }, kinds := [], alts := [], laidByText := true, laidKinds := [.data, .pinned], laidTests := true, laidLooks := .later }
def CallRefsCardSaid : Prop := Claim7.holds Tryd.pinned (.plain (OpenSpec.ofChange callRefsSpec)) callRefsCard

/-- THE SECOND FORM's CARD OF 'pillarboxlaw26.CallResolves'. -/
def callResolvesUptoCard : Claim7 := { stood := { row := callResolvesUptoRow, standIns := [], harness := (true, "db4a7a910009e3f664b2515a9a3a4b1d8be97acd98a6c8e9c79d287b98485d32"), looks := false }, kinds := [], alts := [], laidByText := true, laidKinds := [.data, .pinned], laidTests := true, laidLooks := .later }
def CallResolvesUptoCardSaid : Prop := Claim7.holds Tryd.pinned (.plain (OpenSpec.upto callResolvesSpec)) callResolvesUptoCard

/-- THE SECOND FORM's CARD OF 'pillarboxlaw26.CallPlain'. -/
def callPlainUptoCard : Claim7 := { stood := { row := callPlainUptoRow, standIns := [], harness := (true, "db4a7a910009e3f664b2515a9a3a4b1d8be97acd98a6c8e9c79d287b98485d32"), looks := false }, kinds := [], alts := [], laidByText := true, laidKinds := [.data, .pinned], laidTests := true, laidLooks := .later }
def CallPlainUptoCardSaid : Prop := Claim7.holds Tryd.pinned (.plain (OpenSpec.upto callPlainSpec)) callPlainUptoCard

/-- THE SECOND FORM's CARD OF 'pillarboxlaw26.CallRefs'. -/
def callRefsUptoCard : Claim7 := { stood := { row := callRefsUptoRow, standIns := [], harness := (true, "db4a7a910009e3f664b2515a9a3a4b1d8be97acd98a6c8e9c79d287b98485d32"), looks := false }, kinds := [], alts := [], laidByText := true, laidKinds := [.data, .pinned], laidTests := true, laidLooks := .later }
def CallRefsUptoCardSaid : Prop := Claim7.holds Tryd.pinned (.plain (OpenSpec.upto callRefsSpec)) callRefsUptoCard
end Rows
end Go.Proofs.YthbjehbpanhdoaaDoor
