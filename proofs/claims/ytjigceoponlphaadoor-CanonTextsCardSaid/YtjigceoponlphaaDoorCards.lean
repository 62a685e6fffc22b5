/-
  DERIVED. GIVEN WITH THE SEED: THE CARDS: each row of YtjigceoponlphaaDoorRows.lean that lists a variable, with what it lists TIED to the program's text (the seventh form; the later family's looks); each row that meets fmt, with fmt's text TOLD by the authors' own Lean function (tested against real Go, not proved from fmt's source: count such statements apart). THE CARD IS WHAT COUNTS. Prove the row's statement (the work); the ties are given (YtjigceoponlphaaDoorTie.lean); close each card by the builder's one call (the guide's Derived/Test/ToyasCard.lean, 'card_holds'). Laid BY PROGRAM, IN A SANDBOX (cutbox-door.mjs). By AI agents, Wed Nov 11 2026. No macro, syntax, notation, axiom, sorry.
-/
import Derived.Test.YtjigceoponlphaaDoorRows
import GoSem.ClaimSeven
namespace Go.Proofs.YtjigceoponlphaaDoor
namespace Rows

/-- THE TIED CARD OF 'pillarboxlaw8.CanonBack'. -/
def canonBackCard : Claim7 := { stood := { row := canonBackRow, standIns := [], harness := (true, "017becc3ba135a64e651b2dc3867e9b0709a4162fabbfcb28b01392833db9bdb"), looks := false }, kinds := [], alts := [], laidByText := true, laidKinds := [.data, .data, .data], laidTests := true, laidLooks := .later }
def CanonBackCardSaid : Prop := Claim7.holds Tryd.pinned (.plain (OpenSpec.ofChange canonBackSpec)) canonBackCard

/-- THE TIED CARD OF 'pillarboxlaw8.CanonTexts'. -/
def canonTextsCard : Claim7 := { stood := { row := canonTextsRow, standIns := [], harness := (true, "017becc3ba135a64e651b2dc3867e9b0709a4162fabbfcb28b01392833db9bdb"), looks := false }, kinds := [], alts := [], laidByText := true, laidKinds := [.data, .data, .data], laidTests := true, laidLooks := .later }
def CanonTextsCardSaid : Prop := Claim7.holds Tryd.pinned (.plain (OpenSpec.ofChange canonTextsSpec)) canonTextsCard

/-- THE SECOND FORM's CARD OF 'pillarboxlaw8.CanonBack'. -/
def canonBackUptoCard : Claim7 := { stood := { row := canonBackUptoRow, standIns := [], harness := (true, "017becc3ba135a64e651b2dc3867e9b0709a4162fabbfcb28b01392833db9bdb"), looks := false }, kinds := [], alts := [], laidByText := true, laidKinds := [.data, .data, .data], laidTests := true, laidLooks := .later }
def CanonBackUptoCardSaid : Prop := Claim7.holds Tryd.pinned (.plain (OpenSpec.upto canonBackSpec)) canonBackUptoCard

/-- THE SECOND FORM's CARD OF 'pillarboxlaw8.CanonTexts'. -/
def canonTextsUptoCard : Claim7 := { stood := { row := canonTextsUptoRow, standIns := [], harness := (true, "017becc3ba135a64e651b2dc3867e9b0709a4162fabbfcb28b01392833db9bdb"), looks := false }, kinds := [], alts := [], laidByText := true, laidKinds := [.data, .data, .data], laidTests := true, laidLooks := .later }
def CanonTextsUptoCardSaid : Prop := Claim7.holds Tryd.pinned (.plain (OpenSpec.upto canonTextsSpec)) canonTextsUptoCard
end Rows
end Go.Proofs.YtjigceoponlphaaDoor
