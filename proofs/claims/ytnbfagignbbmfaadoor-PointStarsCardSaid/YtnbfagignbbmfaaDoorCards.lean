/-
  DERIVED. GIVEN WITH THE SEED: THE CARDS: each row of YtnbfagignbbmfaaDoorRows.lean that lists a variable, with what it lists TIED to the program's text (the seventh form; the later family's looks); each row that meets fmt, with fmt's text TOLD by the authors' own Lean function (tested against real Go, not proved from fmt's source: count such statements apart). THE CARD IS WHAT COUNTS. Prove the row's statement (the work); the ties are given (YtnbfagignbbmfaaDoorTie.lean); close each card by the builder's one call (the guide's Derived/Test/ToyasCard.lean, 'card_holds'). Laid BY PROGRAM, IN A SANDBOX (cutbox-door.mjs). By AI agents, Wed Nov 11 2026. No macro, syntax, notation, axiom, sorry.
-/
import Derived.Test.YtnbfagignbbmfaaDoorRows
import GoSem.ClaimSeven
namespace Go.Proofs.YtnbfagignbbmfaaDoor
namespace Rows

/-- THE TIED CARD OF 'pillarboxlaw9.PointGets'. -/
def pointGetsCard : Claim7 := { stood := { row := pointGetsRow, standIns := [], harness := (true, "fc5414b48379c2be3e931b949830f9dea46b7c47afc272235be69ac36d03b4b8"), looks := false }, kinds := [], alts := [], laidByText := true, laidKinds := [.data, .pinned], laidTests := true, laidLooks := .later }
def PointGetsCardSaid : Prop := Claim7.holds Tryd.pinned (.plain (OpenSpec.ofChange pointGetsSpec)) pointGetsCard

/-- THE TIED CARD OF 'pillarboxlaw9.PointWalks'. -/
def pointWalksCard : Claim7 := { stood := { row := pointWalksRow, standIns := [], harness := (true, "fc5414b48379c2be3e931b949830f9dea46b7c47afc272235be69ac36d03b4b8"), looks := false }, kinds := [], alts := [], laidByText := true, laidKinds := [.data, .pinned], laidTests := true, laidLooks := .later }
def PointWalksCardSaid : Prop := Claim7.holds Tryd.pinned (.plain (OpenSpec.ofChange pointWalksSpec)) pointWalksCard

/-- THE TIED CARD OF 'pillarboxlaw9.PointStars'. -/
def pointStarsCard : Claim7 := { stood := { row := pointStarsRow, standIns := [], harness := (true, "fc5414b48379c2be3e931b949830f9dea46b7c47afc272235be69ac36d03b4b8"), looks := false }, kinds := [], alts := [], laidByText := true, laidKinds := [.data, .pinned], laidTests := true, laidLooks := .later }
def PointStarsCardSaid : Prop := Claim7.holds Tryd.pinned (.plain (OpenSpec.ofChange pointStarsSpec)) pointStarsCard

/-- THE TIED CARD OF 'pillarboxlaw9.PointNone'. -/
def pointNoneCard : Claim7 := { stood := { row := pointNoneRow, standIns := [], harness := (true, "fc5414b48379c2be3e931b949830f9dea46b7c47afc272235be69ac36d03b4b8"), looks := false }, kinds := [], alts := [], laidByText := true, laidKinds := [.data, .pinned], laidTests := true, laidLooks := .later }
def PointNoneCardSaid : Prop := Claim7.holds Tryd.pinned (.plain (OpenSpec.ofChange pointNoneSpec)) pointNoneCard

/-- THE TIED CARD OF 'pillarboxlaw9.PointSigns'. -/
def pointSignsCard : Claim7 := { stood := { row := pointSignsRow, standIns := [], harness := (true, "fc5414b48379c2be3e931b949830f9dea46b7c47afc272235be69ac36d03b4b8"), looks := false }, kinds := [], alts := [], laidByText := true, laidKinds := [.data, .pinned], laidTests := true, laidLooks := .later }
def PointSignsCardSaid : Prop := Claim7.holds Tryd.pinned (.plain (OpenSpec.ofChange pointSignsSpec)) pointSignsCard

/-- THE TIED CARD OF 'pillarboxlaw26.CallResolves'. -/
def callResolvesCard : Claim7 := { stood := { row := callResolvesRow, standIns := [], harness := (true, "fc5414b48379c2be3e931b949830f9dea46b7c47afc272235be69ac36d03b4b8"), looks := false }, kinds := [], alts := [], laidByText := true, laidKinds := [.data, .pinned], laidTests := true, laidLooks := .later }
def CallResolvesCardSaid : Prop := Claim7.holds Tryd.pinned (.plain (OpenSpec.ofChange callResolvesSpec)) callResolvesCard

/-- THE TIED CARD OF 'pillarboxlaw26.CallPlain'. -/
def callPlainCard : Claim7 := { stood := { row := callPlainRow, standIns := [], harness := (true, "fc5414b48379c2be3e931b949830f9dea46b7c47afc272235be69ac36d03b4b8"), looks := false }, kinds := [], alts := [], laidByText := true, laidKinds := [.data, .pinned], laidTests := true, laidLooks := .later }
def CallPlainCardSaid : Prop := Claim7.holds Tryd.pinned (.plain (OpenSpec.ofChange callPlainSpec)) callPlainCard

/-- THE TIED CARD OF 'pillarboxlaw26.CallRefs'. -/
def callRefsCard : Claim7 := { stood := { row := callRefsRow, standIns := [], harness := (true, "fc5414b48379c2be3e931b949830f9dea46b7c47afc272235be69ac36d03b4b8"), looks := false }, kinds := [], alts := [], laidByText := true, laidKinds := [.data, .pinned], laidTests := true, laidLooks := .later }
def CallRefsCardSaid : Prop := Claim7.holds Tryd.pinned (.plain (OpenSpec.ofChange callRefsSpec)) callRefsCard

/-- THE SECOND FORM's CARD OF 'pillarboxlaw9.PointGets'. -/
def pointGetsUptoCard : Claim7 := { stood := { row := pointGetsUptoRow, standIns := [], harness := (true, "fc5414b48379c2be3e931b949830f9dea46b7c47afc272235be69ac36d03b4b8"), looks := false }, kinds := [], alts := [], laidByText := true, laidKinds := [.data, .pinned], laidTests := true, laidLooks := .later }
def PointGetsUptoCardSaid : Prop := Claim7.holds Tryd.pinned (.plain (OpenSpec.upto pointGetsSpec)) pointGetsUptoCard

/-- THE SECOND FORM's CARD OF 'pillarboxlaw9.PointWalks'. -/
def pointWalksUptoCard : Claim7 := { stood := { row := pointWalksUptoRow, standIns := [], harness := (true, "fc5414b48379c2be3e931b949830f9dea46b7c47afc272235be69ac36d03b4b8"), looks := false }, kinds := [], alts := [], laidByText := true, laidKinds := [.data, .pinned], laidTests := true, laidLooks := .later }
def PointWalksUptoCardSaid : Prop := Claim7.holds Tryd.pinned (.plain (OpenSpec.upto pointWalksSpec)) pointWalksUptoCard

/-- THE SECOND FORM's CARD OF 'pillarboxlaw9.PointStars'. -/
def pointStarsUptoCard : Claim7 := { stood := { row := pointStarsUptoRow, standIns := [], harness := (true, "fc5414b48379c2be3e931b949830f9dea46b7c47afc272235be69ac36d03b4b8"), looks := false }, kinds := [], alts := [], laidByText := true, laidKinds := [.data, .pinned], laidTests := true, laidLooks := .later }
def PointStarsUptoCardSaid : Prop := Claim7.holds Tryd.pinned (.plain (OpenSpec.upto pointStarsSpec)) pointStarsUptoCard

/-- THE SECOND FORM's CARD OF 'pillarboxlaw9.PointNone'. -/
def pointNoneUptoCard : Claim7 := { stood := { row := pointNoneUptoRow, standIns := [], harness := (true, "fc5414b48379c2be3e931b949830f9dea46b7c47afc272235be69ac36d03b4b8"), looks := false }, kinds := [], alts := [], laidByText := true, laidKinds := [.data, .pinned], laidTests := true, laidLooks := .later }
def PointNoneUptoCardSaid : Prop := Claim7.holds Tryd.pinned (.plain (OpenSpec.upto pointNoneSpec)) pointNoneUptoCard

/-- THE SECOND FORM's CARD OF 'pillarboxlaw9.PointSigns'. -/
def pointSignsUptoCard : Claim7 := { stood := { row := pointSignsUptoRow, standIns := [], harness := (true, "fc5414b48379c2be3e931b949830f9dea46b7c47afc272235be69ac36d03b4b8"), looks := false }, kinds := [], alts := [], laidByText := true, laidKinds := [.data, .pinned], laidTests := true, laidLooks := .later }
def PointSignsUptoCardSaid : Prop := Claim7.holds Tryd.pinned (.plain (OpenSpec.upto pointSignsSpec)) pointSignsUptoCard

/-- THE SECOND FORM's CARD OF 'pillarboxlaw26.CallResolves'. -/
def callResolvesUptoCard : Claim7 := { stood := { row := callResolvesUptoRow, standIns := [], harness := (true, "fc5414b48379c2be3e931b949830f9dea46b7c47afc272235be69ac36d03b4b8"), looks := false }, kinds := [], alts := [], laidByText := true, laidKinds := [.data, .pinned], laidTests := true, laidLooks := .later }
def CallResolvesUptoCardSaid : Prop := Claim7.holds Tryd.pinned (.plain (OpenSpec.upto callResolvesSpec)) callResolvesUptoCard

/-- THE SECOND FORM's CARD OF 'pillarboxlaw26.CallPlain'. -/
def callPlainUptoCard : Claim7 := { stood := { row := callPlainUptoRow, standIns := [], harness := (true, "fc5414b48379c2be3e931b949830f9dea46b7c47afc272235be69ac36d03b4b8"), looks := false }, kinds := [], alts := [], laidByText := true, laidKinds := [.data, .pinned], laidTests := true, laidLooks := .later }
def CallPlainUptoCardSaid : Prop := Claim7.holds Tryd.pinned (.plain (OpenSpec.upto callPlainSpec)) callPlainUptoCard

/-- THE SECOND FORM's CARD OF 'pillarboxlaw26.CallRefs'. -/
def callRefsUptoCard : Claim7 := { stood := { row := callRefsUptoRow, standIns := [], harness := (true, "fc5414b48379c2be3e931b949830f9dea46b7c47afc272235be69ac36d03b4b8"), looks := false }, kinds := [], alts := [], laidByText := true, laidKinds := [.data, .pinned], laidTests := true, laidLooks := .later }
def CallRefsUptoCardSaid : Prop := Claim7.holds Tryd.pinned (.plain (OpenSpec.upto callRefsSpec)) callRefsUptoCard
end Rows
end Go.Proofs.YtnbfagignbbmfaaDoor
