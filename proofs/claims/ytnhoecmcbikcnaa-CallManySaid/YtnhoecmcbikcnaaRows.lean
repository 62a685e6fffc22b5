/-
  NARROWER THAN 'FOR EVERY INPUT', by the rows' own cells (each row's printed sentence says how): CallMade: loops.
  DERIVED. THE GIVEN ROWS OF THIS SEAT. 5 by the template 'for every input the law returns true; each argument reads behind the call as it read before'; 0 by the template 'total and deterministic' (their statements: YtnhoecmcbikcnaaTotals.lean).
  GIVEN WITH THE SEED: the statements are not yours to turn. If you find one false, say at which input.
  Laid BY PROGRAM, IN A SANDBOX (cutbox-rows.mjs): the forced cells as the released guide's own fill.sh prints them over the translation 05136db002ded14a… (all of the seat's roots in one cut). By AI agents, Wed Nov 11 2026. No macro, syntax, notation, axiom, sorry.
-/
import Derived.Test.YtnhoecmcbikcnaaChecked
import GoSem.Claim
import GoSem.ClaimJoined
import GoSem.ClaimMapViews
import Derived.JoinedTies
import Derived.KernelRfl
namespace Go.Proofs.Ytnhoecmcbikcnaa
/- THE CELL 'sum', in the pinned program and in every row, IS THE sha256 OF THE DUMP (.gsa) THAT YtnhoecmcbikcnaaProg.lean LOADS. Nothing in Lean hashes anything: it is a label: what it is worth is what the hold of that sum in a sandbox is worth. -/
noncomputable def Try.pinned : Pinned := { name := "ytnhoecmcbikcnaa", sum := "05136db002ded14ae9216ffc52f5e1e022a1668dc84bde2fa69fd3f3100e1205", checked := Try.checked }
namespace Rows
def none {H : Type} : Left H := { results := [], args := [] }

/-- 'pillarboxlaw7.JsonReads': WHATEVER THE INPUT: true; the input reads as it did. -/
def jsonReadsSpec : ChangeSpec := { name := "jsonReads", fn := fun _ => fun
  | [d] => { results := [.lit (.bool true)], args := [d] }
  | _ => none }
def jsonReadsRow : OpenClaim := { program := "ytnhoecmcbikcnaa", sum := "05136db002ded14ae9216ffc52f5e1e022a1668dc84bde2fa69fd3f3100e1205", func := "pillarbox/pillarboxlaw7.JsonReads", spec := "jsonReads", unfollowed := true, recurses := true, apart := false }
def JsonReadsSaid : Prop := jsonReadsRow.holds Try.pinned (OpenSpec.ofChange jsonReadsSpec)

/-- ITS FALSE NEIGHBOUR: 'it returns false'. Refute it at one input. -/
def jsonReadsWrong : ChangeSpec := { name := "jsonReads", fn := fun _ => fun
  | [d] => { results := [.lit (.bool false)], args := [d] }
  | _ => none }
def JsonReadsWrongFalsely : Prop := jsonReadsRow.holds Try.pinned (OpenSpec.ofChange jsonReadsWrong)

/-- 'pillarboxlaw26.CallReads': WHATEVER THE INPUT: true; the input reads as it did. -/
def callReadsSpec : ChangeSpec := { name := "callReads", fn := fun _ => fun
  | [d] => { results := [.lit (.bool true)], args := [d] }
  | _ => none }
def callReadsRow : OpenClaim := { program := "ytnhoecmcbikcnaa", sum := "05136db002ded14ae9216ffc52f5e1e022a1668dc84bde2fa69fd3f3100e1205", func := "pillarbox/pillarboxlaw26.CallReads", spec := "callReads", unfollowed := true, recurses := true, apart := false }
def CallReadsSaid : Prop := callReadsRow.holds Try.pinned (OpenSpec.ofChange callReadsSpec)

/-- ITS FALSE NEIGHBOUR: 'it returns false'. Refute it at one input. -/
def callReadsWrong : ChangeSpec := { name := "callReads", fn := fun _ => fun
  | [d] => { results := [.lit (.bool false)], args := [d] }
  | _ => none }
def CallReadsWrongFalsely : Prop := callReadsRow.holds Try.pinned (OpenSpec.ofChange callReadsWrong)

/-- 'pillarboxlaw26.CallMany': WHATEVER THE INPUT: true; the input reads as it did. -/
def callManySpec : ChangeSpec := { name := "callMany", fn := fun _ => fun
  | [d1, d2] => { results := [.lit (.bool true)], args := [d1, d2] }
  | _ => none }
def callManyRow : OpenClaim := { program := "ytnhoecmcbikcnaa", sum := "05136db002ded14ae9216ffc52f5e1e022a1668dc84bde2fa69fd3f3100e1205", func := "pillarbox/pillarboxlaw26.CallMany", spec := "callMany", unfollowed := true, recurses := true, apart := false }
def CallManySaid : Prop := callManyRow.holds Try.pinned (OpenSpec.ofChange callManySpec)

/-- ITS FALSE NEIGHBOUR: 'it returns false'. Refute it at one input. -/
def callManyWrong : ChangeSpec := { name := "callMany", fn := fun _ => fun
  | [d1, d2] => { results := [.lit (.bool false)], args := [d1, d2] }
  | _ => none }
def CallManyWrongFalsely : Prop := callManyRow.holds Try.pinned (OpenSpec.ofChange callManyWrong)

/-- 'pillarboxlaw26.CallBad': WHATEVER THE INPUT: true; the input reads as it did. -/
def callBadSpec : ChangeSpec := { name := "callBad", fn := fun _ => fun
  | [d] => { results := [.lit (.bool true)], args := [d] }
  | _ => none }
def callBadRow : OpenClaim := { program := "ytnhoecmcbikcnaa", sum := "05136db002ded14ae9216ffc52f5e1e022a1668dc84bde2fa69fd3f3100e1205", func := "pillarbox/pillarboxlaw26.CallBad", spec := "callBad", unfollowed := true, recurses := true, apart := false }
def CallBadSaid : Prop := callBadRow.holds Try.pinned (OpenSpec.ofChange callBadSpec)

/-- ITS FALSE NEIGHBOUR: 'it returns false'. Refute it at one input. -/
def callBadWrong : ChangeSpec := { name := "callBad", fn := fun _ => fun
  | [d] => { results := [.lit (.bool false)], args := [d] }
  | _ => none }
def CallBadWrongFalsely : Prop := callBadRow.holds Try.pinned (OpenSpec.ofChange callBadWrong)

/-- 'pillarboxlaw26.CallMade': WHATEVER THE INPUT: true; the input reads as it did. -/
def callMadeSpec : ChangeSpec := { name := "callMade", fn := fun _ => fun
  | [d1, d2] => { results := [.lit (.bool true)], args := [d1, d2] }
  | _ => none }
def callMadeRow : OpenClaim := { program := "ytnhoecmcbikcnaa", sum := "05136db002ded14ae9216ffc52f5e1e022a1668dc84bde2fa69fd3f3100e1205", func := "pillarbox/pillarboxlaw26.CallMade", spec := "callMade", unfollowed := true, recurses := true, loops := true, apart := false }
def CallMadeSaid : Prop := callMadeRow.holds Try.pinned (OpenSpec.ofChange callMadeSpec)

/-- ITS FALSE NEIGHBOUR: 'it returns false'. Refute it at one input. -/
def callMadeWrong : ChangeSpec := { name := "callMade", fn := fun _ => fun
  | [d1, d2] => { results := [.lit (.bool false)], args := [d1, d2] }
  | _ => none }
def CallMadeWrongFalsely : Prop := callMadeRow.holds Try.pinned (OpenSpec.ofChange callMadeWrong)

/- THE SECOND FORM. 'bulk': how many values and letters a reading holds, each counted each time it is reached (what is shared counts as often as it is met; a slice's spare places count too). A statement '..UptoSaid' is the law's where the arguments, and the package variables that the reading takes, are together of bulk at most 1048576: NARROWER than '..Said'. Prove '..Said' where nothing that the law and all that it calls make is longer than what came in: it says more and counts as full. Else prove '..UptoSaid'. A law counts once. -/
mutual
def uptoBulk {H : Type} : DataW H → Nat
  | .lit (.string bytes) => bytes.length + 1
  | .lit _ => 1
  | .nil => 1
  | .ptr d => uptoBulk d + 1
  | .slice elems spare => uptoBulkAll elems + uptoBulkAll spare + 1
  | .agg parts => uptoBulkAll parts + 1
  | .iface _ d => uptoBulk d + 1
  | .map entries => uptoBulkEntries entries + 1
  | .held _ => 1
def uptoBulkAll {H : Type} : List (DataW H) → Nat
  | [] => 0
  | d :: r => uptoBulk d + uptoBulkAll r
def uptoBulkEntries {H : Type} : List (Lit × DataW H) → Nat
  | [] => 0
  | x :: r => uptoBulkEntry x + uptoBulkEntries r
def uptoBulkEntry {H : Type} : Lit × DataW H → Nat
  | (.string bytes, d) => bytes.length + uptoBulk d + 1
  | (_, d) => uptoBulk d + 1
 end
def uptoSmall : (H : Type) → List (DataW H) → Bool := fun _ ds => decide (uptoBulkAll ds ≤ 1048576)
def OpenSpec.upto (s : _root_.Go.ChangeSpec) : _root_.Go.OpenSpec := { _root_.Go.OpenSpec.ofChange s with cond := some uptoSmall }

/-- 'pillarboxlaw7.JsonReads', WHERE WHAT IT READS IS OF BULK AT MOST 1048576: true; the input reads as it did. -/
def jsonReadsUptoRow : OpenClaim := { program := "ytnhoecmcbikcnaa", sum := "05136db002ded14ae9216ffc52f5e1e022a1668dc84bde2fa69fd3f3100e1205", func := "pillarbox/pillarboxlaw7.JsonReads", spec := "jsonReads", unfollowed := true, recurses := true, apart := false, narrowed := true }
def JsonReadsUptoSaid : Prop := jsonReadsUptoRow.holds Try.pinned (OpenSpec.upto jsonReadsSpec)

/-- 'pillarboxlaw26.CallReads', WHERE WHAT IT READS IS OF BULK AT MOST 1048576: true; the input reads as it did. -/
def callReadsUptoRow : OpenClaim := { program := "ytnhoecmcbikcnaa", sum := "05136db002ded14ae9216ffc52f5e1e022a1668dc84bde2fa69fd3f3100e1205", func := "pillarbox/pillarboxlaw26.CallReads", spec := "callReads", unfollowed := true, recurses := true, apart := false, narrowed := true }
def CallReadsUptoSaid : Prop := callReadsUptoRow.holds Try.pinned (OpenSpec.upto callReadsSpec)

/-- 'pillarboxlaw26.CallMany', WHERE WHAT IT READS IS OF BULK AT MOST 1048576: true; the input reads as it did. -/
def callManyUptoRow : OpenClaim := { program := "ytnhoecmcbikcnaa", sum := "05136db002ded14ae9216ffc52f5e1e022a1668dc84bde2fa69fd3f3100e1205", func := "pillarbox/pillarboxlaw26.CallMany", spec := "callMany", unfollowed := true, recurses := true, apart := false, narrowed := true }
def CallManyUptoSaid : Prop := callManyUptoRow.holds Try.pinned (OpenSpec.upto callManySpec)

/-- 'pillarboxlaw26.CallBad', WHERE WHAT IT READS IS OF BULK AT MOST 1048576: true; the input reads as it did. -/
def callBadUptoRow : OpenClaim := { program := "ytnhoecmcbikcnaa", sum := "05136db002ded14ae9216ffc52f5e1e022a1668dc84bde2fa69fd3f3100e1205", func := "pillarbox/pillarboxlaw26.CallBad", spec := "callBad", unfollowed := true, recurses := true, apart := false, narrowed := true }
def CallBadUptoSaid : Prop := callBadUptoRow.holds Try.pinned (OpenSpec.upto callBadSpec)

/-- 'pillarboxlaw26.CallMade', WHERE WHAT IT READS IS OF BULK AT MOST 1048576: true; the input reads as it did. -/
def callMadeUptoRow : OpenClaim := { program := "ytnhoecmcbikcnaa", sum := "05136db002ded14ae9216ffc52f5e1e022a1668dc84bde2fa69fd3f3100e1205", func := "pillarbox/pillarboxlaw26.CallMade", spec := "callMade", unfollowed := true, recurses := true, loops := true, apart := false, narrowed := true }
def CallMadeUptoSaid : Prop := callMadeUptoRow.holds Try.pinned (OpenSpec.upto callMadeSpec)

end Rows
end Go.Proofs.Ytnhoecmcbikcnaa
