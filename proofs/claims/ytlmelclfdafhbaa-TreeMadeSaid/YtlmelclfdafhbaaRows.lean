/-
  No cell of these rows narrows 'for every input' (looked for: loops, veiled, ifaces, maps, wideKeys, modest, calm, conditions, laid).
  DERIVED. THE GIVEN ROWS OF THIS SEAT. 5 by the template 'for every input the law returns true; each argument reads behind the call as it read before'; 0 by the template 'total and deterministic' (their statements: YtlmelclfdafhbaaTotals.lean).
  GIVEN WITH THE SEED: the statements are not yours to turn. If you find one false, say at which input.
  Laid BY PROGRAM, IN A SANDBOX (cutbox-rows.mjs): the forced cells as the released guide's own fill.sh prints them over the translation f5c078f5820ef41c… (all of the seat's roots in one cut). By AI agents, Wed Nov 11 2026. No macro, syntax, notation, axiom, sorry.
-/
import Derived.Test.YtlmelclfdafhbaaChecked
import GoSem.Claim
import GoSem.ClaimJoined
import GoSem.ClaimMapViews
import Derived.JoinedTies
import Derived.KernelRfl
namespace Go.Proofs.Ytlmelclfdafhbaa
/- THE CELL 'sum', in the pinned program and in every row, IS THE sha256 OF THE DUMP (.gsa) THAT YtlmelclfdafhbaaProg.lean LOADS. Nothing in Lean hashes anything: it is a label: what it is worth is what the hold of that sum in a sandbox is worth. -/
noncomputable def Try.pinned : Pinned := { name := "ytlmelclfdafhbaa", sum := "f5c078f5820ef41ca0353541567ce922e095854c012f80c42e0c3550eefc7191", checked := Try.checked }
namespace Rows
def none {H : Type} : Left H := { results := [], args := [] }

/-- 'pillarboxlaw16.TreeMatches': WHATEVER THE INPUT: true; the input reads as it did. -/
def treeMatchesSpec : ChangeSpec := { name := "treeMatches", fn := fun _ => fun
  | [d1, d2] => { results := [.lit (.bool true)], args := [d1, d2] }
  | _ => none }
def treeMatchesRow : OpenClaim := { program := "ytlmelclfdafhbaa", sum := "f5c078f5820ef41ca0353541567ce922e095854c012f80c42e0c3550eefc7191", func := "pillarbox/pillarboxlaw16.TreeMatches", spec := "treeMatches", apart := false }
def TreeMatchesSaid : Prop := treeMatchesRow.holds Try.pinned (OpenSpec.ofChange treeMatchesSpec)

/-- ITS FALSE NEIGHBOUR: 'it returns false'. Refute it at one input. -/
def treeMatchesWrong : ChangeSpec := { name := "treeMatches", fn := fun _ => fun
  | [d1, d2] => { results := [.lit (.bool false)], args := [d1, d2] }
  | _ => none }
def TreeMatchesWrongFalsely : Prop := treeMatchesRow.holds Try.pinned (OpenSpec.ofChange treeMatchesWrong)

/-- 'pillarboxlaw16.TreeSelf': WHATEVER THE INPUT: true; the input reads as it did. -/
def treeSelfSpec : ChangeSpec := { name := "treeSelf", fn := fun _ => fun
  | [d1, d2, d3] => { results := [.lit (.bool true)], args := [d1, d2, d3] }
  | _ => none }
def treeSelfRow : OpenClaim := { program := "ytlmelclfdafhbaa", sum := "f5c078f5820ef41ca0353541567ce922e095854c012f80c42e0c3550eefc7191", func := "pillarbox/pillarboxlaw16.TreeSelf", spec := "treeSelf", apart := false }
def TreeSelfSaid : Prop := treeSelfRow.holds Try.pinned (OpenSpec.ofChange treeSelfSpec)

/-- ITS FALSE NEIGHBOUR: 'it returns false'. Refute it at one input. -/
def treeSelfWrong : ChangeSpec := { name := "treeSelf", fn := fun _ => fun
  | [d1, d2, d3] => { results := [.lit (.bool false)], args := [d1, d2, d3] }
  | _ => none }
def TreeSelfWrongFalsely : Prop := treeSelfRow.holds Try.pinned (OpenSpec.ofChange treeSelfWrong)

/-- 'pillarboxlaw16.TreePercents': WHATEVER THE INPUT: true; the input reads as it did. -/
def treePercentsSpec : ChangeSpec := { name := "treePercents", fn := fun _ => fun
  | [d1, d2] => { results := [.lit (.bool true)], args := [d1, d2] }
  | _ => none }
def treePercentsRow : OpenClaim := { program := "ytlmelclfdafhbaa", sum := "f5c078f5820ef41ca0353541567ce922e095854c012f80c42e0c3550eefc7191", func := "pillarbox/pillarboxlaw16.TreePercents", spec := "treePercents", apart := false }
def TreePercentsSaid : Prop := treePercentsRow.holds Try.pinned (OpenSpec.ofChange treePercentsSpec)

/-- ITS FALSE NEIGHBOUR: 'it returns false'. Refute it at one input. -/
def treePercentsWrong : ChangeSpec := { name := "treePercents", fn := fun _ => fun
  | [d1, d2] => { results := [.lit (.bool false)], args := [d1, d2] }
  | _ => none }
def TreePercentsWrongFalsely : Prop := treePercentsRow.holds Try.pinned (OpenSpec.ofChange treePercentsWrong)

/-- 'pillarboxlaw16.TreeMade': WHATEVER THE INPUT: true; the input reads as it did. -/
def treeMadeSpec : ChangeSpec := { name := "treeMade", fn := fun _ => fun
  | [d] => { results := [.lit (.bool true)], args := [d] }
  | _ => none }
def treeMadeRow : OpenClaim := { program := "ytlmelclfdafhbaa", sum := "f5c078f5820ef41ca0353541567ce922e095854c012f80c42e0c3550eefc7191", func := "pillarbox/pillarboxlaw16.TreeMade", spec := "treeMade", inPlace := ["internal/abi.NoEscape", "internal/bytealg.MakeNoZero"], unfollowed := true, recurses := true, apart := false }
def TreeMadeSaid : Prop := treeMadeRow.holds Try.pinned (OpenSpec.ofChange treeMadeSpec)

/-- ITS FALSE NEIGHBOUR: 'it returns false'. Refute it at one input. -/
def treeMadeWrong : ChangeSpec := { name := "treeMade", fn := fun _ => fun
  | [d] => { results := [.lit (.bool false)], args := [d] }
  | _ => none }
def TreeMadeWrongFalsely : Prop := treeMadeRow.holds Try.pinned (OpenSpec.ofChange treeMadeWrong)

/-- 'pillarboxlaw16.TreeRounds': WHATEVER THE INPUT: true; the input reads as it did. -/
def treeRoundsSpec : ChangeSpec := { name := "treeRounds", fn := fun _ => fun
  | [d1, d2] => { results := [.lit (.bool true)], args := [d1, d2] }
  | _ => none }
def treeRoundsRow : OpenClaim := { program := "ytlmelclfdafhbaa", sum := "f5c078f5820ef41ca0353541567ce922e095854c012f80c42e0c3550eefc7191", func := "pillarbox/pillarboxlaw16.TreeRounds", spec := "treeRounds", inPlace := ["internal/abi.NoEscape", "internal/bytealg.MakeNoZero"], unfollowed := true, recurses := true, apart := false }
def TreeRoundsSaid : Prop := treeRoundsRow.holds Try.pinned (OpenSpec.ofChange treeRoundsSpec)

/-- ITS FALSE NEIGHBOUR: 'it returns false'. Refute it at one input. -/
def treeRoundsWrong : ChangeSpec := { name := "treeRounds", fn := fun _ => fun
  | [d1, d2] => { results := [.lit (.bool false)], args := [d1, d2] }
  | _ => none }
def TreeRoundsWrongFalsely : Prop := treeRoundsRow.holds Try.pinned (OpenSpec.ofChange treeRoundsWrong)

/- THE SECOND FORM. 'bulk': how many values and letters a reading holds, each counted each time it is reached (what is shared counts as often as it is met; a slice's spare places count too). A statement '..UptoSaid' is the law's where the arguments, and the package variables that the reading takes, are together of bulk at most 1048576: NARROWER than '..Said'. Prove '..Said' where nothing that the law and all that it calls make is longer than what came in: it says more and counts as full. Else prove '..UptoSaid'. A law counts once. -/
mutual
def uptoBulk {H : Type} : DataW H → Nat
  | .lit (.string bytes) => bytes.length + 1
  | .lit _ => 1
  | .nil => 1
  | .ptr d => uptoBulk d + 1
  | .slice elems spare => uptoBulkAll elems + uptoBulkAll spare + 1
  | .agg parts => uptoBulkAll parts + 1
  | .iface _ d => uptoBulk d + 1
  | .map entries => uptoBulkEntries entries + 1
  | .held _ => 1
def uptoBulkAll {H : Type} : List (DataW H) → Nat
  | [] => 0
  | d :: r => uptoBulk d + uptoBulkAll r
def uptoBulkEntries {H : Type} : List (Lit × DataW H) → Nat
  | [] => 0
  | x :: r => uptoBulkEntry x + uptoBulkEntries r
def uptoBulkEntry {H : Type} : Lit × DataW H → Nat
  | (.string bytes, d) => bytes.length + uptoBulk d + 1
  | (_, d) => uptoBulk d + 1
 end
def uptoSmall : (H : Type) → List (DataW H) → Bool := fun _ ds => decide (uptoBulkAll ds ≤ 1048576)
def OpenSpec.upto (s : _root_.Go.ChangeSpec) : _root_.Go.OpenSpec := { _root_.Go.OpenSpec.ofChange s with cond := some uptoSmall }

/-- 'pillarboxlaw16.TreeMatches', WHERE WHAT IT READS IS OF BULK AT MOST 1048576: true; the input reads as it did. -/
def treeMatchesUptoRow : OpenClaim := { program := "ytlmelclfdafhbaa", sum := "f5c078f5820ef41ca0353541567ce922e095854c012f80c42e0c3550eefc7191", func := "pillarbox/pillarboxlaw16.TreeMatches", spec := "treeMatches", apart := false, narrowed := true }
def TreeMatchesUptoSaid : Prop := treeMatchesUptoRow.holds Try.pinned (OpenSpec.upto treeMatchesSpec)

/-- 'pillarboxlaw16.TreeSelf', WHERE WHAT IT READS IS OF BULK AT MOST 1048576: true; the input reads as it did. -/
def treeSelfUptoRow : OpenClaim := { program := "ytlmelclfdafhbaa", sum := "f5c078f5820ef41ca0353541567ce922e095854c012f80c42e0c3550eefc7191", func := "pillarbox/pillarboxlaw16.TreeSelf", spec := "treeSelf", apart := false, narrowed := true }
def TreeSelfUptoSaid : Prop := treeSelfUptoRow.holds Try.pinned (OpenSpec.upto treeSelfSpec)

/-- 'pillarboxlaw16.TreePercents', WHERE WHAT IT READS IS OF BULK AT MOST 1048576: true; the input reads as it did. -/
def treePercentsUptoRow : OpenClaim := { program := "ytlmelclfdafhbaa", sum := "f5c078f5820ef41ca0353541567ce922e095854c012f80c42e0c3550eefc7191", func := "pillarbox/pillarboxlaw16.TreePercents", spec := "treePercents", apart := false, narrowed := true }
def TreePercentsUptoSaid : Prop := treePercentsUptoRow.holds Try.pinned (OpenSpec.upto treePercentsSpec)

/-- 'pillarboxlaw16.TreeMade', WHERE WHAT IT READS IS OF BULK AT MOST 1048576: true; the input reads as it did. -/
def treeMadeUptoRow : OpenClaim := { program := "ytlmelclfdafhbaa", sum := "f5c078f5820ef41ca0353541567ce922e095854c012f80c42e0c3550eefc7191", func := "pillarbox/pillarboxlaw16.TreeMade", spec := "treeMade", inPlace := ["internal/abi.NoEscape", "internal/bytealg.MakeNoZero"], unfollowed := true, recurses := true, apart := false, narrowed := true }
def TreeMadeUptoSaid : Prop := treeMadeUptoRow.holds Try.pinned (OpenSpec.upto treeMadeSpec)

/-- 'pillarboxlaw16.TreeRounds', WHERE WHAT IT READS IS OF BULK AT MOST 1048576: true; the input reads as it did. -/
def treeRoundsUptoRow : OpenClaim := { program := "ytlmelclfdafhbaa", sum := "f5c078f5820ef41ca0353541567ce922e095854c012f80c42e0c3550eefc7191", func := "pillarbox/pillarboxlaw16.TreeRounds", spec := "treeRounds", inPlace := ["internal/abi.NoEscape", "internal/bytealg.MakeNoZero"], unfollowed := true, recurses := true, apart := false, narrowed := true }
def TreeRoundsUptoSaid : Prop := treeRoundsUptoRow.holds Try.pinned (OpenSpec.upto treeRoundsSpec)

end Rows
end Go.Proofs.Ytlmelclfdafhbaa
