/-
  NARROWER THAN 'FOR EVERY INPUT', by the rows' own cells (each row's printed sentence says how): PointGets: loops, laid · PointWalks: loops, laid · PointStars: laid · PointNone: laid · PointSigns: laid · CallResolves: loops, laid · CallPlain: loops, laid · CallRefs: laid.
  DERIVED. THE GIVEN ROWS OF THIS SEAT. 8 by the template 'for every input the law returns true; each argument reads behind the call as it read before'; 0 by the template 'total and deterministic' (their statements: YtnbfagignbbmfaaDoorTotals.lean).
  GIVEN WITH THE SEED: the statements are not yours to turn. If you find one false, say at which input.
  Laid BY PROGRAM, IN A SANDBOX (cutbox-rows.mjs): the forced cells as the released guide's own fill.sh prints them over the translation 4ee95bfc7708cea6… (all of the seat's roots in one cut). By AI agents, Wed Nov 11 2026. No macro, syntax, notation, axiom, sorry.
-/
import Derived.Test.YtnbfagignbbmfaaDoorChecked
import GoSem.PinnedTables
import GoSem.Claim
import GoSem.ClaimJoined
import GoSem.ClaimMapViews
import Derived.JoinedTies
import Derived.KernelRfl
namespace Go.Proofs.YtnbfagignbbmfaaDoor
/- THE CELL 'sum', in the pinned program and in every row, IS THE sha256 OF THE DUMP (.gsa) THAT YtnbfagignbbmfaaDoorProg.lean LOADS. Nothing in Lean hashes anything: it is a label: what it is worth is what the hold of that sum in a sandbox is worth. -/
noncomputable def Tryd.pinned : Pinned := { name := "ytnbfagignbbmfaadoor", sum := "4ee95bfc7708cea6a1cb89e80d48bd65e5292a874b8ecf6101ccd1436cc026bb", checked := Tryd.checked }
namespace Rows
def none {H : Type} : Left H := { results := [], args := [] }

/- WHAT THE LISTED PACKAGE-LEVEL VARIABLES READ AS WHEN THE CALL BEGINS. Each datum BY PROGRAM (the guide's laid-datum.mjs) off the statement by which the dump's own 'gosem.cut.vars' lays the variable. In a bare row this is a premise. The card (YtnbfagignbbmfaaDoorCards.lean) ties it to the program's text. -/
def laid_unicode_utf8_acceptRanges {H : Type} : DataW H := .agg [.agg [.lit (.int .u8 128), .lit (.int .u8 191)], .agg [.lit (.int .u8 160), .lit (.int .u8 191)], .agg [.lit (.int .u8 128), .lit (.int .u8 159)], .agg [.lit (.int .u8 144), .lit (.int .u8 191)], .agg [.lit (.int .u8 128), .lit (.int .u8 143)], .agg [.lit (.int .u8 0), .lit (.int .u8 0)], .agg [.lit (.int .u8 0), .lit (.int .u8 0)], .agg [.lit (.int .u8 0), .lit (.int .u8 0)], .agg [.lit (.int .u8 0), .lit (.int .u8 0)], .agg [.lit (.int .u8 0), .lit (.int .u8 0)], .agg [.lit (.int .u8 0), .lit (.int .u8 0)], .agg [.lit (.int .u8 0), .lit (.int .u8 0)], .agg [.lit (.int .u8 0), .lit (.int .u8 0)], .agg [.lit (.int .u8 0), .lit (.int .u8 0)], .agg [.lit (.int .u8 0), .lit (.int .u8 0)], .agg [.lit (.int .u8 0), .lit (.int .u8 0)]]
/-- One of Go's own tables, pinned by name: the form's constant. -/
def laid_unicode_utf8_first : DataW Unit := Go.Pinned.utf8First

/-- 'pillarboxlaw9.PointGets': WHATEVER THE INPUT: true; the input reads as it did. -/
def pointGetsSpec : ChangeSpec := { name := "pointGets", fn := fun _ => fun
  | [d1, d2] => { results := [.lit (.bool true)], args := [d1, d2] }
  | _ => none }
def pointGetsRow : OpenClaim := { program := "ytnbfagignbbmfaadoor", sum := "4ee95bfc7708cea6a1cb89e80d48bd65e5292a874b8ecf6101ccd1436cc026bb", func := "pillarbox/pillarboxlaw9.PointGets", spec := "pointGets", inPlace := ["internal/bytealg.IndexByteString", "internal/bytealg.IndexString", "internal/bytealg.CountString", "internal/abi.NoEscape", "internal/bytealg.MakeNoZero"], unfollowed := true, recurses := true, named := ["internal/bytealg.MaxLen", "unicode/utf8.first", "unicode/utf8.acceptRanges"], loops := true, apart := false, laid := [("unicode/utf8.acceptRanges", laid_unicode_utf8_acceptRanges), ("unicode/utf8.first", laid_unicode_utf8_first)] }
def PointGetsSaid : Prop := pointGetsRow.holds Tryd.pinned (OpenSpec.ofChange pointGetsSpec)

/-- ITS FALSE NEIGHBOUR: 'it returns false'. Refute it at one input. -/
def pointGetsWrong : ChangeSpec := { name := "pointGets", fn := fun _ => fun
  | [d1, d2] => { results := [.lit (.bool false)], args := [d1, d2] }
  | _ => none }
def PointGetsWrongFalsely : Prop := pointGetsRow.holds Tryd.pinned (OpenSpec.ofChange pointGetsWrong)

/-- 'pillarboxlaw9.PointWalks': WHATEVER THE INPUT: true; the input reads as it did. -/
def pointWalksSpec : ChangeSpec := { name := "pointWalks", fn := fun _ => fun
  | [d1, d2] => { results := [.lit (.bool true)], args := [d1, d2] }
  | _ => none }
def pointWalksRow : OpenClaim := { program := "ytnbfagignbbmfaadoor", sum := "4ee95bfc7708cea6a1cb89e80d48bd65e5292a874b8ecf6101ccd1436cc026bb", func := "pillarbox/pillarboxlaw9.PointWalks", spec := "pointWalks", inPlace := ["internal/bytealg.IndexByteString", "internal/bytealg.IndexString", "internal/bytealg.CountString", "internal/abi.NoEscape", "internal/bytealg.MakeNoZero"], unfollowed := true, recurses := true, named := ["internal/bytealg.MaxLen", "unicode/utf8.first", "unicode/utf8.acceptRanges"], loops := true, apart := false, laid := [("unicode/utf8.acceptRanges", laid_unicode_utf8_acceptRanges), ("unicode/utf8.first", laid_unicode_utf8_first)] }
def PointWalksSaid : Prop := pointWalksRow.holds Tryd.pinned (OpenSpec.ofChange pointWalksSpec)

/-- ITS FALSE NEIGHBOUR: 'it returns false'. Refute it at one input. -/
def pointWalksWrong : ChangeSpec := { name := "pointWalks", fn := fun _ => fun
  | [d1, d2] => { results := [.lit (.bool false)], args := [d1, d2] }
  | _ => none }
def PointWalksWrongFalsely : Prop := pointWalksRow.holds Tryd.pinned (OpenSpec.ofChange pointWalksWrong)

/-- 'pillarboxlaw9.PointStars': WHATEVER THE INPUT: true; the input reads as it did. -/
def pointStarsSpec : ChangeSpec := { name := "pointStars", fn := fun _ => fun
  | [d1, d2] => { results := [.lit (.bool true)], args := [d1, d2] }
  | _ => none }
def pointStarsRow : OpenClaim := { program := "ytnbfagignbbmfaadoor", sum := "4ee95bfc7708cea6a1cb89e80d48bd65e5292a874b8ecf6101ccd1436cc026bb", func := "pillarbox/pillarboxlaw9.PointStars", spec := "pointStars", inPlace := ["internal/bytealg.IndexByteString", "internal/bytealg.IndexString", "internal/bytealg.CountString", "internal/abi.NoEscape", "internal/bytealg.MakeNoZero"], unfollowed := true, recurses := true, named := ["internal/bytealg.MaxLen", "unicode/utf8.first", "unicode/utf8.acceptRanges"], apart := false, laid := [("unicode/utf8.acceptRanges", laid_unicode_utf8_acceptRanges), ("unicode/utf8.first", laid_unicode_utf8_first)] }
def PointStarsSaid : Prop := pointStarsRow.holds Tryd.pinned (OpenSpec.ofChange pointStarsSpec)

/-- ITS FALSE NEIGHBOUR: 'it returns false'. Refute it at one input. -/
def pointStarsWrong : ChangeSpec := { name := "pointStars", fn := fun _ => fun
  | [d1, d2] => { results := [.lit (.bool false)], args := [d1, d2] }
  | _ => none }
def PointStarsWrongFalsely : Prop := pointStarsRow.holds Tryd.pinned (OpenSpec.ofChange pointStarsWrong)

/-- 'pillarboxlaw9.PointNone': WHATEVER THE INPUT: true; the input reads as it did. -/
def pointNoneSpec : ChangeSpec := { name := "pointNone", fn := fun _ => fun
  | [d1, d2] => { results := [.lit (.bool true)], args := [d1, d2] }
  | _ => none }
def pointNoneRow : OpenClaim := { program := "ytnbfagignbbmfaadoor", sum := "4ee95bfc7708cea6a1cb89e80d48bd65e5292a874b8ecf6101ccd1436cc026bb", func := "pillarbox/pillarboxlaw9.PointNone", spec := "pointNone", inPlace := ["internal/bytealg.IndexByteString", "internal/bytealg.IndexString", "internal/bytealg.CountString", "internal/abi.NoEscape", "internal/bytealg.MakeNoZero"], unfollowed := true, recurses := true, named := ["internal/bytealg.MaxLen", "unicode/utf8.first", "unicode/utf8.acceptRanges"], apart := false, laid := [("unicode/utf8.acceptRanges", laid_unicode_utf8_acceptRanges), ("unicode/utf8.first", laid_unicode_utf8_first)] }
def PointNoneSaid : Prop := pointNoneRow.holds Tryd.pinned (OpenSpec.ofChange pointNoneSpec)

/-- ITS FALSE NEIGHBOUR: 'it returns false'. Refute it at one input. -/
def pointNoneWrong : ChangeSpec := { name := "pointNone", fn := fun _ => fun
  | [d1, d2] => { results := [.lit (.bool false)], args := [d1, d2] }
  | _ => none }
def PointNoneWrongFalsely : Prop := pointNoneRow.holds Tryd.pinned (OpenSpec.ofChange pointNoneWrong)

/-- 'pillarboxlaw9.PointSigns': WHATEVER THE INPUT: true; the input reads as it did. -/
def pointSignsSpec : ChangeSpec := { name := "pointSigns", fn := fun _ => fun
  | [d] => { results := [.lit (.bool true)], args := [d] }
  | _ => none }
def pointSignsRow : OpenClaim := { program := "ytnbfagignbbmfaadoor", sum := "4ee95bfc7708cea6a1cb89e80d48bd65e5292a874b8ecf6101ccd1436cc026bb", func := "pillarbox/pillarboxlaw9.PointSigns", spec := "pointSigns", inPlace := ["internal/bytealg.IndexByteString", "internal/bytealg.IndexString", "internal/bytealg.CountString", "internal/abi.NoEscape", "internal/bytealg.MakeNoZero"], unfollowed := true, recurses := true, named := ["internal/bytealg.MaxLen", "unicode/utf8.first", "unicode/utf8.acceptRanges"], apart := false, laid := [("unicode/utf8.acceptRanges", laid_unicode_utf8_acceptRanges), ("unicode/utf8.first", laid_unicode_utf8_first)] }
def PointSignsSaid : Prop := pointSignsRow.holds Tryd.pinned (OpenSpec.ofChange pointSignsSpec)

/-- ITS FALSE NEIGHBOUR: 'it returns false'. Refute it at one input. -/
def pointSignsWrong : ChangeSpec := { name := "pointSigns", fn := fun _ => fun
  | [d] => { results := [.lit (.bool false)], args := [d] }
  | _ => none }
def PointSignsWrongFalsely : Prop := pointSignsRow.holds Tryd.pinned (OpenSpec.ofChange pointSignsWrong)

/-- 'pillarboxlaw26.CallResolves': WHATEVER THE INPUT: true; the input reads as it did. -/
def callResolvesSpec : ChangeSpec := { name := "callResolves", fn := fun _ => fun
  | [d1, d2] => { results := [.lit (.bool true)], args := [d1, d2] }
  | _ => none }
def callResolvesRow : OpenClaim := { program := "ytnbfagignbbmfaadoor", sum := "4ee95bfc7708cea6a1cb89e80d48bd65e5292a874b8ecf6101ccd1436cc026bb", func := "pillarbox/pillarboxlaw26.CallResolves", spec := "callResolves", inPlace := ["internal/bytealg.IndexByteString", "internal/bytealg.IndexString", "internal/bytealg.CountString", "internal/abi.NoEscape", "internal/bytealg.MakeNoZero"], unfollowed := true, recurses := true, named := ["internal/bytealg.MaxLen", "unicode/utf8.first", "unicode/utf8.acceptRanges"], loops := true, apart := false, laid := [("unicode/utf8.acceptRanges", laid_unicode_utf8_acceptRanges), ("unicode/utf8.first", laid_unicode_utf8_first)] }
def CallResolvesSaid : Prop := callResolvesRow.holds Tryd.pinned (OpenSpec.ofChange callResolvesSpec)

/-- ITS FALSE NEIGHBOUR: 'it returns false'. Refute it at one input. -/
def callResolvesWrong : ChangeSpec := { name := "callResolves", fn := fun _ => fun
  | [d1, d2] => { results := [.lit (.bool false)], args := [d1, d2] }
  | _ => none }
def CallResolvesWrongFalsely : Prop := callResolvesRow.holds Tryd.pinned (OpenSpec.ofChange callResolvesWrong)

/-- 'pillarboxlaw26.CallPlain': WHATEVER THE INPUT: true; the input reads as it did. -/
def callPlainSpec : ChangeSpec := { name := "callPlain", fn := fun _ => fun
  | [d1, d2, d3] => { results := [.lit (.bool true)], args := [d1, d2, d3] }
  | _ => none }
def callPlainRow : OpenClaim := { program := "ytnbfagignbbmfaadoor", sum := "4ee95bfc7708cea6a1cb89e80d48bd65e5292a874b8ecf6101ccd1436cc026bb", func := "pillarbox/pillarboxlaw26.CallPlain", spec := "callPlain", inPlace := ["internal/bytealg.IndexByteString", "internal/bytealg.IndexString", "internal/bytealg.CountString", "internal/abi.NoEscape", "internal/bytealg.MakeNoZero"], unfollowed := true, recurses := true, named := ["internal/bytealg.MaxLen", "unicode/utf8.first", "unicode/utf8.acceptRanges"], loops := true, apart := false, laid := [("unicode/utf8.acceptRanges", laid_unicode_utf8_acceptRanges), ("unicode/utf8.first", laid_unicode_utf8_first)] }
def CallPlainSaid : Prop := callPlainRow.holds Tryd.pinned (OpenSpec.ofChange callPlainSpec)

/-- ITS FALSE NEIGHBOUR: 'it returns false'. Refute it at one input. -/
def callPlainWrong : ChangeSpec := { name := "callPlain", fn := fun _ => fun
  | [d1, d2, d3] => { results := [.lit (.bool false)], args := [d1, d2, d3] }
  | _ => none }
def CallPlainWrongFalsely : Prop := callPlainRow.holds Tryd.pinned (OpenSpec.ofChange callPlainWrong)

/-- 'pillarboxlaw26.CallRefs': WHATEVER THE INPUT: true; the input reads as it did. -/
def callRefsSpec : ChangeSpec := { name := "callRefs", fn := fun _ => fun
  | [d] => { results := [.lit (.bool true)], args := [d] }
  | _ => none }
def callRefsRow : OpenClaim := { program := "ytnbfagignbbmfaadoor", sum := "4ee95bfc7708cea6a1cb89e80d48bd65e5292a874b8ecf6101ccd1436cc026bb", func := "pillarbox/pillarboxlaw26.CallRefs", spec := "callRefs", inPlace := ["internal/bytealg.IndexByteString", "internal/bytealg.IndexString", "internal/bytealg.CountString", "internal/abi.NoEscape", "internal/bytealg.MakeNoZero"], unfollowed := true, recurses := true, named := ["internal/bytealg.MaxLen", "unicode/utf8.first", "unicode/utf8.acceptRanges"], apart := false, laid := [("unicode/utf8.acceptRanges", laid_unicode_utf8_acceptRanges), ("unicode/utf8.first", laid_unicode_utf8_first)] }
def CallRefsSaid : Prop := callRefsRow.holds Tryd.pinned (OpenSpec.ofChange callRefsSpec)

/-- ITS FALSE NEIGHBOUR: 'it returns false'. Refute it at one input. -/
def callRefsWrong : ChangeSpec := { name := "callRefs", fn := fun _ => fun
  | [d] => { results := [.lit (.bool false)], args := [d] }
  | _ => none }
def CallRefsWrongFalsely : Prop := callRefsRow.holds Tryd.pinned (OpenSpec.ofChange callRefsWrong)

/- THE SECOND FORM. 'bulk': how many values and letters a reading holds, each counted each time it is reached (what is shared counts as often as it is met; a slice's spare places count too). A statement '..UptoSaid' is the law's where the arguments, and the package variables that the reading takes, are together of bulk at most 1048576: NARROWER than '..Said'. Prove '..Said' where nothing that the law and all that it calls make is longer than what came in: it says more and counts as full. Else prove '..UptoSaid'. A law counts once. -/
mutual
def uptoBulk {H : Type} : DataW H → Nat
  | .lit (.string bytes) => bytes.length + 1
  | .lit _ => 1
  | .nil => 1
  | .ptr d => uptoBulk d + 1
  | .slice elems spare => uptoBulkAll elems + uptoBulkAll spare + 1
  | .agg parts => uptoBulkAll parts + 1
  | .iface _ d => uptoBulk d + 1
  | .map entries => uptoBulkEntries entries + 1
  | .held _ => 1
def uptoBulkAll {H : Type} : List (DataW H) → Nat
  | [] => 0
  | d :: r => uptoBulk d + uptoBulkAll r
def uptoBulkEntries {H : Type} : List (Lit × DataW H) → Nat
  | [] => 0
  | x :: r => uptoBulkEntry x + uptoBulkEntries r
def uptoBulkEntry {H : Type} : Lit × DataW H → Nat
  | (.string bytes, d) => bytes.length + uptoBulk d + 1
  | (_, d) => uptoBulk d + 1
 end
def uptoSmall : (H : Type) → List (DataW H) → Bool := fun _ ds => decide (uptoBulkAll ds ≤ 1048576)
def OpenSpec.upto (s : _root_.Go.ChangeSpec) : _root_.Go.OpenSpec := { _root_.Go.OpenSpec.ofChange s with cond := some uptoSmall }

/-- 'pillarboxlaw9.PointGets', WHERE WHAT IT READS IS OF BULK AT MOST 1048576: true; the input reads as it did. -/
def pointGetsUptoRow : OpenClaim := { program := "ytnbfagignbbmfaadoor", sum := "4ee95bfc7708cea6a1cb89e80d48bd65e5292a874b8ecf6101ccd1436cc026bb", func := "pillarbox/pillarboxlaw9.PointGets", spec := "pointGets", inPlace := ["internal/bytealg.IndexByteString", "internal/bytealg.IndexString", "internal/bytealg.CountString", "internal/abi.NoEscape", "internal/bytealg.MakeNoZero"], unfollowed := true, recurses := true, named := ["internal/bytealg.MaxLen", "unicode/utf8.first", "unicode/utf8.acceptRanges"], loops := true, apart := false, laid := [("unicode/utf8.acceptRanges", laid_unicode_utf8_acceptRanges), ("unicode/utf8.first", laid_unicode_utf8_first)], narrowed := true }
def PointGetsUptoSaid : Prop := pointGetsUptoRow.holds Tryd.pinned (OpenSpec.upto pointGetsSpec)

/-- 'pillarboxlaw9.PointWalks', WHERE WHAT IT READS IS OF BULK AT MOST 1048576: true; the input reads as it did. -/
def pointWalksUptoRow : OpenClaim := { program := "ytnbfagignbbmfaadoor", sum := "4ee95bfc7708cea6a1cb89e80d48bd65e5292a874b8ecf6101ccd1436cc026bb", func := "pillarbox/pillarboxlaw9.PointWalks", spec := "pointWalks", inPlace := ["internal/bytealg.IndexByteString", "internal/bytealg.IndexString", "internal/bytealg.CountString", "internal/abi.NoEscape", "internal/bytealg.MakeNoZero"], unfollowed := true, recurses := true, named := ["internal/bytealg.MaxLen", "unicode/utf8.first", "unicode/utf8.acceptRanges"], loops := true, apart := false, laid := [("unicode/utf8.acceptRanges", laid_unicode_utf8_acceptRanges), ("unicode/utf8.first", laid_unicode_utf8_first)], narrowed := true }
def PointWalksUptoSaid : Prop := pointWalksUptoRow.holds Tryd.pinned (OpenSpec.upto pointWalksSpec)

/-- 'pillarboxlaw9.PointStars', WHERE WHAT IT READS IS OF BULK AT MOST 1048576: true; the input reads as it did. -/
def pointStarsUptoRow : OpenClaim := { program := "ytnbfagignbbmfaadoor", sum := "4ee95bfc7708cea6a1cb89e80d48bd65e5292a874b8ecf6101ccd1436cc026bb", func := "pillarbox/pillarboxlaw9.PointStars", spec := "pointStars", inPlace := ["internal/bytealg.IndexByteString", "internal/bytealg.IndexString", "internal/bytealg.CountString", "internal/abi.NoEscape", "internal/bytealg.MakeNoZero"], unfollowed := true, recurses := true, named := ["internal/bytealg.MaxLen", "unicode/utf8.first", "unicode/utf8.acceptRanges"], apart := false, laid := [("unicode/utf8.acceptRanges", laid_unicode_utf8_acceptRanges), ("unicode/utf8.first", laid_unicode_utf8_first)], narrowed := true }
def PointStarsUptoSaid : Prop := pointStarsUptoRow.holds Tryd.pinned (OpenSpec.upto pointStarsSpec)

/-- 'pillarboxlaw9.PointNone', WHERE WHAT IT READS IS OF BULK AT MOST 1048576: true; the input reads as it did. -/
def pointNoneUptoRow : OpenClaim := { program := "ytnbfagignbbmfaadoor", sum := "4ee95bfc7708cea6a1cb89e80d48bd65e5292a874b8ecf6101ccd1436cc026bb", func := "pillarbox/pillarboxlaw9.PointNone", spec := "pointNone", inPlace := ["internal/bytealg.IndexByteString", "internal/bytealg.IndexString", "internal/bytealg.CountString", "internal/abi.NoEscape", "internal/bytealg.MakeNoZero"], unfollowed := true, recurses := true, named := ["internal/bytealg.MaxLen", "unicode/utf8.first", "unicode/utf8.acceptRanges"], apart := false, laid := [("unicode/utf8.acceptRanges", laid_unicode_utf8_acceptRanges), ("unicode/utf8.first", laid_unicode_utf8_first)], narrowed := true }
def PointNoneUptoSaid : Prop := pointNoneUptoRow.holds Tryd.pinned (OpenSpec.upto pointNoneSpec)

/-- 'pillarboxlaw9.PointSigns', WHERE WHAT IT READS IS OF BULK AT MOST 1048576: true; the input reads as it did. -/
def pointSignsUptoRow : OpenClaim := { program := "ytnbfagignbbmfaadoor", sum := "4ee95bfc7708cea6a1cb89e80d48bd65e5292a874b8ecf6101ccd1436cc026bb", func := "pillarbox/pillarboxlaw9.PointSigns", spec := "pointSigns", inPlace := ["internal/bytealg.IndexByteString", "internal/bytealg.IndexString", "internal/bytealg.CountString", "internal/abi.NoEscape", "internal/bytealg.MakeNoZero"], unfollowed := true, recurses := true, named := ["internal/bytealg.MaxLen", "unicode/utf8.first", "unicode/utf8.acceptRanges"], apart := false, laid := [("unicode/utf8.acceptRanges", laid_unicode_utf8_acceptRanges), ("unicode/utf8.first", laid_unicode_utf8_first)], narrowed := true }
def PointSignsUptoSaid : Prop := pointSignsUptoRow.holds Tryd.pinned (OpenSpec.upto pointSignsSpec)

/-- 'pillarboxlaw26.CallResolves', WHERE WHAT IT READS IS OF BULK AT MOST 1048576: true; the input reads as it did. -/
def callResolvesUptoRow : OpenClaim := { program := "ytnbfagignbbmfaadoor", sum := "4ee95bfc7708cea6a1cb89e80d48bd65e5292a874b8ecf6101ccd1436cc026bb", func := "pillarbox/pillarboxlaw26.CallResolves", spec := "callResolves", inPlace := ["internal/bytealg.IndexByteString", "internal/bytealg.IndexString", "internal/bytealg.CountString", "internal/abi.NoEscape", "internal/bytealg.MakeNoZero"], unfollowed := true, recurses := true, named := ["internal/bytealg.MaxLen", "unicode/utf8.first", "unicode/utf8.acceptRanges"], loops := true, apart := false, laid := [("unicode/utf8.acceptRanges", laid_unicode_utf8_acceptRanges), ("unicode/utf8.first", laid_unicode_utf8_first)], narrowed := true }
def CallResolvesUptoSaid : Prop := callResolvesUptoRow.holds Tryd.pinned (OpenSpec.upto callResolvesSpec)

/-- 'pillarboxlaw26.CallPlain', WHERE WHAT IT READS IS OF BULK AT MOST 1048576: true; the input reads as it did. -/
def callPlainUptoRow : OpenClaim := { program := "ytnbfagignbbmfaadoor", sum := "4ee95bfc7708cea6a1cb89e80d48bd65e5292a874b8ecf6101ccd1436cc026bb", func := "pillarbox/pillarboxlaw26.CallPlain", spec := "callPlain", inPlace := ["internal/bytealg.IndexByteString", "internal/bytealg.IndexString", "internal/bytealg.CountString", "internal/abi.NoEscape", "internal/bytealg.MakeNoZero"], unfollowed := true, recurses := true, named := ["internal/bytealg.MaxLen", "unicode/utf8.first", "unicode/utf8.acceptRanges"], loops := true, apart := false, laid := [("unicode/utf8.acceptRanges", laid_unicode_utf8_acceptRanges), ("unicode/utf8.first", laid_unicode_utf8_first)], narrowed := true }
def CallPlainUptoSaid : Prop := callPlainUptoRow.holds Tryd.pinned (OpenSpec.upto callPlainSpec)

/-- 'pillarboxlaw26.CallRefs', WHERE WHAT IT READS IS OF BULK AT MOST 1048576: true; the input reads as it did. -/
def callRefsUptoRow : OpenClaim := { program := "ytnbfagignbbmfaadoor", sum := "4ee95bfc7708cea6a1cb89e80d48bd65e5292a874b8ecf6101ccd1436cc026bb", func := "pillarbox/pillarboxlaw26.CallRefs", spec := "callRefs", inPlace := ["internal/bytealg.IndexByteString", "internal/bytealg.IndexString", "internal/bytealg.CountString", "internal/abi.NoEscape", "internal/bytealg.MakeNoZero"], unfollowed := true, recurses := true, named := ["internal/bytealg.MaxLen", "unicode/utf8.first", "unicode/utf8.acceptRanges"], apart := false, laid := [("unicode/utf8.acceptRanges", laid_unicode_utf8_acceptRanges), ("unicode/utf8.first", laid_unicode_utf8_first)], narrowed := true }
def CallRefsUptoSaid : Prop := callRefsUptoRow.holds Tryd.pinned (OpenSpec.upto callRefsSpec)

end Rows
end Go.Proofs.YtnbfagignbbmfaaDoor
