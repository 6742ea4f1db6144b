/-
  NARROWER THAN 'FOR EVERY INPUT', by the rows' own cells (each row's printed sentence says how): BisimStable: laid · BisimClasses: laid · BisimWays: laid · BisimLeast: laid · BisimAlike: laid · BisimSplits: laid · BisimOwns: laid · BisimCopies: laid.
  DERIVED. THE GIVEN ROWS OF THIS SEAT. 8 by the template 'for every input the law returns true; each argument reads behind the call as it read before'; 0 by the template 'total and deterministic' (their statements: YtciniaabmjoiiaaDoorTotals.lean).
  GIVEN WITH THE SEED: the statements are not yours to turn. If you find one false, say at which input.
  Laid BY PROGRAM, IN A SANDBOX (cutbox-rows.mjs): the forced cells as the released guide's own fill.sh prints them over the translation 67902601e9920012… (all of the seat's roots in one cut). By AI agents, Wed Nov 11 2026. No macro, syntax, notation, axiom, sorry.
-/
import Derived.Test.YtciniaabmjoiiaaDoorChecked
import GoSem.Claim
import GoSem.ClaimJoined
import GoSem.ClaimMapViews
import Derived.JoinedTies
import Derived.KernelRfl
namespace Go.Proofs.YtciniaabmjoiiaaDoor
/- THE CELL 'sum', in the pinned program and in every row, IS THE sha256 OF THE DUMP (.gsa) THAT YtciniaabmjoiiaaDoorProg.lean LOADS. Nothing in Lean hashes anything: it is a label: what it is worth is what the hold of that sum in a sandbox is worth. -/
noncomputable def Tryd.pinned : Pinned := { name := "ytciniaabmjoiiaadoor", sum := "67902601e9920012e3c1e9a3b793b19e7a33b585dd8b496029f0aa643bdb16b7", checked := Tryd.checked }
namespace Rows
def none {H : Type} : Left H := { results := [], args := [] }

/- WHAT THE LISTED PACKAGE-LEVEL VARIABLES READ AS WHEN THE CALL BEGINS. Each datum BY PROGRAM (the guide's laid-datum.mjs) off the statement by which the dump's own 'gosem.cut.vars' lays the variable. In a bare row this is a premise. The card (YtciniaabmjoiiaaDoorCards.lean) ties it to the program's text. -/
def laid_math_bits_deBruijn32tab {H : Type} : DataW H := .agg [.lit (.int .u8 0), .lit (.int .u8 1), .lit (.int .u8 28), .lit (.int .u8 2), .lit (.int .u8 29), .lit (.int .u8 14), .lit (.int .u8 24), .lit (.int .u8 3), .lit (.int .u8 30), .lit (.int .u8 22), .lit (.int .u8 20), .lit (.int .u8 15), .lit (.int .u8 25), .lit (.int .u8 17), .lit (.int .u8 4), .lit (.int .u8 8), .lit (.int .u8 31), .lit (.int .u8 27), .lit (.int .u8 13), .lit (.int .u8 23), .lit (.int .u8 21), .lit (.int .u8 19), .lit (.int .u8 16), .lit (.int .u8 7), .lit (.int .u8 26), .lit (.int .u8 12), .lit (.int .u8 18), .lit (.int .u8 6), .lit (.int .u8 11), .lit (.int .u8 5), .lit (.int .u8 10), .lit (.int .u8 9)]
def laid_math_bits_deBruijn64tab {H : Type} : DataW H := .agg [.lit (.int .u8 0), .lit (.int .u8 1), .lit (.int .u8 56), .lit (.int .u8 2), .lit (.int .u8 57), .lit (.int .u8 49), .lit (.int .u8 28), .lit (.int .u8 3), .lit (.int .u8 61), .lit (.int .u8 58), .lit (.int .u8 42), .lit (.int .u8 50), .lit (.int .u8 38), .lit (.int .u8 29), .lit (.int .u8 17), .lit (.int .u8 4), .lit (.int .u8 62), .lit (.int .u8 47), .lit (.int .u8 59), .lit (.int .u8 36), .lit (.int .u8 45), .lit (.int .u8 43), .lit (.int .u8 51), .lit (.int .u8 22), .lit (.int .u8 53), .lit (.int .u8 39), .lit (.int .u8 33), .lit (.int .u8 30), .lit (.int .u8 24), .lit (.int .u8 18), .lit (.int .u8 12), .lit (.int .u8 5), .lit (.int .u8 63), .lit (.int .u8 55), .lit (.int .u8 48), .lit (.int .u8 27), .lit (.int .u8 60), .lit (.int .u8 41), .lit (.int .u8 37), .lit (.int .u8 16), .lit (.int .u8 46), .lit (.int .u8 35), .lit (.int .u8 44), .lit (.int .u8 21), .lit (.int .u8 52), .lit (.int .u8 32), .lit (.int .u8 23), .lit (.int .u8 11), .lit (.int .u8 54), .lit (.int .u8 26), .lit (.int .u8 40), .lit (.int .u8 15), .lit (.int .u8 34), .lit (.int .u8 20), .lit (.int .u8 31), .lit (.int .u8 10), .lit (.int .u8 25), .lit (.int .u8 14), .lit (.int .u8 19), .lit (.int .u8 9), .lit (.int .u8 13), .lit (.int .u8 8), .lit (.int .u8 7), .lit (.int .u8 6)]
def laid_internal_strconv_uint64pow10 {H : Type} : DataW H := .agg [.lit (.int .u64 1), .lit (.int .u64 10), .lit (.int .u64 100), .lit (.int .u64 1000), .lit (.int .u64 10000), .lit (.int .u64 100000), .lit (.int .u64 1000000), .lit (.int .u64 10000000), .lit (.int .u64 100000000), .lit (.int .u64 1000000000), .lit (.int .u64 10000000000), .lit (.int .u64 100000000000), .lit (.int .u64 1000000000000), .lit (.int .u64 10000000000000), .lit (.int .u64 100000000000000), .lit (.int .u64 1000000000000000), .lit (.int .u64 10000000000000000), .lit (.int .u64 100000000000000000), .lit (.int .u64 1000000000000000000), .lit (.int .u64 10000000000000000000)]

/-- 'tendrillaw05.BisimStable': WHATEVER THE INPUT: true; the input reads as it did. -/
def bisimStableSpec : ChangeSpec := { name := "bisimStable", fn := fun _ => fun
  | [d] => { results := [.lit (.bool true)], args := [d] }
  | _ => none }
def bisimStableRow : OpenClaim := { program := "ytciniaabmjoiiaadoor", sum := "67902601e9920012e3c1e9a3b793b19e7a33b585dd8b496029f0aa643bdb16b7", func := "tendril/tendrillaw05.BisimStable", spec := "bisimStable", inPlace := ["internal/abi.NoEscape"], unfollowed := true, recurses := true, named := ["internal/strconv.uint64pow10", "math/bits.deBruijn32tab", "math/bits.deBruijn64tab"], plainKeys := false, apart := false, laid := [("math/bits.deBruijn32tab", laid_math_bits_deBruijn32tab), ("math/bits.deBruijn64tab", laid_math_bits_deBruijn64tab), ("internal/strconv.uint64pow10", laid_internal_strconv_uint64pow10)] }
def BisimStableSaid : Prop := bisimStableRow.holds Tryd.pinned (OpenSpec.ofChange bisimStableSpec)

/-- ITS FALSE NEIGHBOUR: 'it returns false'. Refute it at one input. -/
def bisimStableWrong : ChangeSpec := { name := "bisimStable", fn := fun _ => fun
  | [d] => { results := [.lit (.bool false)], args := [d] }
  | _ => none }
def BisimStableWrongFalsely : Prop := bisimStableRow.holds Tryd.pinned (OpenSpec.ofChange bisimStableWrong)

/-- 'tendrillaw05.BisimClasses': WHATEVER THE INPUT: true; the input reads as it did. -/
def bisimClassesSpec : ChangeSpec := { name := "bisimClasses", fn := fun _ => fun
  | [d1, d2, d3] => { results := [.lit (.bool true)], args := [d1, d2, d3] }
  | _ => none }
def bisimClassesRow : OpenClaim := { program := "ytciniaabmjoiiaadoor", sum := "67902601e9920012e3c1e9a3b793b19e7a33b585dd8b496029f0aa643bdb16b7", func := "tendril/tendrillaw05.BisimClasses", spec := "bisimClasses", inPlace := ["internal/abi.NoEscape"], unfollowed := true, recurses := true, named := ["internal/strconv.uint64pow10", "math/bits.deBruijn32tab", "math/bits.deBruijn64tab"], plainKeys := false, apart := false, laid := [("math/bits.deBruijn32tab", laid_math_bits_deBruijn32tab), ("math/bits.deBruijn64tab", laid_math_bits_deBruijn64tab), ("internal/strconv.uint64pow10", laid_internal_strconv_uint64pow10)] }
def BisimClassesSaid : Prop := bisimClassesRow.holds Tryd.pinned (OpenSpec.ofChange bisimClassesSpec)

/-- ITS FALSE NEIGHBOUR: 'it returns false'. Refute it at one input. -/
def bisimClassesWrong : ChangeSpec := { name := "bisimClasses", fn := fun _ => fun
  | [d1, d2, d3] => { results := [.lit (.bool false)], args := [d1, d2, d3] }
  | _ => none }
def BisimClassesWrongFalsely : Prop := bisimClassesRow.holds Tryd.pinned (OpenSpec.ofChange bisimClassesWrong)

/-- 'tendrillaw05.BisimWays': WHATEVER THE INPUT: true; the input reads as it did. -/
def bisimWaysSpec : ChangeSpec := { name := "bisimWays", fn := fun _ => fun
  | [d] => { results := [.lit (.bool true)], args := [d] }
  | _ => none }
def bisimWaysRow : OpenClaim := { program := "ytciniaabmjoiiaadoor", sum := "67902601e9920012e3c1e9a3b793b19e7a33b585dd8b496029f0aa643bdb16b7", func := "tendril/tendrillaw05.BisimWays", spec := "bisimWays", inPlace := ["internal/abi.NoEscape"], unfollowed := true, recurses := true, named := ["internal/strconv.uint64pow10", "math/bits.deBruijn32tab", "math/bits.deBruijn64tab"], plainKeys := false, apart := false, laid := [("math/bits.deBruijn32tab", laid_math_bits_deBruijn32tab), ("math/bits.deBruijn64tab", laid_math_bits_deBruijn64tab), ("internal/strconv.uint64pow10", laid_internal_strconv_uint64pow10)] }
def BisimWaysSaid : Prop := bisimWaysRow.holds Tryd.pinned (OpenSpec.ofChange bisimWaysSpec)

/-- ITS FALSE NEIGHBOUR: 'it returns false'. Refute it at one input. -/
def bisimWaysWrong : ChangeSpec := { name := "bisimWays", fn := fun _ => fun
  | [d] => { results := [.lit (.bool false)], args := [d] }
  | _ => none }
def BisimWaysWrongFalsely : Prop := bisimWaysRow.holds Tryd.pinned (OpenSpec.ofChange bisimWaysWrong)

/-- 'tendrillaw05.BisimLeast': WHATEVER THE INPUT: true; the input reads as it did. -/
def bisimLeastSpec : ChangeSpec := { name := "bisimLeast", fn := fun _ => fun
  | [d] => { results := [.lit (.bool true)], args := [d] }
  | _ => none }
def bisimLeastRow : OpenClaim := { program := "ytciniaabmjoiiaadoor", sum := "67902601e9920012e3c1e9a3b793b19e7a33b585dd8b496029f0aa643bdb16b7", func := "tendril/tendrillaw05.BisimLeast", spec := "bisimLeast", inPlace := ["internal/abi.NoEscape"], unfollowed := true, recurses := true, named := ["internal/strconv.uint64pow10", "math/bits.deBruijn32tab", "math/bits.deBruijn64tab"], plainKeys := false, apart := false, laid := [("math/bits.deBruijn32tab", laid_math_bits_deBruijn32tab), ("math/bits.deBruijn64tab", laid_math_bits_deBruijn64tab), ("internal/strconv.uint64pow10", laid_internal_strconv_uint64pow10)] }
def BisimLeastSaid : Prop := bisimLeastRow.holds Tryd.pinned (OpenSpec.ofChange bisimLeastSpec)

/-- ITS FALSE NEIGHBOUR: 'it returns false'. Refute it at one input. -/
def bisimLeastWrong : ChangeSpec := { name := "bisimLeast", fn := fun _ => fun
  | [d] => { results := [.lit (.bool false)], args := [d] }
  | _ => none }
def BisimLeastWrongFalsely : Prop := bisimLeastRow.holds Tryd.pinned (OpenSpec.ofChange bisimLeastWrong)

/-- 'tendrillaw05.BisimAlike': WHATEVER THE INPUT: true; the input reads as it did. -/
def bisimAlikeSpec : ChangeSpec := { name := "bisimAlike", fn := fun _ => fun
  | [d1, d2] => { results := [.lit (.bool true)], args := [d1, d2] }
  | _ => none }
def bisimAlikeRow : OpenClaim := { program := "ytciniaabmjoiiaadoor", sum := "67902601e9920012e3c1e9a3b793b19e7a33b585dd8b496029f0aa643bdb16b7", func := "tendril/tendrillaw05.BisimAlike", spec := "bisimAlike", inPlace := ["internal/abi.NoEscape"], unfollowed := true, recurses := true, named := ["internal/strconv.uint64pow10", "math/bits.deBruijn32tab", "math/bits.deBruijn64tab"], plainKeys := false, apart := false, laid := [("math/bits.deBruijn32tab", laid_math_bits_deBruijn32tab), ("math/bits.deBruijn64tab", laid_math_bits_deBruijn64tab), ("internal/strconv.uint64pow10", laid_internal_strconv_uint64pow10)] }
def BisimAlikeSaid : Prop := bisimAlikeRow.holds Tryd.pinned (OpenSpec.ofChange bisimAlikeSpec)

/-- ITS FALSE NEIGHBOUR: 'it returns false'. Refute it at one input. -/
def bisimAlikeWrong : ChangeSpec := { name := "bisimAlike", fn := fun _ => fun
  | [d1, d2] => { results := [.lit (.bool false)], args := [d1, d2] }
  | _ => none }
def BisimAlikeWrongFalsely : Prop := bisimAlikeRow.holds Tryd.pinned (OpenSpec.ofChange bisimAlikeWrong)

/-- 'tendrillaw05.BisimSplits': WHATEVER THE INPUT: true; the input reads as it did. -/
def bisimSplitsSpec : ChangeSpec := { name := "bisimSplits", fn := fun _ => fun
  | [d1, d2] => { results := [.lit (.bool true)], args := [d1, d2] }
  | _ => none }
def bisimSplitsRow : OpenClaim := { program := "ytciniaabmjoiiaadoor", sum := "67902601e9920012e3c1e9a3b793b19e7a33b585dd8b496029f0aa643bdb16b7", func := "tendril/tendrillaw05.BisimSplits", spec := "bisimSplits", inPlace := ["internal/abi.NoEscape"], unfollowed := true, recurses := true, named := ["internal/strconv.uint64pow10", "math/bits.deBruijn32tab", "math/bits.deBruijn64tab"], plainKeys := false, apart := false, laid := [("math/bits.deBruijn32tab", laid_math_bits_deBruijn32tab), ("math/bits.deBruijn64tab", laid_math_bits_deBruijn64tab), ("internal/strconv.uint64pow10", laid_internal_strconv_uint64pow10)] }
def BisimSplitsSaid : Prop := bisimSplitsRow.holds Tryd.pinned (OpenSpec.ofChange bisimSplitsSpec)

/-- ITS FALSE NEIGHBOUR: 'it returns false'. Refute it at one input. -/
def bisimSplitsWrong : ChangeSpec := { name := "bisimSplits", fn := fun _ => fun
  | [d1, d2] => { results := [.lit (.bool false)], args := [d1, d2] }
  | _ => none }
def BisimSplitsWrongFalsely : Prop := bisimSplitsRow.holds Tryd.pinned (OpenSpec.ofChange bisimSplitsWrong)

/-- 'tendrillaw05.BisimOwns': WHATEVER THE INPUT: true; the input reads as it did. -/
def bisimOwnsSpec : ChangeSpec := { name := "bisimOwns", fn := fun _ => fun
  | [d] => { results := [.lit (.bool true)], args := [d] }
  | _ => none }
def bisimOwnsRow : OpenClaim := { program := "ytciniaabmjoiiaadoor", sum := "67902601e9920012e3c1e9a3b793b19e7a33b585dd8b496029f0aa643bdb16b7", func := "tendril/tendrillaw05.BisimOwns", spec := "bisimOwns", inPlace := ["internal/abi.NoEscape"], unfollowed := true, recurses := true, named := ["internal/strconv.uint64pow10", "math/bits.deBruijn32tab", "math/bits.deBruijn64tab"], plainKeys := false, apart := false, laid := [("math/bits.deBruijn32tab", laid_math_bits_deBruijn32tab), ("math/bits.deBruijn64tab", laid_math_bits_deBruijn64tab), ("internal/strconv.uint64pow10", laid_internal_strconv_uint64pow10)] }
def BisimOwnsSaid : Prop := bisimOwnsRow.holds Tryd.pinned (OpenSpec.ofChange bisimOwnsSpec)

/-- ITS FALSE NEIGHBOUR: 'it returns false'. Refute it at one input. -/
def bisimOwnsWrong : ChangeSpec := { name := "bisimOwns", fn := fun _ => fun
  | [d] => { results := [.lit (.bool false)], args := [d] }
  | _ => none }
def BisimOwnsWrongFalsely : Prop := bisimOwnsRow.holds Tryd.pinned (OpenSpec.ofChange bisimOwnsWrong)

/-- 'tendrillaw05.BisimCopies': WHATEVER THE INPUT: true; the input reads as it did. -/
def bisimCopiesSpec : ChangeSpec := { name := "bisimCopies", fn := fun _ => fun
  | [d] => { results := [.lit (.bool true)], args := [d] }
  | _ => none }
def bisimCopiesRow : OpenClaim := { program := "ytciniaabmjoiiaadoor", sum := "67902601e9920012e3c1e9a3b793b19e7a33b585dd8b496029f0aa643bdb16b7", func := "tendril/tendrillaw05.BisimCopies", spec := "bisimCopies", inPlace := ["internal/abi.NoEscape"], unfollowed := true, recurses := true, named := ["internal/strconv.uint64pow10", "math/bits.deBruijn32tab", "math/bits.deBruijn64tab"], plainKeys := false, apart := false, laid := [("math/bits.deBruijn32tab", laid_math_bits_deBruijn32tab), ("math/bits.deBruijn64tab", laid_math_bits_deBruijn64tab), ("internal/strconv.uint64pow10", laid_internal_strconv_uint64pow10)] }
def BisimCopiesSaid : Prop := bisimCopiesRow.holds Tryd.pinned (OpenSpec.ofChange bisimCopiesSpec)

/-- ITS FALSE NEIGHBOUR: 'it returns false'. Refute it at one input. -/
def bisimCopiesWrong : ChangeSpec := { name := "bisimCopies", fn := fun _ => fun
  | [d] => { results := [.lit (.bool false)], args := [d] }
  | _ => none }
def BisimCopiesWrongFalsely : Prop := bisimCopiesRow.holds Tryd.pinned (OpenSpec.ofChange bisimCopiesWrong)

/- THE SECOND FORM. 'bulk': how many values and letters a reading holds, each counted each time it is reached (what is shared counts as often as it is met; a slice's spare places count too). A statement '..UptoSaid' is the law's where the arguments, and the package variables that the reading takes, are together of bulk at most 1048576: NARROWER than '..Said'. Prove '..Said' where nothing that the law and all that it calls make is longer than what came in: it says more and counts as full. Else prove '..UptoSaid'. A law counts once. -/
mutual
def uptoBulk {H : Type} : DataW H → Nat
  | .lit (.string bytes) => bytes.length + 1
  | .lit _ => 1
  | .nil => 1
  | .ptr d => uptoBulk d + 1
  | .slice elems spare => uptoBulkAll elems + uptoBulkAll spare + 1
  | .agg parts => uptoBulkAll parts + 1
  | .iface _ d => uptoBulk d + 1
  | .map entries => uptoBulkEntries entries + 1
  | .held _ => 1
def uptoBulkAll {H : Type} : List (DataW H) → Nat
  | [] => 0
  | d :: r => uptoBulk d + uptoBulkAll r
def uptoBulkEntries {H : Type} : List (Lit × DataW H) → Nat
  | [] => 0
  | x :: r => uptoBulkEntry x + uptoBulkEntries r
def uptoBulkEntry {H : Type} : Lit × DataW H → Nat
  | (.string bytes, d) => bytes.length + uptoBulk d + 1
  | (_, d) => uptoBulk d + 1
 end
def uptoSmall : (H : Type) → List (DataW H) → Bool := fun _ ds => decide (uptoBulkAll ds ≤ 1048576)
def OpenSpec.upto (s : _root_.Go.ChangeSpec) : _root_.Go.OpenSpec := { _root_.Go.OpenSpec.ofChange s with cond := some uptoSmall }

/-- 'tendrillaw05.BisimStable', WHERE WHAT IT READS IS OF BULK AT MOST 1048576: true; the input reads as it did. -/
def bisimStableUptoRow : OpenClaim := { program := "ytciniaabmjoiiaadoor", sum := "67902601e9920012e3c1e9a3b793b19e7a33b585dd8b496029f0aa643bdb16b7", func := "tendril/tendrillaw05.BisimStable", spec := "bisimStable", inPlace := ["internal/abi.NoEscape"], unfollowed := true, recurses := true, named := ["internal/strconv.uint64pow10", "math/bits.deBruijn32tab", "math/bits.deBruijn64tab"], plainKeys := false, apart := false, laid := [("math/bits.deBruijn32tab", laid_math_bits_deBruijn32tab), ("math/bits.deBruijn64tab", laid_math_bits_deBruijn64tab), ("internal/strconv.uint64pow10", laid_internal_strconv_uint64pow10)], narrowed := true }
def BisimStableUptoSaid : Prop := bisimStableUptoRow.holds Tryd.pinned (OpenSpec.upto bisimStableSpec)

/-- 'tendrillaw05.BisimClasses', WHERE WHAT IT READS IS OF BULK AT MOST 1048576: true; the input reads as it did. -/
def bisimClassesUptoRow : OpenClaim := { program := "ytciniaabmjoiiaadoor", sum := "67902601e9920012e3c1e9a3b793b19e7a33b585dd8b496029f0aa643bdb16b7", func := "tendril/tendrillaw05.BisimClasses", spec := "bisimClasses", inPlace := ["internal/abi.NoEscape"], unfollowed := true, recurses := true, named := ["internal/strconv.uint64pow10", "math/bits.deBruijn32tab", "math/bits.deBruijn64tab"], plainKeys := false, apart := false, laid := [("math/bits.deBruijn32tab", laid_math_bits_deBruijn32tab), ("math/bits.deBruijn64tab", laid_math_bits_deBruijn64tab), ("internal/strconv.uint64pow10", laid_internal_strconv_uint64pow10)], narrowed := true }
def BisimClassesUptoSaid : Prop := bisimClassesUptoRow.holds Tryd.pinned (OpenSpec.upto bisimClassesSpec)

/-- 'tendrillaw05.BisimWays', WHERE WHAT IT READS IS OF BULK AT MOST 1048576: true; the input reads as it did. -/
def bisimWaysUptoRow : OpenClaim := { program := "ytciniaabmjoiiaadoor", sum := "67902601e9920012e3c1e9a3b793b19e7a33b585dd8b496029f0aa643bdb16b7", func := "tendril/tendrillaw05.BisimWays", spec := "bisimWays", inPlace := ["internal/abi.NoEscape"], unfollowed := true, recurses := true, named := ["internal/strconv.uint64pow10", "math/bits.deBruijn32tab", "math/bits.deBruijn64tab"], plainKeys := false, apart := false, laid := [("math/bits.deBruijn32tab", laid_math_bits_deBruijn32tab), ("math/bits.deBruijn64tab", laid_math_bits_deBruijn64tab), ("internal/strconv.uint64pow10", laid_internal_strconv_uint64pow10)], narrowed := true }
def BisimWaysUptoSaid : Prop := bisimWaysUptoRow.holds Tryd.pinned (OpenSpec.upto bisimWaysSpec)

/-- 'tendrillaw05.BisimLeast', WHERE WHAT IT READS IS OF BULK AT MOST 1048576: true; the input reads as it did. -/
def bisimLeastUptoRow : OpenClaim := { program := "ytciniaabmjoiiaadoor", sum := "67902601e9920012e3c1e9a3b793b19e7a33b585dd8b496029f0aa643bdb16b7", func := "tendril/tendrillaw05.BisimLeast", spec := "bisimLeast", inPlace := ["internal/abi.NoEscape"], unfollowed := true, recurses := true, named := ["internal/strconv.uint64pow10", "math/bits.deBruijn32tab", "math/bits.deBruijn64tab"], plainKeys := false, apart := false, laid := [("math/bits.deBruijn32tab", laid_math_bits_deBruijn32tab), ("math/bits.deBruijn64tab", laid_math_bits_deBruijn64tab), ("internal/strconv.uint64pow10", laid_internal_strconv_uint64pow10)], narrowed := true }
def BisimLeastUptoSaid : Prop := bisimLeastUptoRow.holds Tryd.pinned (OpenSpec.upto bisimLeastSpec)

/-- 'tendrillaw05.BisimAlike', WHERE WHAT IT READS IS OF BULK AT MOST 1048576: true; the input reads as it did. -/
def bisimAlikeUptoRow : OpenClaim := { program := "ytciniaabmjoiiaadoor", sum := "67902601e9920012e3c1e9a3b793b19e7a33b585dd8b496029f0aa643bdb16b7", func := "tendril/tendrillaw05.BisimAlike", spec := "bisimAlike", inPlace := ["internal/abi.NoEscape"], unfollowed := true, recurses := true, named := ["internal/strconv.uint64pow10", "math/bits.deBruijn32tab", "math/bits.deBruijn64tab"], plainKeys := false, apart := false, laid := [("math/bits.deBruijn32tab", laid_math_bits_deBruijn32tab), ("math/bits.deBruijn64tab", laid_math_bits_deBruijn64tab), ("internal/strconv.uint64pow10", laid_internal_strconv_uint64pow10)], narrowed := true }
def BisimAlikeUptoSaid : Prop := bisimAlikeUptoRow.holds Tryd.pinned (OpenSpec.upto bisimAlikeSpec)

/-- 'tendrillaw05.BisimSplits', WHERE WHAT IT READS IS OF BULK AT MOST 1048576: true; the input reads as it did. -/
def bisimSplitsUptoRow : OpenClaim := { program := "ytciniaabmjoiiaadoor", sum := "67902601e9920012e3c1e9a3b793b19e7a33b585dd8b496029f0aa643bdb16b7", func := "tendril/tendrillaw05.BisimSplits", spec := "bisimSplits", inPlace := ["internal/abi.NoEscape"], unfollowed := true, recurses := true, named := ["internal/strconv.uint64pow10", "math/bits.deBruijn32tab", "math/bits.deBruijn64tab"], plainKeys := false, apart := false, laid := [("math/bits.deBruijn32tab", laid_math_bits_deBruijn32tab), ("math/bits.deBruijn64tab", laid_math_bits_deBruijn64tab), ("internal/strconv.uint64pow10", laid_internal_strconv_uint64pow10)], narrowed := true }
def BisimSplitsUptoSaid : Prop := bisimSplitsUptoRow.holds Tryd.pinned (OpenSpec.upto bisimSplitsSpec)

/-- 'tendrillaw05.BisimOwns', WHERE WHAT IT READS IS OF BULK AT MOST 1048576: true; the input reads as it did. -/
def bisimOwnsUptoRow : OpenClaim := { program := "ytciniaabmjoiiaadoor", sum := "67902601e9920012e3c1e9a3b793b19e7a33b585dd8b496029f0aa643bdb16b7", func := "tendril/tendrillaw05.BisimOwns", spec := "bisimOwns", inPlace := ["internal/abi.NoEscape"], unfollowed := true, recurses := true, named := ["internal/strconv.uint64pow10", "math/bits.deBruijn32tab", "math/bits.deBruijn64tab"], plainKeys := false, apart := false, laid := [("math/bits.deBruijn32tab", laid_math_bits_deBruijn32tab), ("math/bits.deBruijn64tab", laid_math_bits_deBruijn64tab), ("internal/strconv.uint64pow10", laid_internal_strconv_uint64pow10)], narrowed := true }
def BisimOwnsUptoSaid : Prop := bisimOwnsUptoRow.holds Tryd.pinned (OpenSpec.upto bisimOwnsSpec)

/-- 'tendrillaw05.BisimCopies', WHERE WHAT IT READS IS OF BULK AT MOST 1048576: true; the input reads as it did. -/
def bisimCopiesUptoRow : OpenClaim := { program := "ytciniaabmjoiiaadoor", sum := "67902601e9920012e3c1e9a3b793b19e7a33b585dd8b496029f0aa643bdb16b7", func := "tendril/tendrillaw05.BisimCopies", spec := "bisimCopies", inPlace := ["internal/abi.NoEscape"], unfollowed := true, recurses := true, named := ["internal/strconv.uint64pow10", "math/bits.deBruijn32tab", "math/bits.deBruijn64tab"], plainKeys := false, apart := false, laid := [("math/bits.deBruijn32tab", laid_math_bits_deBruijn32tab), ("math/bits.deBruijn64tab", laid_math_bits_deBruijn64tab), ("internal/strconv.uint64pow10", laid_internal_strconv_uint64pow10)], narrowed := true }
def BisimCopiesUptoSaid : Prop := bisimCopiesUptoRow.holds Tryd.pinned (OpenSpec.upto bisimCopiesSpec)

end Rows
end Go.Proofs.YtciniaabmjoiiaaDoor
