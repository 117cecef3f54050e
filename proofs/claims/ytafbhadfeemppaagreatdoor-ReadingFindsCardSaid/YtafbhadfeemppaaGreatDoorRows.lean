/-
  NARROWER THAN 'FOR EVERY INPUT', by the rows' own cells (each row's printed sentence says how): ReadingSimilar: laid · ReadingFinds: laid · ReadingAny: laid · ReadingGrows: laid · ReadingReads: laid · ReadingLimits: laid · ReadingWidens: laid.
  DERIVED. THE GIVEN ROWS OF THIS SEAT. 7 by the template 'for every input the law returns true; each argument reads behind the call as it read before'; 0 by the template 'total and deterministic' (their statements: YtafbhadfeemppaaGreatDoorTotals.lean).
  GIVEN WITH THE SEED: the statements are not yours to turn. If you find one false, say at which input.
  Laid BY PROGRAM, IN A SANDBOX (cutbox-rows.mjs): the forced cells as the released guide's own fill.sh prints them over the translation 3e0957779f7a8afd… (all of the seat's roots in one cut). By AI agents, Wed Nov 11 2026. No macro, syntax, notation, axiom, sorry.
-/
import Derived.Test.YtafbhadfeemppaaGreatDoorChecked
import GoSem.PinnedTables
import GoSem.Claim
import GoSem.ClaimJoined
import GoSem.ClaimMapViews
import Derived.JoinedTies
import Derived.KernelRfl
namespace Go.Proofs.YtafbhadfeemppaaGreatDoor
/- THE CELL 'sum', in the pinned program and in every row, IS THE sha256 OF THE DUMP (.gsa) THAT YtafbhadfeemppaaGreatDoorProg.lean LOADS. Nothing in Lean hashes anything: it is a label: what it is worth is what the hold of that sum in a sandbox is worth. -/
noncomputable def Tryz.pinned : Pinned := { name := "ytafbhadfeemppaagreatdoor", sum := "3e0957779f7a8afd6129cb862b987bf83294335eda3b641315bf9c812192f9f3", checked := Tryz.checked }
namespace Rows
def none {H : Type} : Left H := { results := [], args := [] }

/- WHAT THE LISTED PACKAGE-LEVEL VARIABLES READ AS WHEN THE CALL BEGINS. Each datum BY PROGRAM (the guide's laid-datum.mjs) off the statement by which the dump's own 'gosem.cut.vars' lays the variable. In a bare row this is a premise. The card (YtafbhadfeemppaaGreatDoorCards.lean) ties it to the program's text. -/
def laid_traveldoc_dates_lengths {H : Type} : DataW H := .agg [.lit (.int .i64 31), .lit (.int .i64 28), .lit (.int .i64 31), .lit (.int .i64 30), .lit (.int .i64 31), .lit (.int .i64 30), .lit (.int .i64 31), .lit (.int .i64 31), .lit (.int .i64 30), .lit (.int .i64 31), .lit (.int .i64 30), .lit (.int .i64 31)]
def laid_traveldoc_traveldocref12_groups {H : Type} : DataW H := .agg [.lit (.string [48, 68, 79, 81]), .lit (.string [49, 73, 76]), .lit (.string [50, 90]), .lit (.string [53, 83]), .lit (.string [54, 71]), .lit (.string [56, 66])]
def laid_unicode_utf8_acceptRanges {H : Type} : DataW H := .agg [.agg [.lit (.int .u8 128), .lit (.int .u8 191)], .agg [.lit (.int .u8 160), .lit (.int .u8 191)], .agg [.lit (.int .u8 128), .lit (.int .u8 159)], .agg [.lit (.int .u8 144), .lit (.int .u8 191)], .agg [.lit (.int .u8 128), .lit (.int .u8 143)], .agg [.lit (.int .u8 0), .lit (.int .u8 0)], .agg [.lit (.int .u8 0), .lit (.int .u8 0)], .agg [.lit (.int .u8 0), .lit (.int .u8 0)], .agg [.lit (.int .u8 0), .lit (.int .u8 0)], .agg [.lit (.int .u8 0), .lit (.int .u8 0)], .agg [.lit (.int .u8 0), .lit (.int .u8 0)], .agg [.lit (.int .u8 0), .lit (.int .u8 0)], .agg [.lit (.int .u8 0), .lit (.int .u8 0)], .agg [.lit (.int .u8 0), .lit (.int .u8 0)], .agg [.lit (.int .u8 0), .lit (.int .u8 0)], .agg [.lit (.int .u8 0), .lit (.int .u8 0)]]
/-- One of Go's own tables, pinned by name: the form's constant. -/
def laid_unicode_utf8_first : DataW Unit := Go.Pinned.utf8First

/-- 'traveldoclaw12.ReadingSimilar': WHATEVER THE INPUT: true; the input reads as it did. -/
def readingSimilarSpec : ChangeSpec := { name := "readingSimilar", fn := fun _ => fun
  | [d] => { results := [.lit (.bool true)], args := [d] }
  | _ => none }
def readingSimilarRow : OpenClaim := { program := "ytafbhadfeemppaagreatdoor", sum := "3e0957779f7a8afd6129cb862b987bf83294335eda3b641315bf9c812192f9f3", func := "traveldoc/traveldoclaw12.ReadingSimilar", spec := "readingSimilar", inPlace := ["internal/bytealg.IndexByteString", "internal/abi.NoEscape", "internal/bytealg.MakeNoZero", "internal/bytealg.IndexString", "internal/bytealg.CountString"], unfollowed := true, recurses := true, named := ["unicode/utf8.first", "unicode/utf8.acceptRanges", "internal/bytealg.MaxLen", "traveldoc/dates.lengths", "traveldoc/traveldocref12.groups"], apart := false, laid := [("traveldoc/dates.lengths", laid_traveldoc_dates_lengths), ("traveldoc/traveldocref12.groups", laid_traveldoc_traveldocref12_groups), ("unicode/utf8.acceptRanges", laid_unicode_utf8_acceptRanges), ("unicode/utf8.first", laid_unicode_utf8_first)] }
def ReadingSimilarSaid : Prop := readingSimilarRow.holds Tryz.pinned (OpenSpec.ofChange readingSimilarSpec)

/-- ITS FALSE NEIGHBOUR: 'it returns false'. Refute it at one input. -/
def readingSimilarWrong : ChangeSpec := { name := "readingSimilar", fn := fun _ => fun
  | [d] => { results := [.lit (.bool false)], args := [d] }
  | _ => none }
def ReadingSimilarWrongFalsely : Prop := readingSimilarRow.holds Tryz.pinned (OpenSpec.ofChange readingSimilarWrong)

/-- 'traveldoclaw12.ReadingFinds': WHATEVER THE INPUT: true; the input reads as it did. -/
def readingFindsSpec : ChangeSpec := { name := "readingFinds", fn := fun _ => fun
  | [d] => { results := [.lit (.bool true)], args := [d] }
  | _ => none }
def readingFindsRow : OpenClaim := { program := "ytafbhadfeemppaagreatdoor", sum := "3e0957779f7a8afd6129cb862b987bf83294335eda3b641315bf9c812192f9f3", func := "traveldoc/traveldoclaw12.ReadingFinds", spec := "readingFinds", inPlace := ["internal/abi.NoEscape", "internal/bytealg.MakeNoZero", "internal/bytealg.IndexByteString", "internal/bytealg.IndexString", "internal/bytealg.CountString"], unfollowed := true, recurses := true, named := ["unicode/utf8.first", "unicode/utf8.acceptRanges", "internal/bytealg.MaxLen", "traveldoc/dates.lengths"], apart := false, laid := [("traveldoc/dates.lengths", laid_traveldoc_dates_lengths), ("unicode/utf8.acceptRanges", laid_unicode_utf8_acceptRanges), ("unicode/utf8.first", laid_unicode_utf8_first)] }
def ReadingFindsSaid : Prop := readingFindsRow.holds Tryz.pinned (OpenSpec.ofChange readingFindsSpec)

/-- ITS FALSE NEIGHBOUR: 'it returns false'. Refute it at one input. -/
def readingFindsWrong : ChangeSpec := { name := "readingFinds", fn := fun _ => fun
  | [d] => { results := [.lit (.bool false)], args := [d] }
  | _ => none }
def ReadingFindsWrongFalsely : Prop := readingFindsRow.holds Tryz.pinned (OpenSpec.ofChange readingFindsWrong)

/-- 'traveldoclaw12.ReadingAny': WHATEVER THE INPUT: true; the input reads as it did. -/
def readingAnySpec : ChangeSpec := { name := "readingAny", fn := fun _ => fun
  | [d] => { results := [.lit (.bool true)], args := [d] }
  | _ => none }
def readingAnyRow : OpenClaim := { program := "ytafbhadfeemppaagreatdoor", sum := "3e0957779f7a8afd6129cb862b987bf83294335eda3b641315bf9c812192f9f3", func := "traveldoc/traveldoclaw12.ReadingAny", spec := "readingAny", inPlace := ["internal/abi.NoEscape", "internal/bytealg.MakeNoZero", "internal/bytealg.IndexByteString", "internal/bytealg.IndexString", "internal/bytealg.CountString"], unfollowed := true, recurses := true, named := ["unicode/utf8.first", "unicode/utf8.acceptRanges", "internal/bytealg.MaxLen", "traveldoc/dates.lengths"], apart := false, laid := [("traveldoc/dates.lengths", laid_traveldoc_dates_lengths), ("unicode/utf8.acceptRanges", laid_unicode_utf8_acceptRanges), ("unicode/utf8.first", laid_unicode_utf8_first)] }
def ReadingAnySaid : Prop := readingAnyRow.holds Tryz.pinned (OpenSpec.ofChange readingAnySpec)

/-- ITS FALSE NEIGHBOUR: 'it returns false'. Refute it at one input. -/
def readingAnyWrong : ChangeSpec := { name := "readingAny", fn := fun _ => fun
  | [d] => { results := [.lit (.bool false)], args := [d] }
  | _ => none }
def ReadingAnyWrongFalsely : Prop := readingAnyRow.holds Tryz.pinned (OpenSpec.ofChange readingAnyWrong)

/-- 'traveldoclaw12.ReadingGrows': WHATEVER THE INPUT: true; the input reads as it did. -/
def readingGrowsSpec : ChangeSpec := { name := "readingGrows", fn := fun _ => fun
  | [d1, d2] => { results := [.lit (.bool true)], args := [d1, d2] }
  | _ => none }
def readingGrowsRow : OpenClaim := { program := "ytafbhadfeemppaagreatdoor", sum := "3e0957779f7a8afd6129cb862b987bf83294335eda3b641315bf9c812192f9f3", func := "traveldoc/traveldoclaw12.ReadingGrows", spec := "readingGrows", inPlace := ["internal/abi.NoEscape", "internal/bytealg.MakeNoZero", "internal/bytealg.IndexByteString", "internal/bytealg.IndexString", "internal/bytealg.CountString"], unfollowed := true, recurses := true, named := ["unicode/utf8.first", "unicode/utf8.acceptRanges", "internal/bytealg.MaxLen", "traveldoc/dates.lengths"], apart := false, laid := [("traveldoc/dates.lengths", laid_traveldoc_dates_lengths), ("unicode/utf8.acceptRanges", laid_unicode_utf8_acceptRanges), ("unicode/utf8.first", laid_unicode_utf8_first)] }
def ReadingGrowsSaid : Prop := readingGrowsRow.holds Tryz.pinned (OpenSpec.ofChange readingGrowsSpec)

/-- ITS FALSE NEIGHBOUR: 'it returns false'. Refute it at one input. -/
def readingGrowsWrong : ChangeSpec := { name := "readingGrows", fn := fun _ => fun
  | [d1, d2] => { results := [.lit (.bool false)], args := [d1, d2] }
  | _ => none }
def ReadingGrowsWrongFalsely : Prop := readingGrowsRow.holds Tryz.pinned (OpenSpec.ofChange readingGrowsWrong)

/-- 'traveldoclaw12.ReadingReads': WHATEVER THE INPUT: true; the input reads as it did. -/
def readingReadsSpec : ChangeSpec := { name := "readingReads", fn := fun _ => fun
  | [d] => { results := [.lit (.bool true)], args := [d] }
  | _ => none }
def readingReadsRow : OpenClaim := { program := "ytafbhadfeemppaagreatdoor", sum := "3e0957779f7a8afd6129cb862b987bf83294335eda3b641315bf9c812192f9f3", func := "traveldoc/traveldoclaw12.ReadingReads", spec := "readingReads", inPlace := ["internal/abi.NoEscape", "internal/bytealg.MakeNoZero", "internal/bytealg.IndexByteString", "internal/bytealg.IndexString", "internal/bytealg.CountString"], unfollowed := true, recurses := true, named := ["unicode/utf8.first", "unicode/utf8.acceptRanges", "internal/bytealg.MaxLen", "traveldoc/dates.lengths"], apart := false, laid := [("traveldoc/dates.lengths", laid_traveldoc_dates_lengths), ("unicode/utf8.acceptRanges", laid_unicode_utf8_acceptRanges), ("unicode/utf8.first", laid_unicode_utf8_first)] }
def ReadingReadsSaid : Prop := readingReadsRow.holds Tryz.pinned (OpenSpec.ofChange readingReadsSpec)

/-- ITS FALSE NEIGHBOUR: 'it returns false'. Refute it at one input. -/
def readingReadsWrong : ChangeSpec := { name := "readingReads", fn := fun _ => fun
  | [d] => { results := [.lit (.bool false)], args := [d] }
  | _ => none }
def ReadingReadsWrongFalsely : Prop := readingReadsRow.holds Tryz.pinned (OpenSpec.ofChange readingReadsWrong)

/-- 'traveldoclaw12.ReadingLimits': WHATEVER THE INPUT: true; the input reads as it did. -/
def readingLimitsSpec : ChangeSpec := { name := "readingLimits", fn := fun _ => fun
  | [d] => { results := [.lit (.bool true)], args := [d] }
  | _ => none }
def readingLimitsRow : OpenClaim := { program := "ytafbhadfeemppaagreatdoor", sum := "3e0957779f7a8afd6129cb862b987bf83294335eda3b641315bf9c812192f9f3", func := "traveldoc/traveldoclaw12.ReadingLimits", spec := "readingLimits", inPlace := ["internal/abi.NoEscape", "internal/bytealg.MakeNoZero", "internal/bytealg.IndexByteString", "internal/bytealg.IndexString", "internal/bytealg.CountString"], unfollowed := true, recurses := true, named := ["unicode/utf8.first", "unicode/utf8.acceptRanges", "internal/bytealg.MaxLen", "traveldoc/dates.lengths"], apart := false, laid := [("traveldoc/dates.lengths", laid_traveldoc_dates_lengths), ("unicode/utf8.acceptRanges", laid_unicode_utf8_acceptRanges), ("unicode/utf8.first", laid_unicode_utf8_first)] }
def ReadingLimitsSaid : Prop := readingLimitsRow.holds Tryz.pinned (OpenSpec.ofChange readingLimitsSpec)

/-- ITS FALSE NEIGHBOUR: 'it returns false'. Refute it at one input. -/
def readingLimitsWrong : ChangeSpec := { name := "readingLimits", fn := fun _ => fun
  | [d] => { results := [.lit (.bool false)], args := [d] }
  | _ => none }
def ReadingLimitsWrongFalsely : Prop := readingLimitsRow.holds Tryz.pinned (OpenSpec.ofChange readingLimitsWrong)

/-- 'traveldoclaw12.ReadingWidens': WHATEVER THE INPUT: true; the input reads as it did. -/
def readingWidensSpec : ChangeSpec := { name := "readingWidens", fn := fun _ => fun
  | [d1, d2] => { results := [.lit (.bool true)], args := [d1, d2] }
  | _ => none }
def readingWidensRow : OpenClaim := { program := "ytafbhadfeemppaagreatdoor", sum := "3e0957779f7a8afd6129cb862b987bf83294335eda3b641315bf9c812192f9f3", func := "traveldoc/traveldoclaw12.ReadingWidens", spec := "readingWidens", inPlace := ["internal/abi.NoEscape", "internal/bytealg.MakeNoZero", "internal/bytealg.IndexByteString", "internal/bytealg.IndexString", "internal/bytealg.CountString"], unfollowed := true, recurses := true, named := ["traveldoc/traveldocref12.groups", "unicode/utf8.first", "unicode/utf8.acceptRanges", "internal/bytealg.MaxLen", "traveldoc/dates.lengths"], apart := false, laid := [("traveldoc/dates.lengths", laid_traveldoc_dates_lengths), ("traveldoc/traveldocref12.groups", laid_traveldoc_traveldocref12_groups), ("unicode/utf8.acceptRanges", laid_unicode_utf8_acceptRanges), ("unicode/utf8.first", laid_unicode_utf8_first)] }
def ReadingWidensSaid : Prop := readingWidensRow.holds Tryz.pinned (OpenSpec.ofChange readingWidensSpec)

/-- ITS FALSE NEIGHBOUR: 'it returns false'. Refute it at one input. -/
def readingWidensWrong : ChangeSpec := { name := "readingWidens", fn := fun _ => fun
  | [d1, d2] => { results := [.lit (.bool false)], args := [d1, d2] }
  | _ => none }
def ReadingWidensWrongFalsely : Prop := readingWidensRow.holds Tryz.pinned (OpenSpec.ofChange readingWidensWrong)

/- THE SECOND FORM. 'bulk': how many values and letters a reading holds, each counted each time it is reached (what is shared counts as often as it is met; a slice's spare places count too). A statement '..UptoSaid' is the law's where the arguments, and the package variables that the reading takes, are together of bulk at most 1048576: NARROWER than '..Said'. Prove '..Said' where nothing that the law and all that it calls make is longer than what came in: it says more and counts as full. Else prove '..UptoSaid'. A law counts once. -/
mutual
def uptoBulk {H : Type} : DataW H → Nat
  | .lit (.string bytes) => bytes.length + 1
  | .lit _ => 1
  | .nil => 1
  | .ptr d => uptoBulk d + 1
  | .slice elems spare => uptoBulkAll elems + uptoBulkAll spare + 1
  | .agg parts => uptoBulkAll parts + 1
  | .iface _ d => uptoBulk d + 1
  | .map entries => uptoBulkEntries entries + 1
  | .held _ => 1
def uptoBulkAll {H : Type} : List (DataW H) → Nat
  | [] => 0
  | d :: r => uptoBulk d + uptoBulkAll r
def uptoBulkEntries {H : Type} : List (Lit × DataW H) → Nat
  | [] => 0
  | x :: r => uptoBulkEntry x + uptoBulkEntries r
def uptoBulkEntry {H : Type} : Lit × DataW H → Nat
  | (.string bytes, d) => bytes.length + uptoBulk d + 1
  | (_, d) => uptoBulk d + 1
 end
def uptoSmall : (H : Type) → List (DataW H) → Bool := fun _ ds => decide (uptoBulkAll ds ≤ 1048576)
def OpenSpec.upto (s : _root_.Go.ChangeSpec) : _root_.Go.OpenSpec := { _root_.Go.OpenSpec.ofChange s with cond := some uptoSmall }

/-- 'traveldoclaw12.ReadingSimilar', WHERE WHAT IT READS IS OF BULK AT MOST 1048576: true; the input reads as it did. -/
def readingSimilarUptoRow : OpenClaim := { program := "ytafbhadfeemppaagreatdoor", sum := "3e0957779f7a8afd6129cb862b987bf83294335eda3b641315bf9c812192f9f3", func := "traveldoc/traveldoclaw12.ReadingSimilar", spec := "readingSimilar", inPlace := ["internal/bytealg.IndexByteString", "internal/abi.NoEscape", "internal/bytealg.MakeNoZero", "internal/bytealg.IndexString", "internal/bytealg.CountString"], unfollowed := true, recurses := true, named := ["unicode/utf8.first", "unicode/utf8.acceptRanges", "internal/bytealg.MaxLen", "traveldoc/dates.lengths", "traveldoc/traveldocref12.groups"], apart := false, laid := [("traveldoc/dates.lengths", laid_traveldoc_dates_lengths), ("traveldoc/traveldocref12.groups", laid_traveldoc_traveldocref12_groups), ("unicode/utf8.acceptRanges", laid_unicode_utf8_acceptRanges), ("unicode/utf8.first", laid_unicode_utf8_first)], narrowed := true }
def ReadingSimilarUptoSaid : Prop := readingSimilarUptoRow.holds Tryz.pinned (OpenSpec.upto readingSimilarSpec)

/-- 'traveldoclaw12.ReadingFinds', WHERE WHAT IT READS IS OF BULK AT MOST 1048576: true; the input reads as it did. -/
def readingFindsUptoRow : OpenClaim := { program := "ytafbhadfeemppaagreatdoor", sum := "3e0957779f7a8afd6129cb862b987bf83294335eda3b641315bf9c812192f9f3", func := "traveldoc/traveldoclaw12.ReadingFinds", spec := "readingFinds", inPlace := ["internal/abi.NoEscape", "internal/bytealg.MakeNoZero", "internal/bytealg.IndexByteString", "internal/bytealg.IndexString", "internal/bytealg.CountString"], unfollowed := true, recurses := true, named := ["unicode/utf8.first", "unicode/utf8.acceptRanges", "internal/bytealg.MaxLen", "traveldoc/dates.lengths"], apart := false, laid := [("traveldoc/dates.lengths", laid_traveldoc_dates_lengths), ("unicode/utf8.acceptRanges", laid_unicode_utf8_acceptRanges), ("unicode/utf8.first", laid_unicode_utf8_first)], narrowed := true }
def ReadingFindsUptoSaid : Prop := readingFindsUptoRow.holds Tryz.pinned (OpenSpec.upto readingFindsSpec)

/-- 'traveldoclaw12.ReadingAny', WHERE WHAT IT READS IS OF BULK AT MOST 1048576: true; the input reads as it did. -/
def readingAnyUptoRow : OpenClaim := { program := "ytafbhadfeemppaagreatdoor", sum := "3e0957779f7a8afd6129cb862b987bf83294335eda3b641315bf9c812192f9f3", func := "traveldoc/traveldoclaw12.ReadingAny", spec := "readingAny", inPlace := ["internal/abi.NoEscape", "internal/bytealg.MakeNoZero", "internal/bytealg.IndexByteString", "internal/bytealg.IndexString", "internal/bytealg.CountString"], unfollowed := true, recurses := true, named := ["unicode/utf8.first", "unicode/utf8.acceptRanges", "internal/bytealg.MaxLen", "traveldoc/dates.lengths"], apart := false, laid := [("traveldoc/dates.lengths", laid_traveldoc_dates_lengths), ("unicode/utf8.acceptRanges", laid_unicode_utf8_acceptRanges), ("unicode/utf8.first", laid_unicode_utf8_first)], narrowed := true }
def ReadingAnyUptoSaid : Prop := readingAnyUptoRow.holds Tryz.pinned (OpenSpec.upto readingAnySpec)

/-- 'traveldoclaw12.ReadingGrows', WHERE WHAT IT READS IS OF BULK AT MOST 1048576: true; the input reads as it did. -/
def readingGrowsUptoRow : OpenClaim := { program := "ytafbhadfeemppaagreatdoor", sum := "3e0957779f7a8afd6129cb862b987bf83294335eda3b641315bf9c812192f9f3", func := "traveldoc/traveldoclaw12.ReadingGrows", spec := "readingGrows", inPlace := ["internal/abi.NoEscape", "internal/bytealg.MakeNoZero", "internal/bytealg.IndexByteString", "internal/bytealg.IndexString", "internal/bytealg.CountString"], unfollowed := true, recurses := true, named := ["unicode/utf8.first", "unicode/utf8.acceptRanges", "internal/bytealg.MaxLen", "traveldoc/dates.lengths"], apart := false, laid := [("traveldoc/dates.lengths", laid_traveldoc_dates_lengths), ("unicode/utf8.acceptRanges", laid_unicode_utf8_acceptRanges), ("unicode/utf8.first", laid_unicode_utf8_first)], narrowed := true }
def ReadingGrowsUptoSaid : Prop := readingGrowsUptoRow.holds Tryz.pinned (OpenSpec.upto readingGrowsSpec)

/-- 'traveldoclaw12.ReadingReads', WHERE WHAT IT READS IS OF BULK AT MOST 1048576: true; the input reads as it did. -/
def readingReadsUptoRow : OpenClaim := { program := "ytafbhadfeemppaagreatdoor", sum := "3e0957779f7a8afd6129cb862b987bf83294335eda3b641315bf9c812192f9f3", func := "traveldoc/traveldoclaw12.ReadingReads", spec := "readingReads", inPlace := ["internal/abi.NoEscape", "internal/bytealg.MakeNoZero", "internal/bytealg.IndexByteString", "internal/bytealg.IndexString", "internal/bytealg.CountString"], unfollowed := true, recurses := true, named := ["unicode/utf8.first", "unicode/utf8.acceptRanges", "internal/bytealg.MaxLen", "traveldoc/dates.lengths"], apart := false, laid := [("traveldoc/dates.lengths", laid_traveldoc_dates_lengths), ("unicode/utf8.acceptRanges", laid_unicode_utf8_acceptRanges), ("unicode/utf8.first", laid_unicode_utf8_first)], narrowed := true }
def ReadingReadsUptoSaid : Prop := readingReadsUptoRow.holds Tryz.pinned (OpenSpec.upto readingReadsSpec)

/-- 'traveldoclaw12.ReadingLimits', WHERE WHAT IT READS IS OF BULK AT MOST 1048576: true; the input reads as it did. -/
def readingLimitsUptoRow : OpenClaim := { program := "ytafbhadfeemppaagreatdoor", sum := "3e0957779f7a8afd6129cb862b987bf83294335eda3b641315bf9c812192f9f3", func := "traveldoc/traveldoclaw12.ReadingLimits", spec := "readingLimits", inPlace := ["internal/abi.NoEscape", "internal/bytealg.MakeNoZero", "internal/bytealg.IndexByteString", "internal/bytealg.IndexString", "internal/bytealg.CountString"], unfollowed := true, recurses := true, named := ["unicode/utf8.first", "unicode/utf8.acceptRanges", "internal/bytealg.MaxLen", "traveldoc/dates.lengths"], apart := false, laid := [("traveldoc/dates.lengths", laid_traveldoc_dates_lengths), ("unicode/utf8.acceptRanges", laid_unicode_utf8_acceptRanges), ("unicode/utf8.first", laid_unicode_utf8_first)], narrowed := true }
def ReadingLimitsUptoSaid : Prop := readingLimitsUptoRow.holds Tryz.pinned (OpenSpec.upto readingLimitsSpec)

/-- 'traveldoclaw12.ReadingWidens', WHERE WHAT IT READS IS OF BULK AT MOST 1048576: true; the input reads as it did. -/
def readingWidensUptoRow : OpenClaim := { program := "ytafbhadfeemppaagreatdoor", sum := "3e0957779f7a8afd6129cb862b987bf83294335eda3b641315bf9c812192f9f3", func := "traveldoc/traveldoclaw12.ReadingWidens", spec := "readingWidens", inPlace := ["internal/abi.NoEscape", "internal/bytealg.MakeNoZero", "internal/bytealg.IndexByteString", "internal/bytealg.IndexString", "internal/bytealg.CountString"], unfollowed := true, recurses := true, named := ["traveldoc/traveldocref12.groups", "unicode/utf8.first", "unicode/utf8.acceptRanges", "internal/bytealg.MaxLen", "traveldoc/dates.lengths"], apart := false, laid := [("traveldoc/dates.lengths", laid_traveldoc_dates_lengths), ("traveldoc/traveldocref12.groups", laid_traveldoc_traveldocref12_groups), ("unicode/utf8.acceptRanges", laid_unicode_utf8_acceptRanges), ("unicode/utf8.first", laid_unicode_utf8_first)], narrowed := true }
def ReadingWidensUptoSaid : Prop := readingWidensUptoRow.holds Tryz.pinned (OpenSpec.upto readingWidensSpec)

end Rows
end Go.Proofs.YtafbhadfeemppaaGreatDoor
