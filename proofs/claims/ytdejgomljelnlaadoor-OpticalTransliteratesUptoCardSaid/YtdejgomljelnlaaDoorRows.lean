/-
  NARROWER THAN 'FOR EVERY INPUT', by the rows' own cells (each row's printed sentence says how): OpticalDigits: laid · OpticalNames: laid · OpticalOneDigit: laid · OpticalSplits: laid · OpticalReturns: laid · OpticalTransliterates: laid.
  DERIVED. THE GIVEN ROWS OF THIS SEAT. 6 by the template 'for every input the law returns true; each argument reads behind the call as it read before'; 0 by the template 'total and deterministic' (their statements: YtdejgomljelnlaaDoorTotals.lean).
  GIVEN WITH THE SEED: the statements are not yours to turn. If you find one false, say at which input.
  Laid BY PROGRAM, IN A SANDBOX (cutbox-rows.mjs): the forced cells as the released guide's own fill.sh prints them over the translation 0133d81bbb3ce235… (all of the seat's roots in one cut). By AI agents, Wed Nov 11 2026. No macro, syntax, notation, axiom, sorry.
-/
import Derived.Test.YtdejgomljelnlaaDoorChecked
import GoSem.PinnedTables
import GoSem.Claim
import GoSem.ClaimJoined
import GoSem.ClaimMapViews
import Derived.JoinedTies
import Derived.KernelRfl
namespace Go.Proofs.YtdejgomljelnlaaDoor
/- THE CELL 'sum', in the pinned program and in every row, IS THE sha256 OF THE DUMP (.gsa) THAT YtdejgomljelnlaaDoorProg.lean LOADS. Nothing in Lean hashes anything: it is a label: what it is worth is what the hold of that sum in a sandbox is worth. -/
noncomputable def Tryd.pinned : Pinned := { name := "ytdejgomljelnlaadoor", sum := "0133d81bbb3ce23508299c2d965b5c7db209225db2dbb0d00489b568b3e9095a", checked := Tryd.checked }
namespace Rows
def none {H : Type} : Left H := { results := [], args := [] }

/- WHAT THE LISTED PACKAGE-LEVEL VARIABLES READ AS WHEN THE CALL BEGINS. Each datum BY PROGRAM (the guide's laid-datum.mjs) off the statement by which the dump's own 'gosem.cut.vars' lays the variable. In a bare row this is a premise. The card (YtdejgomljelnlaaDoorCards.lean) ties it to the program's text. -/
def laid_unicode_utf8_acceptRanges {H : Type} : DataW H := .agg [.agg [.lit (.int .u8 128), .lit (.int .u8 191)], .agg [.lit (.int .u8 160), .lit (.int .u8 191)], .agg [.lit (.int .u8 128), .lit (.int .u8 159)], .agg [.lit (.int .u8 144), .lit (.int .u8 191)], .agg [.lit (.int .u8 128), .lit (.int .u8 143)], .agg [.lit (.int .u8 0), .lit (.int .u8 0)], .agg [.lit (.int .u8 0), .lit (.int .u8 0)], .agg [.lit (.int .u8 0), .lit (.int .u8 0)], .agg [.lit (.int .u8 0), .lit (.int .u8 0)], .agg [.lit (.int .u8 0), .lit (.int .u8 0)], .agg [.lit (.int .u8 0), .lit (.int .u8 0)], .agg [.lit (.int .u8 0), .lit (.int .u8 0)], .agg [.lit (.int .u8 0), .lit (.int .u8 0)], .agg [.lit (.int .u8 0), .lit (.int .u8 0)], .agg [.lit (.int .u8 0), .lit (.int .u8 0)], .agg [.lit (.int .u8 0), .lit (.int .u8 0)]]
/-- One of Go's own tables, pinned by name: the form's constant. -/
def laid_unicode_utf8_first : DataW Unit := Go.Pinned.utf8First
def laid_traveldoc_traveldocref10_rows {H : Type} : DataW H := .agg [.agg [.lit (.string [195, 128, 195, 129, 195, 130, 195, 131, 196, 128, 196, 130, 196, 132, 195, 160, 195, 161, 195, 162, 195, 163, 196, 129, 196, 131, 196, 133]), .lit (.string [65])], .agg [.lit (.string [195, 132, 195, 134, 195, 164, 195, 166]), .lit (.string [65, 69])], .agg [.lit (.string [195, 133, 195, 165]), .lit (.string [65, 65])], .agg [.lit (.string [195, 135, 196, 134, 196, 136, 196, 138, 196, 140, 195, 167, 196, 135, 196, 137, 196, 139, 196, 141]), .lit (.string [67])], .agg [.lit (.string [196, 142, 196, 144, 195, 144, 196, 143, 196, 145, 195, 176]), .lit (.string [68])], .agg [.lit (.string [195, 136, 195, 137, 195, 138, 195, 139, 196, 146, 196, 148, 196, 150, 196, 152, 196, 154, 195, 168, 195, 169, 195, 170, 195, 171, 196, 147, 196, 149, 196, 151, 196, 153, 196, 155]), .lit (.string [69])], .agg [.lit (.string [196, 156, 196, 158, 196, 160, 196, 162, 196, 157, 196, 159, 196, 161, 196, 163]), .lit (.string [71])], .agg [.lit (.string [196, 164, 196, 166, 196, 165, 196, 167]), .lit (.string [72])], .agg [.lit (.string [195, 140, 195, 141, 195, 142, 195, 143, 196, 168, 196, 170, 196, 172, 196, 174, 195, 172, 195, 173, 195, 174, 195, 175, 196, 169, 196, 171, 196, 173, 196, 175, 196, 177, 196, 176]), .lit (.string [73])], .agg [.lit (.string [196, 180, 196, 181]), .lit (.string [74])], .agg [.lit (.string [196, 182, 196, 183]), .lit (.string [75])], .agg [.lit (.string [196, 185, 196, 187, 196, 189, 196, 191, 197, 129, 196, 186, 196, 188, 196, 190, 197, 128, 197, 130]), .lit (.string [76])], .agg [.lit (.string [195, 145, 197, 131, 197, 133, 197, 135, 197, 138, 195, 177, 197, 132, 197, 134, 197, 136, 197, 139]), .lit (.string [78])], .agg [.lit (.string [195, 146, 195, 147, 195, 148, 195, 149, 197, 140, 197, 142, 197, 144, 195, 178, 195, 179, 195, 180, 195, 181, 197, 141, 197, 143, 197, 145]), .lit (.string [79])], .agg [.lit (.string [195, 150, 195, 152, 197, 146, 195, 182, 195, 184, 197, 147]), .lit (.string [79, 69])], .agg [.lit (.string [197, 148, 197, 150, 197, 152, 197, 149, 197, 151, 197, 153]), .lit (.string [82])], .agg [.lit (.string [197, 154, 197, 156, 197, 158, 197, 160, 197, 155, 197, 157, 197, 159, 197, 161]), .lit (.string [83])], .agg [.lit (.string [197, 162, 197, 164, 197, 166, 197, 163, 197, 165, 197, 167]), .lit (.string [84])], .agg [.lit (.string [195, 158, 195, 190]), .lit (.string [84, 72])], .agg [.lit (.string [195, 153, 195, 154, 195, 155, 197, 168, 197, 170, 197, 172, 197, 174, 197, 176, 197, 178, 195, 185, 195, 186, 195, 187, 197, 169, 197, 171, 197, 173, 197, 175, 197, 177, 197, 179]), .lit (.string [85])], .agg [.lit (.string [195, 156, 195, 188]), .lit (.string [85, 69])], .agg [.lit (.string [197, 180, 197, 181]), .lit (.string [87])], .agg [.lit (.string [195, 157, 197, 182, 197, 184, 195, 189, 197, 183, 195, 191]), .lit (.string [89])], .agg [.lit (.string [197, 185, 197, 187, 197, 189, 197, 186, 197, 188, 197, 190]), .lit (.string [90])], .agg [.lit (.string [195, 159]), .lit (.string [83, 83])], .agg [.lit (.string []), .lit (.string [])]]
def laid_unicode_White_Space {H : Type} : DataW H := .ptr (.agg [.slice [.agg [.lit (.int .u16 9), .lit (.int .u16 13), .lit (.int .u16 1)], .agg [.lit (.int .u16 32), .lit (.int .u16 133), .lit (.int .u16 101)], .agg [.lit (.int .u16 160), .lit (.int .u16 5760), .lit (.int .u16 5600)], .agg [.lit (.int .u16 8192), .lit (.int .u16 8202), .lit (.int .u16 1)], .agg [.lit (.int .u16 8232), .lit (.int .u16 8233), .lit (.int .u16 1)], .agg [.lit (.int .u16 8239), .lit (.int .u16 8287), .lit (.int .u16 48)], .agg [.lit (.int .u16 12288), .lit (.int .u16 12288), .lit (.int .u16 1)]] [], .nil, .lit (.int .i64 2)])
def laid_strings_asciiSpace {H : Type} : DataW H := .agg [.lit (.int .u8 0), .lit (.int .u8 0), .lit (.int .u8 0), .lit (.int .u8 0), .lit (.int .u8 0), .lit (.int .u8 0), .lit (.int .u8 0), .lit (.int .u8 0), .lit (.int .u8 0), .lit (.int .u8 1), .lit (.int .u8 1), .lit (.int .u8 1), .lit (.int .u8 1), .lit (.int .u8 1), .lit (.int .u8 0), .lit (.int .u8 0), .lit (.int .u8 0), .lit (.int .u8 0), .lit (.int .u8 0), .lit (.int .u8 0), .lit (.int .u8 0), .lit (.int .u8 0), .lit (.int .u8 0), .lit (.int .u8 0), .lit (.int .u8 0), .lit (.int .u8 0), .lit (.int .u8 0), .lit (.int .u8 0), .lit (.int .u8 0), .lit (.int .u8 0), .lit (.int .u8 0), .lit (.int .u8 0), .lit (.int .u8 1), .lit (.int .u8 0), .lit (.int .u8 0), .lit (.int .u8 0), .lit (.int .u8 0), .lit (.int .u8 0), .lit (.int .u8 0), .lit (.int .u8 0), .lit (.int .u8 0), .lit (.int .u8 0), .lit (.int .u8 0), .lit (.int .u8 0), .lit (.int .u8 0), .lit (.int .u8 0), .lit (.int .u8 0), .lit (.int .u8 0), .lit (.int .u8 0), .lit (.int .u8 0), .lit (.int .u8 0), .lit (.int .u8 0), .lit (.int .u8 0), .lit (.int .u8 0), .lit (.int .u8 0), .lit (.int .u8 0), .lit (.int .u8 0), .lit (.int .u8 0), .lit (.int .u8 0), .lit (.int .u8 0), .lit (.int .u8 0), .lit (.int .u8 0), .lit (.int .u8 0), .lit (.int .u8 0), .lit (.int .u8 0), .lit (.int .u8 0), .lit (.int .u8 0), .lit (.int .u8 0), .lit (.int .u8 0), .lit (.int .u8 0), .lit (.int .u8 0), .lit (.int .u8 0), .lit (.int .u8 0), .lit (.int .u8 0), .lit (.int .u8 0), .lit (.int .u8 0), .lit (.int .u8 0), .lit (.int .u8 0), .lit (.int .u8 0), .lit (.int .u8 0), .lit (.int .u8 0), .lit (.int .u8 0), .lit (.int .u8 0), .lit (.int .u8 0), .lit (.int .u8 0), .lit (.int .u8 0), .lit (.int .u8 0), .lit (.int .u8 0), .lit (.int .u8 0), .lit (.int .u8 0), .lit (.int .u8 0), .lit (.int .u8 0), .lit (.int .u8 0), .lit (.int .u8 0), .lit (.int .u8 0), .lit (.int .u8 0), .lit (.int .u8 0), .lit (.int .u8 0), .lit (.int .u8 0), .lit (.int .u8 0), .lit (.int .u8 0), .lit (.int .u8 0), .lit (.int .u8 0), .lit (.int .u8 0), .lit (.int .u8 0), .lit (.int .u8 0), .lit (.int .u8 0), .lit (.int .u8 0), .lit (.int .u8 0), .lit (.int .u8 0), .lit (.int .u8 0), .lit (.int .u8 0), .lit (.int .u8 0), .lit (.int .u8 0), .lit (.int .u8 0), .lit (.int .u8 0), .lit (.int .u8 0), .lit (.int .u8 0), .lit (.int .u8 0), .lit (.int .u8 0), .lit (.int .u8 0), .lit (.int .u8 0), .lit (.int .u8 0), .lit (.int .u8 0), .lit (.int .u8 0), .lit (.int .u8 0), .lit (.int .u8 0), .lit (.int .u8 0), .lit (.int .u8 0), .lit (.int .u8 0), .lit (.int .u8 0), .lit (.int .u8 0), .lit (.int .u8 0), .lit (.int .u8 0), .lit (.int .u8 0), .lit (.int .u8 0), .lit (.int .u8 0), .lit (.int .u8 0), .lit (.int .u8 0), .lit (.int .u8 0), .lit (.int .u8 0), .lit (.int .u8 0), .lit (.int .u8 0), .lit (.int .u8 0), .lit (.int .u8 0), .lit (.int .u8 0), .lit (.int .u8 0), .lit (.int .u8 0), .lit (.int .u8 0), .lit (.int .u8 0), .lit (.int .u8 0), .lit (.int .u8 0), .lit (.int .u8 0), .lit (.int .u8 0), .lit (.int .u8 0), .lit (.int .u8 0), .lit (.int .u8 0), .lit (.int .u8 0), .lit (.int .u8 0), .lit (.int .u8 0), .lit (.int .u8 0), .lit (.int .u8 0), .lit (.int .u8 0), .lit (.int .u8 0), .lit (.int .u8 0), .lit (.int .u8 0), .lit (.int .u8 0), .lit (.int .u8 0), .lit (.int .u8 0), .lit (.int .u8 0), .lit (.int .u8 0), .lit (.int .u8 0), .lit (.int .u8 0), .lit (.int .u8 0), .lit (.int .u8 0), .lit (.int .u8 0), .lit (.int .u8 0), .lit (.int .u8 0), .lit (.int .u8 0), .lit (.int .u8 0), .lit (.int .u8 0), .lit (.int .u8 0), .lit (.int .u8 0), .lit (.int .u8 0), .lit (.int .u8 0), .lit (.int .u8 0), .lit (.int .u8 0), .lit (.int .u8 0), .lit (.int .u8 0), .lit (.int .u8 0), .lit (.int .u8 0), .lit (.int .u8 0), .lit (.int .u8 0), .lit (.int .u8 0), .lit (.int .u8 0), .lit (.int .u8 0), .lit (.int .u8 0), .lit (.int .u8 0), .lit (.int .u8 0), .lit (.int .u8 0), .lit (.int .u8 0), .lit (.int .u8 0), .lit (.int .u8 0), .lit (.int .u8 0), .lit (.int .u8 0), .lit (.int .u8 0), .lit (.int .u8 0), .lit (.int .u8 0), .lit (.int .u8 0), .lit (.int .u8 0), .lit (.int .u8 0), .lit (.int .u8 0), .lit (.int .u8 0), .lit (.int .u8 0), .lit (.int .u8 0), .lit (.int .u8 0), .lit (.int .u8 0), .lit (.int .u8 0), .lit (.int .u8 0), .lit (.int .u8 0), .lit (.int .u8 0), .lit (.int .u8 0), .lit (.int .u8 0), .lit (.int .u8 0), .lit (.int .u8 0), .lit (.int .u8 0), .lit (.int .u8 0), .lit (.int .u8 0), .lit (.int .u8 0), .lit (.int .u8 0), .lit (.int .u8 0), .lit (.int .u8 0), .lit (.int .u8 0), .lit (.int .u8 0), .lit (.int .u8 0), .lit (.int .u8 0), .lit (.int .u8 0), .lit (.int .u8 0), .lit (.int .u8 0), .lit (.int .u8 0), .lit (.int .u8 0), .lit (.int .u8 0), .lit (.int .u8 0), .lit (.int .u8 0), .lit (.int .u8 0), .lit (.int .u8 0), .lit (.int .u8 0), .lit (.int .u8 0), .lit (.int .u8 0), .lit (.int .u8 0), .lit (.int .u8 0), .lit (.int .u8 0), .lit (.int .u8 0), .lit (.int .u8 0), .lit (.int .u8 0), .lit (.int .u8 0)]
/-- One of Go's own tables, pinned by name: the form's constant. -/
def laid_unicode_CaseRanges : DataW Unit := Go.Pinned.caseRanges

/-- 'traveldoclaw10.OpticalDigits': WHATEVER THE INPUT: true; the input reads as it did. -/
def opticalDigitsSpec : ChangeSpec := { name := "opticalDigits", fn := fun _ => fun
  | [d1, d2] => { results := [.lit (.bool true)], args := [d1, d2] }
  | _ => none }
def opticalDigitsRow : OpenClaim := { program := "ytdejgomljelnlaadoor", sum := "0133d81bbb3ce23508299c2d965b5c7db209225db2dbb0d00489b568b3e9095a", func := "traveldoc/traveldoclaw10.OpticalDigits", spec := "opticalDigits", inPlace := ["internal/bytealg.CountString", "internal/bytealg.IndexByteString", "internal/bytealg.IndexString", "internal/abi.NoEscape", "internal/bytealg.MakeNoZero"], named := ["internal/bytealg.MaxLen", "unicode/utf8.first", "unicode/utf8.acceptRanges"], apart := false, laid := [("unicode/utf8.acceptRanges", laid_unicode_utf8_acceptRanges), ("unicode/utf8.first", laid_unicode_utf8_first)] }
def OpticalDigitsSaid : Prop := opticalDigitsRow.holds Tryd.pinned (OpenSpec.ofChange opticalDigitsSpec)

/-- ITS FALSE NEIGHBOUR: 'it returns false'. Refute it at one input. -/
def opticalDigitsWrong : ChangeSpec := { name := "opticalDigits", fn := fun _ => fun
  | [d1, d2] => { results := [.lit (.bool false)], args := [d1, d2] }
  | _ => none }
def OpticalDigitsWrongFalsely : Prop := opticalDigitsRow.holds Tryd.pinned (OpenSpec.ofChange opticalDigitsWrong)

/-- 'traveldoclaw10.OpticalNames': WHATEVER THE INPUT: true; the input reads as it did. -/
def opticalNamesSpec : ChangeSpec := { name := "opticalNames", fn := fun _ => fun
  | [d1, d2, d3] => { results := [.lit (.bool true)], args := [d1, d2, d3] }
  | _ => none }
def opticalNamesRow : OpenClaim := { program := "ytdejgomljelnlaadoor", sum := "0133d81bbb3ce23508299c2d965b5c7db209225db2dbb0d00489b568b3e9095a", func := "traveldoc/traveldoclaw10.OpticalNames", spec := "opticalNames", inPlace := ["internal/bytealg.CountString", "internal/bytealg.IndexByteString", "internal/bytealg.IndexString", "internal/abi.NoEscape", "internal/bytealg.MakeNoZero"], named := ["internal/bytealg.MaxLen", "unicode/utf8.first", "unicode/utf8.acceptRanges"], apart := false, laid := [("unicode/utf8.acceptRanges", laid_unicode_utf8_acceptRanges), ("unicode/utf8.first", laid_unicode_utf8_first)] }
def OpticalNamesSaid : Prop := opticalNamesRow.holds Tryd.pinned (OpenSpec.ofChange opticalNamesSpec)

/-- ITS FALSE NEIGHBOUR: 'it returns false'. Refute it at one input. -/
def opticalNamesWrong : ChangeSpec := { name := "opticalNames", fn := fun _ => fun
  | [d1, d2, d3] => { results := [.lit (.bool false)], args := [d1, d2, d3] }
  | _ => none }
def OpticalNamesWrongFalsely : Prop := opticalNamesRow.holds Tryd.pinned (OpenSpec.ofChange opticalNamesWrong)

/-- 'traveldoclaw10.OpticalOneDigit': WHATEVER THE INPUT: true; the input reads as it did. -/
def opticalOneDigitSpec : ChangeSpec := { name := "opticalOneDigit", fn := fun _ => fun
  | [d1, d2, d3] => { results := [.lit (.bool true)], args := [d1, d2, d3] }
  | _ => none }
def opticalOneDigitRow : OpenClaim := { program := "ytdejgomljelnlaadoor", sum := "0133d81bbb3ce23508299c2d965b5c7db209225db2dbb0d00489b568b3e9095a", func := "traveldoc/traveldoclaw10.OpticalOneDigit", spec := "opticalOneDigit", inPlace := ["internal/bytealg.CountString", "internal/bytealg.IndexByteString", "internal/bytealg.IndexString", "internal/abi.NoEscape", "internal/bytealg.MakeNoZero"], named := ["internal/bytealg.MaxLen", "unicode/utf8.first", "unicode/utf8.acceptRanges"], apart := false, laid := [("unicode/utf8.acceptRanges", laid_unicode_utf8_acceptRanges), ("unicode/utf8.first", laid_unicode_utf8_first)] }
def OpticalOneDigitSaid : Prop := opticalOneDigitRow.holds Tryd.pinned (OpenSpec.ofChange opticalOneDigitSpec)

/-- ITS FALSE NEIGHBOUR: 'it returns false'. Refute it at one input. -/
def opticalOneDigitWrong : ChangeSpec := { name := "opticalOneDigit", fn := fun _ => fun
  | [d1, d2, d3] => { results := [.lit (.bool false)], args := [d1, d2, d3] }
  | _ => none }
def OpticalOneDigitWrongFalsely : Prop := opticalOneDigitRow.holds Tryd.pinned (OpenSpec.ofChange opticalOneDigitWrong)

/-- 'traveldoclaw10.OpticalSplits': WHATEVER THE INPUT: true; the input reads as it did. -/
def opticalSplitsSpec : ChangeSpec := { name := "opticalSplits", fn := fun _ => fun
  | [d] => { results := [.lit (.bool true)], args := [d] }
  | _ => none }
def opticalSplitsRow : OpenClaim := { program := "ytdejgomljelnlaadoor", sum := "0133d81bbb3ce23508299c2d965b5c7db209225db2dbb0d00489b568b3e9095a", func := "traveldoc/traveldoclaw10.OpticalSplits", spec := "opticalSplits", inPlace := ["internal/bytealg.IndexByteString", "internal/bytealg.IndexString", "internal/bytealg.CountString", "internal/abi.NoEscape", "internal/bytealg.MakeNoZero"], unfollowed := true, recurses := true, named := ["unicode/utf8.first", "unicode/utf8.acceptRanges", "internal/bytealg.MaxLen"], apart := false, laid := [("unicode/utf8.acceptRanges", laid_unicode_utf8_acceptRanges), ("unicode/utf8.first", laid_unicode_utf8_first)] }
def OpticalSplitsSaid : Prop := opticalSplitsRow.holds Tryd.pinned (OpenSpec.ofChange opticalSplitsSpec)

/-- ITS FALSE NEIGHBOUR: 'it returns false'. Refute it at one input. -/
def opticalSplitsWrong : ChangeSpec := { name := "opticalSplits", fn := fun _ => fun
  | [d] => { results := [.lit (.bool false)], args := [d] }
  | _ => none }
def OpticalSplitsWrongFalsely : Prop := opticalSplitsRow.holds Tryd.pinned (OpenSpec.ofChange opticalSplitsWrong)

/-- 'traveldoclaw10.OpticalReturns': WHATEVER THE INPUT: true; the input reads as it did. -/
def opticalReturnsSpec : ChangeSpec := { name := "opticalReturns", fn := fun _ => fun
  | [d1, d2] => { results := [.lit (.bool true)], args := [d1, d2] }
  | _ => none }
def opticalReturnsRow : OpenClaim := { program := "ytdejgomljelnlaadoor", sum := "0133d81bbb3ce23508299c2d965b5c7db209225db2dbb0d00489b568b3e9095a", func := "traveldoc/traveldoclaw10.OpticalReturns", spec := "opticalReturns", inPlace := ["internal/bytealg.CountString", "internal/bytealg.IndexByteString", "internal/bytealg.IndexString", "internal/abi.NoEscape", "internal/bytealg.MakeNoZero"], unfollowed := true, recurses := true, named := ["internal/bytealg.MaxLen", "unicode/utf8.first", "unicode/utf8.acceptRanges"], apart := false, laid := [("unicode/utf8.acceptRanges", laid_unicode_utf8_acceptRanges), ("unicode/utf8.first", laid_unicode_utf8_first)] }
def OpticalReturnsSaid : Prop := opticalReturnsRow.holds Tryd.pinned (OpenSpec.ofChange opticalReturnsSpec)

/-- ITS FALSE NEIGHBOUR: 'it returns false'. Refute it at one input. -/
def opticalReturnsWrong : ChangeSpec := { name := "opticalReturns", fn := fun _ => fun
  | [d1, d2] => { results := [.lit (.bool false)], args := [d1, d2] }
  | _ => none }
def OpticalReturnsWrongFalsely : Prop := opticalReturnsRow.holds Tryd.pinned (OpenSpec.ofChange opticalReturnsWrong)

/-- 'traveldoclaw10.OpticalTransliterates': WHATEVER THE INPUT: true; the input reads as it did. -/
def opticalTransliteratesSpec : ChangeSpec := { name := "opticalTransliterates", fn := fun _ => fun
  | [d] => { results := [.lit (.bool true)], args := [d] }
  | _ => none }
def opticalTransliteratesRow : OpenClaim := { program := "ytdejgomljelnlaadoor", sum := "0133d81bbb3ce23508299c2d965b5c7db209225db2dbb0d00489b568b3e9095a", func := "traveldoc/traveldoclaw10.OpticalTransliterates", spec := "opticalTransliterates", inPlace := ["internal/bytealg.IndexByteString", "internal/bytealg.IndexString", "internal/abi.NoEscape", "internal/bytealg.MakeNoZero", "internal/bytealg.CountString"], unfollowed := true, recurses := true, named := ["unicode/utf8.first", "unicode/utf8.acceptRanges", "unicode.CaseRanges", "strings.asciiSpace", "unicode.White_Space", "traveldoc/traveldocref10.rows", "internal/bytealg.MaxLen"], apart := false, laid := [("traveldoc/traveldocref10.rows", laid_traveldoc_traveldocref10_rows), ("unicode/utf8.acceptRanges", laid_unicode_utf8_acceptRanges), ("unicode.White_Space", laid_unicode_White_Space), ("strings.asciiSpace", laid_strings_asciiSpace), ("unicode.CaseRanges", laid_unicode_CaseRanges), ("unicode/utf8.first", laid_unicode_utf8_first)] }
def OpticalTransliteratesSaid : Prop := opticalTransliteratesRow.holds Tryd.pinned (OpenSpec.ofChange opticalTransliteratesSpec)

/-- ITS FALSE NEIGHBOUR: 'it returns false'. Refute it at one input. -/
def opticalTransliteratesWrong : ChangeSpec := { name := "opticalTransliterates", fn := fun _ => fun
  | [d] => { results := [.lit (.bool false)], args := [d] }
  | _ => none }
def OpticalTransliteratesWrongFalsely : Prop := opticalTransliteratesRow.holds Tryd.pinned (OpenSpec.ofChange opticalTransliteratesWrong)

/- THE SECOND FORM. 'bulk': how many values and letters a reading holds, each counted each time it is reached (what is shared counts as often as it is met; a slice's spare places count too). A statement '..UptoSaid' is the law's where the arguments, and the package variables that the reading takes, are together of bulk at most 1048576: NARROWER than '..Said'. Prove '..Said' where nothing that the law and all that it calls make is longer than what came in: it says more and counts as full. Else prove '..UptoSaid'. A law counts once. -/
mutual
def uptoBulk {H : Type} : DataW H → Nat
  | .lit (.string bytes) => bytes.length + 1
  | .lit _ => 1
  | .nil => 1
  | .ptr d => uptoBulk d + 1
  | .slice elems spare => uptoBulkAll elems + uptoBulkAll spare + 1
  | .agg parts => uptoBulkAll parts + 1
  | .iface _ d => uptoBulk d + 1
  | .map entries => uptoBulkEntries entries + 1
  | .held _ => 1
def uptoBulkAll {H : Type} : List (DataW H) → Nat
  | [] => 0
  | d :: r => uptoBulk d + uptoBulkAll r
def uptoBulkEntries {H : Type} : List (Lit × DataW H) → Nat
  | [] => 0
  | x :: r => uptoBulkEntry x + uptoBulkEntries r
def uptoBulkEntry {H : Type} : Lit × DataW H → Nat
  | (.string bytes, d) => bytes.length + uptoBulk d + 1
  | (_, d) => uptoBulk d + 1
 end
def uptoSmall : (H : Type) → List (DataW H) → Bool := fun _ ds => decide (uptoBulkAll ds ≤ 1048576)
def OpenSpec.upto (s : _root_.Go.ChangeSpec) : _root_.Go.OpenSpec := { _root_.Go.OpenSpec.ofChange s with cond := some uptoSmall }

/-- 'traveldoclaw10.OpticalDigits', WHERE WHAT IT READS IS OF BULK AT MOST 1048576: true; the input reads as it did. -/
def opticalDigitsUptoRow : OpenClaim := { program := "ytdejgomljelnlaadoor", sum := "0133d81bbb3ce23508299c2d965b5c7db209225db2dbb0d00489b568b3e9095a", func := "traveldoc/traveldoclaw10.OpticalDigits", spec := "opticalDigits", inPlace := ["internal/bytealg.CountString", "internal/bytealg.IndexByteString", "internal/bytealg.IndexString", "internal/abi.NoEscape", "internal/bytealg.MakeNoZero"], named := ["internal/bytealg.MaxLen", "unicode/utf8.first", "unicode/utf8.acceptRanges"], apart := false, laid := [("unicode/utf8.acceptRanges", laid_unicode_utf8_acceptRanges), ("unicode/utf8.first", laid_unicode_utf8_first)], narrowed := true }
def OpticalDigitsUptoSaid : Prop := opticalDigitsUptoRow.holds Tryd.pinned (OpenSpec.upto opticalDigitsSpec)

/-- 'traveldoclaw10.OpticalNames', WHERE WHAT IT READS IS OF BULK AT MOST 1048576: true; the input reads as it did. -/
def opticalNamesUptoRow : OpenClaim := { program := "ytdejgomljelnlaadoor", sum := "0133d81bbb3ce23508299c2d965b5c7db209225db2dbb0d00489b568b3e9095a", func := "traveldoc/traveldoclaw10.OpticalNames", spec := "opticalNames", inPlace := ["internal/bytealg.CountString", "internal/bytealg.IndexByteString", "internal/bytealg.IndexString", "internal/abi.NoEscape", "internal/bytealg.MakeNoZero"], named := ["internal/bytealg.MaxLen", "unicode/utf8.first", "unicode/utf8.acceptRanges"], apart := false, laid := [("unicode/utf8.acceptRanges", laid_unicode_utf8_acceptRanges), ("unicode/utf8.first", laid_unicode_utf8_first)], narrowed := true }
def OpticalNamesUptoSaid : Prop := opticalNamesUptoRow.holds Tryd.pinned (OpenSpec.upto opticalNamesSpec)

/-- 'traveldoclaw10.OpticalOneDigit', WHERE WHAT IT READS IS OF BULK AT MOST 1048576: true; the input reads as it did. -/
def opticalOneDigitUptoRow : OpenClaim := { program := "ytdejgomljelnlaadoor", sum := "0133d81bbb3ce23508299c2d965b5c7db209225db2dbb0d00489b568b3e9095a", func := "traveldoc/traveldoclaw10.OpticalOneDigit", spec := "opticalOneDigit", inPlace := ["internal/bytealg.CountString", "internal/bytealg.IndexByteString", "internal/bytealg.IndexString", "internal/abi.NoEscape", "internal/bytealg.MakeNoZero"], named := ["internal/bytealg.MaxLen", "unicode/utf8.first", "unicode/utf8.acceptRanges"], apart := false, laid := [("unicode/utf8.acceptRanges", laid_unicode_utf8_acceptRanges), ("unicode/utf8.first", laid_unicode_utf8_first)], narrowed := true }
def OpticalOneDigitUptoSaid : Prop := opticalOneDigitUptoRow.holds Tryd.pinned (OpenSpec.upto opticalOneDigitSpec)

/-- 'traveldoclaw10.OpticalSplits', WHERE WHAT IT READS IS OF BULK AT MOST 1048576: true; the input reads as it did. -/
def opticalSplitsUptoRow : OpenClaim := { program := "ytdejgomljelnlaadoor", sum := "0133d81bbb3ce23508299c2d965b5c7db209225db2dbb0d00489b568b3e9095a", func := "traveldoc/traveldoclaw10.OpticalSplits", spec := "opticalSplits", inPlace := ["internal/bytealg.IndexByteString", "internal/bytealg.IndexString", "internal/bytealg.CountString", "internal/abi.NoEscape", "internal/bytealg.MakeNoZero"], unfollowed := true, recurses := true, named := ["unicode/utf8.first", "unicode/utf8.acceptRanges", "internal/bytealg.MaxLen"], apart := false, laid := [("unicode/utf8.acceptRanges", laid_unicode_utf8_acceptRanges), ("unicode/utf8.first", laid_unicode_utf8_first)], narrowed := true }
def OpticalSplitsUptoSaid : Prop := opticalSplitsUptoRow.holds Tryd.pinned (OpenSpec.upto opticalSplitsSpec)

/-- 'traveldoclaw10.OpticalReturns', WHERE WHAT IT READS IS OF BULK AT MOST 1048576: true; the input reads as it did. -/
def opticalReturnsUptoRow : OpenClaim := { program := "ytdejgomljelnlaadoor", sum := "0133d81bbb3ce23508299c2d965b5c7db209225db2dbb0d00489b568b3e9095a", func := "traveldoc/traveldoclaw10.OpticalReturns", spec := "opticalReturns", inPlace := ["internal/bytealg.CountString", "internal/bytealg.IndexByteString", "internal/bytealg.IndexString", "internal/abi.NoEscape", "internal/bytealg.MakeNoZero"], unfollowed := true, recurses := true, named := ["internal/bytealg.MaxLen", "unicode/utf8.first", "unicode/utf8.acceptRanges"], apart := false, laid := [("unicode/utf8.acceptRanges", laid_unicode_utf8_acceptRanges), ("unicode/utf8.first", laid_unicode_utf8_first)], narrowed := true }
def OpticalReturnsUptoSaid : Prop := opticalReturnsUptoRow.holds Tryd.pinned (OpenSpec.upto opticalReturnsSpec)

/-- 'traveldoclaw10.OpticalTransliterates', WHERE WHAT IT READS IS OF BULK AT MOST 1048576: true; the input reads as it did. -/
def opticalTransliteratesUptoRow : OpenClaim := { program := "ytdejgomljelnlaadoor", sum := "0133d81bbb3ce23508299c2d965b5c7db209225db2dbb0d00489b568b3e9095a", func := "traveldoc/traveldoclaw10.OpticalTransliterates", spec := "opticalTransliterates", inPlace := ["internal/bytealg.IndexByteString", "internal/bytealg.IndexString", "internal/abi.NoEscape", "internal/bytealg.MakeNoZero", "internal/bytealg.CountString"], unfollowed := true, recurses := true, named := ["unicode/utf8.first", "unicode/utf8.acceptRanges", "unicode.CaseRanges", "strings.asciiSpace", "unicode.White_Space", "traveldoc/traveldocref10.rows", "internal/bytealg.MaxLen"], apart := false, laid := [("traveldoc/traveldocref10.rows", laid_traveldoc_traveldocref10_rows), ("unicode/utf8.acceptRanges", laid_unicode_utf8_acceptRanges), ("unicode.White_Space", laid_unicode_White_Space), ("strings.asciiSpace", laid_strings_asciiSpace), ("unicode.CaseRanges", laid_unicode_CaseRanges), ("unicode/utf8.first", laid_unicode_utf8_first)], narrowed := true }
def OpticalTransliteratesUptoSaid : Prop := opticalTransliteratesUptoRow.holds Tryd.pinned (OpenSpec.upto opticalTransliteratesSpec)

end Rows
end Go.Proofs.YtdejgomljelnlaaDoor
