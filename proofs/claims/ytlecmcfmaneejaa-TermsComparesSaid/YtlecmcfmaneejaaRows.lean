/-
  NARROWER THAN 'FOR EVERY INPUT', by the rows' own cells (each row's printed sentence says how): TermsRaw: loops · TermsCompares: loops.
  DERIVED. THE GIVEN ROWS OF THIS SEAT. 5 by the template 'for every input the law returns true; each argument reads behind the call as it read before'; 0 by the template 'total and deterministic' (their statements: YtlecmcfmaneejaaTotals.lean).
  GIVEN WITH THE SEED: the statements are not yours to turn. If you find one false, say at which input.
  Laid BY PROGRAM, IN A SANDBOX (cutbox-rows.mjs): the forced cells as the released guide's own fill.sh prints them over the translation f349c87cbcab4391… (all of the seat's roots in one cut). By AI agents, Wed Nov 11 2026. No macro, syntax, notation, axiom, sorry.
-/
import Derived.Test.YtlecmcfmaneejaaChecked
import GoSem.Claim
import GoSem.ClaimJoined
import GoSem.ClaimMapViews
import Derived.JoinedTies
import Derived.KernelRfl
namespace Go.Proofs.Ytlecmcfmaneejaa
/- THE CELL 'sum', in the pinned program and in every row, IS THE sha256 OF THE DUMP (.gsa) THAT YtlecmcfmaneejaaProg.lean LOADS. Nothing in Lean hashes anything: it is a label: what it is worth is what the hold of that sum in a sandbox is worth. -/
noncomputable def Try.pinned : Pinned := { name := "ytlecmcfmaneejaa", sum := "f349c87cbcab439172689df262ae26110248538e0fb52c6684d7b2e4da2c6b29", checked := Try.checked }
namespace Rows
def none {H : Type} : Left H := { results := [], args := [] }

/-- 'traveldoclaw40.TermsRaw': WHATEVER THE INPUT: true; the input reads as it did. -/
def termsRawSpec : ChangeSpec := { name := "termsRaw", fn := fun _ => fun
  | [d] => { results := [.lit (.bool true)], args := [d] }
  | _ => none }
def termsRawRow : OpenClaim := { program := "ytlecmcfmaneejaa", sum := "f349c87cbcab439172689df262ae26110248538e0fb52c6684d7b2e4da2c6b29", func := "traveldoc/traveldoclaw40.TermsRaw", spec := "termsRaw", inPlace := ["internal/abi.NoEscape", "internal/bytealg.MakeNoZero"], unfollowed := true, recurses := true, loops := true, apart := false }
def TermsRawSaid : Prop := termsRawRow.holds Try.pinned (OpenSpec.ofChange termsRawSpec)

/-- ITS FALSE NEIGHBOUR: 'it returns false'. Refute it at one input. -/
def termsRawWrong : ChangeSpec := { name := "termsRaw", fn := fun _ => fun
  | [d] => { results := [.lit (.bool false)], args := [d] }
  | _ => none }
def TermsRawWrongFalsely : Prop := termsRawRow.holds Try.pinned (OpenSpec.ofChange termsRawWrong)

/-- 'traveldoclaw40.TermsCompares': WHATEVER THE INPUT: true; the input reads as it did. -/
def termsComparesSpec : ChangeSpec := { name := "termsCompares", fn := fun _ => fun
  | [d1, d2] => { results := [.lit (.bool true)], args := [d1, d2] }
  | _ => none }
def termsComparesRow : OpenClaim := { program := "ytlecmcfmaneejaa", sum := "f349c87cbcab439172689df262ae26110248538e0fb52c6684d7b2e4da2c6b29", func := "traveldoc/traveldoclaw40.TermsCompares", spec := "termsCompares", inPlace := ["internal/abi.NoEscape", "internal/bytealg.MakeNoZero"], unfollowed := true, recurses := true, loops := true, apart := false }
def TermsComparesSaid : Prop := termsComparesRow.holds Try.pinned (OpenSpec.ofChange termsComparesSpec)

/-- ITS FALSE NEIGHBOUR: 'it returns false'. Refute it at one input. -/
def termsComparesWrong : ChangeSpec := { name := "termsCompares", fn := fun _ => fun
  | [d1, d2] => { results := [.lit (.bool false)], args := [d1, d2] }
  | _ => none }
def TermsComparesWrongFalsely : Prop := termsComparesRow.holds Try.pinned (OpenSpec.ofChange termsComparesWrong)

/-- 'traveldoclaw40.TermsParses': WHATEVER THE INPUT: true; the input reads as it did. -/
def termsParsesSpec : ChangeSpec := { name := "termsParses", fn := fun _ => fun
  | [d] => { results := [.lit (.bool true)], args := [d] }
  | _ => none }
def termsParsesRow : OpenClaim := { program := "ytlecmcfmaneejaa", sum := "f349c87cbcab439172689df262ae26110248538e0fb52c6684d7b2e4da2c6b29", func := "traveldoc/traveldoclaw40.TermsParses", spec := "termsParses", inPlace := ["internal/abi.NoEscape", "internal/bytealg.MakeNoZero"], unfollowed := true, recurses := true, apart := false }
def TermsParsesSaid : Prop := termsParsesRow.holds Try.pinned (OpenSpec.ofChange termsParsesSpec)

/-- ITS FALSE NEIGHBOUR: 'it returns false'. Refute it at one input. -/
def termsParsesWrong : ChangeSpec := { name := "termsParses", fn := fun _ => fun
  | [d] => { results := [.lit (.bool false)], args := [d] }
  | _ => none }
def TermsParsesWrongFalsely : Prop := termsParsesRow.holds Try.pinned (OpenSpec.ofChange termsParsesWrong)

/-- 'traveldoclaw40.TermsBack': WHATEVER THE INPUT: true; the input reads as it did. -/
def termsBackSpec : ChangeSpec := { name := "termsBack", fn := fun _ => fun
  | [d1, d2, d3] => { results := [.lit (.bool true)], args := [d1, d2, d3] }
  | _ => none }
def termsBackRow : OpenClaim := { program := "ytlecmcfmaneejaa", sum := "f349c87cbcab439172689df262ae26110248538e0fb52c6684d7b2e4da2c6b29", func := "traveldoc/traveldoclaw40.TermsBack", spec := "termsBack", inPlace := ["internal/abi.NoEscape", "internal/bytealg.MakeNoZero"], unfollowed := true, recurses := true, apart := false }
def TermsBackSaid : Prop := termsBackRow.holds Try.pinned (OpenSpec.ofChange termsBackSpec)

/-- ITS FALSE NEIGHBOUR: 'it returns false'. Refute it at one input. -/
def termsBackWrong : ChangeSpec := { name := "termsBack", fn := fun _ => fun
  | [d1, d2, d3] => { results := [.lit (.bool false)], args := [d1, d2, d3] }
  | _ => none }
def TermsBackWrongFalsely : Prop := termsBackRow.holds Try.pinned (OpenSpec.ofChange termsBackWrong)

/-- 'traveldoclaw40.TermsOrder': WHATEVER THE INPUT: true; the input reads as it did. -/
def termsOrderSpec : ChangeSpec := { name := "termsOrder", fn := fun _ => fun
  | [d] => { results := [.lit (.bool true)], args := [d] }
  | _ => none }
def termsOrderRow : OpenClaim := { program := "ytlecmcfmaneejaa", sum := "f349c87cbcab439172689df262ae26110248538e0fb52c6684d7b2e4da2c6b29", func := "traveldoc/traveldoclaw40.TermsOrder", spec := "termsOrder", inPlace := ["internal/abi.NoEscape", "internal/bytealg.MakeNoZero"], unfollowed := true, recurses := true, apart := false }
def TermsOrderSaid : Prop := termsOrderRow.holds Try.pinned (OpenSpec.ofChange termsOrderSpec)

/-- ITS FALSE NEIGHBOUR: 'it returns false'. Refute it at one input. -/
def termsOrderWrong : ChangeSpec := { name := "termsOrder", fn := fun _ => fun
  | [d] => { results := [.lit (.bool false)], args := [d] }
  | _ => none }
def TermsOrderWrongFalsely : Prop := termsOrderRow.holds Try.pinned (OpenSpec.ofChange termsOrderWrong)

/- THE SECOND FORM. 'bulk': how many values and letters a reading holds, each counted each time it is reached (what is shared counts as often as it is met; a slice's spare places count too). A statement '..UptoSaid' is the law's where the arguments, and the package variables that the reading takes, are together of bulk at most 1048576: NARROWER than '..Said'. Prove '..Said' where nothing that the law and all that it calls make is longer than what came in: it says more and counts as full. Else prove '..UptoSaid'. A law counts once. -/
mutual
def uptoBulk {H : Type} : DataW H → Nat
  | .lit (.string bytes) => bytes.length + 1
  | .lit _ => 1
  | .nil => 1
  | .ptr d => uptoBulk d + 1
  | .slice elems spare => uptoBulkAll elems + uptoBulkAll spare + 1
  | .agg parts => uptoBulkAll parts + 1
  | .iface _ d => uptoBulk d + 1
  | .map entries => uptoBulkEntries entries + 1
  | .held _ => 1
def uptoBulkAll {H : Type} : List (DataW H) → Nat
  | [] => 0
  | d :: r => uptoBulk d + uptoBulkAll r
def uptoBulkEntries {H : Type} : List (Lit × DataW H) → Nat
  | [] => 0
  | x :: r => uptoBulkEntry x + uptoBulkEntries r
def uptoBulkEntry {H : Type} : Lit × DataW H → Nat
  | (.string bytes, d) => bytes.length + uptoBulk d + 1
  | (_, d) => uptoBulk d + 1
 end
def uptoSmall : (H : Type) → List (DataW H) → Bool := fun _ ds => decide (uptoBulkAll ds ≤ 1048576)
def OpenSpec.upto (s : _root_.Go.ChangeSpec) : _root_.Go.OpenSpec := { _root_.Go.OpenSpec.ofChange s with cond := some uptoSmall }

/-- 'traveldoclaw40.TermsRaw', WHERE WHAT IT READS IS OF BULK AT MOST 1048576: true; the input reads as it did. -/
def termsRawUptoRow : OpenClaim := { program := "ytlecmcfmaneejaa", sum := "f349c87cbcab439172689df262ae26110248538e0fb52c6684d7b2e4da2c6b29", func := "traveldoc/traveldoclaw40.TermsRaw", spec := "termsRaw", inPlace := ["internal/abi.NoEscape", "internal/bytealg.MakeNoZero"], unfollowed := true, recurses := true, loops := true, apart := false, narrowed := true }
def TermsRawUptoSaid : Prop := termsRawUptoRow.holds Try.pinned (OpenSpec.upto termsRawSpec)

/-- 'traveldoclaw40.TermsCompares', WHERE WHAT IT READS IS OF BULK AT MOST 1048576: true; the input reads as it did. -/
def termsComparesUptoRow : OpenClaim := { program := "ytlecmcfmaneejaa", sum := "f349c87cbcab439172689df262ae26110248538e0fb52c6684d7b2e4da2c6b29", func := "traveldoc/traveldoclaw40.TermsCompares", spec := "termsCompares", inPlace := ["internal/abi.NoEscape", "internal/bytealg.MakeNoZero"], unfollowed := true, recurses := true, loops := true, apart := false, narrowed := true }
def TermsComparesUptoSaid : Prop := termsComparesUptoRow.holds Try.pinned (OpenSpec.upto termsComparesSpec)

/-- 'traveldoclaw40.TermsParses', WHERE WHAT IT READS IS OF BULK AT MOST 1048576: true; the input reads as it did. -/
def termsParsesUptoRow : OpenClaim := { program := "ytlecmcfmaneejaa", sum := "f349c87cbcab439172689df262ae26110248538e0fb52c6684d7b2e4da2c6b29", func := "traveldoc/traveldoclaw40.TermsParses", spec := "termsParses", inPlace := ["internal/abi.NoEscape", "internal/bytealg.MakeNoZero"], unfollowed := true, recurses := true, apart := false, narrowed := true }
def TermsParsesUptoSaid : Prop := termsParsesUptoRow.holds Try.pinned (OpenSpec.upto termsParsesSpec)

/-- 'traveldoclaw40.TermsBack', WHERE WHAT IT READS IS OF BULK AT MOST 1048576: true; the input reads as it did. -/
def termsBackUptoRow : OpenClaim := { program := "ytlecmcfmaneejaa", sum := "f349c87cbcab439172689df262ae26110248538e0fb52c6684d7b2e4da2c6b29", func := "traveldoc/traveldoclaw40.TermsBack", spec := "termsBack", inPlace := ["internal/abi.NoEscape", "internal/bytealg.MakeNoZero"], unfollowed := true, recurses := true, apart := false, narrowed := true }
def TermsBackUptoSaid : Prop := termsBackUptoRow.holds Try.pinned (OpenSpec.upto termsBackSpec)

/-- 'traveldoclaw40.TermsOrder', WHERE WHAT IT READS IS OF BULK AT MOST 1048576: true; the input reads as it did. -/
def termsOrderUptoRow : OpenClaim := { program := "ytlecmcfmaneejaa", sum := "f349c87cbcab439172689df262ae26110248538e0fb52c6684d7b2e4da2c6b29", func := "traveldoc/traveldoclaw40.TermsOrder", spec := "termsOrder", inPlace := ["internal/abi.NoEscape", "internal/bytealg.MakeNoZero"], unfollowed := true, recurses := true, apart := false, narrowed := true }
def TermsOrderUptoSaid : Prop := termsOrderUptoRow.holds Try.pinned (OpenSpec.upto termsOrderSpec)

end Rows
end Go.Proofs.Ytlecmcfmaneejaa
