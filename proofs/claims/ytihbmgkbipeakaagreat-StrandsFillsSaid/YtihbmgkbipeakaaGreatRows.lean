/-
  NARROWER THAN 'FOR EVERY INPUT', by the rows' own cells (each row's printed sentence says how): DeductionChecks: loops · DeductionRaw: loops · StrandsValid: loops.
  DERIVED. THE GIVEN ROWS OF THIS SEAT. 7 by the template 'for every input the law returns true; each argument reads behind the call as it read before'; 0 by the template 'total and deterministic' (their statements: YtihbmgkbipeakaaGreatTotals.lean).
  GIVEN WITH THE SEED: the statements are not yours to turn. If you find one false, say at which input.
  Laid BY PROGRAM, IN A SANDBOX (cutbox-rows.mjs): the forced cells as the released guide's own fill.sh prints them over the translation d15d41790edfaceb… (all of the seat's roots in one cut). By AI agents, Wed Nov 11 2026. No macro, syntax, notation, axiom, sorry.
-/
import Derived.Test.YtihbmgkbipeakaaGreatChecked
import GoSem.Claim
import GoSem.ClaimJoined
import GoSem.ClaimMapViews
import Derived.JoinedTies
import Derived.KernelRfl
namespace Go.Proofs.YtihbmgkbipeakaaGreat
/- THE CELL 'sum', in the pinned program and in every row, IS THE sha256 OF THE DUMP (.gsa) THAT YtihbmgkbipeakaaGreatProg.lean LOADS. Nothing in Lean hashes anything: it is a label: what it is worth is what the hold of that sum in a sandbox is worth. -/
noncomputable def Tryz.pinned : Pinned := { name := "ytihbmgkbipeakaagreat", sum := "d15d41790edfacebac5d3c746dc5375a172c891cff23f5e5d61360d484ff8334", checked := Tryz.checked }
namespace Rows
def none {H : Type} : Left H := { results := [], args := [] }

/-- 'traveldoclaw41.DeductionChecks': WHATEVER THE INPUT: true; the input reads as it did. -/
def deductionChecksSpec : ChangeSpec := { name := "deductionChecks", fn := fun _ => fun
  | [d1, d2, d3, d4, d5, d6] => { results := [.lit (.bool true)], args := [d1, d2, d3, d4, d5, d6] }
  | _ => none }
def deductionChecksRow : OpenClaim := { program := "ytihbmgkbipeakaagreat", sum := "d15d41790edfacebac5d3c746dc5375a172c891cff23f5e5d61360d484ff8334", func := "traveldoc/traveldoclaw41.DeductionChecks", spec := "deductionChecks", inPlace := ["internal/abi.NoEscape", "internal/bytealg.MakeNoZero"], unfollowed := true, recurses := true, loops := true, apart := false }
def DeductionChecksSaid : Prop := deductionChecksRow.holds Tryz.pinned (OpenSpec.ofChange deductionChecksSpec)

/-- ITS FALSE NEIGHBOUR: 'it returns false'. Refute it at one input. -/
def deductionChecksWrong : ChangeSpec := { name := "deductionChecks", fn := fun _ => fun
  | [d1, d2, d3, d4, d5, d6] => { results := [.lit (.bool false)], args := [d1, d2, d3, d4, d5, d6] }
  | _ => none }
def DeductionChecksWrongFalsely : Prop := deductionChecksRow.holds Tryz.pinned (OpenSpec.ofChange deductionChecksWrong)

/-- 'traveldoclaw41.DeductionRaw': WHATEVER THE INPUT: true; the input reads as it did. -/
def deductionRawSpec : ChangeSpec := { name := "deductionRaw", fn := fun _ => fun
  | [d1, d2] => { results := [.lit (.bool true)], args := [d1, d2] }
  | _ => none }
def deductionRawRow : OpenClaim := { program := "ytihbmgkbipeakaagreat", sum := "d15d41790edfacebac5d3c746dc5375a172c891cff23f5e5d61360d484ff8334", func := "traveldoc/traveldoclaw41.DeductionRaw", spec := "deductionRaw", inPlace := ["internal/abi.NoEscape", "internal/bytealg.MakeNoZero"], unfollowed := true, recurses := true, loops := true, apart := false }
def DeductionRawSaid : Prop := deductionRawRow.holds Tryz.pinned (OpenSpec.ofChange deductionRawSpec)

/-- ITS FALSE NEIGHBOUR: 'it returns false'. Refute it at one input. -/
def deductionRawWrong : ChangeSpec := { name := "deductionRaw", fn := fun _ => fun
  | [d1, d2] => { results := [.lit (.bool false)], args := [d1, d2] }
  | _ => none }
def DeductionRawWrongFalsely : Prop := deductionRawRow.holds Tryz.pinned (OpenSpec.ofChange deductionRawWrong)

/-- 'traveldoclaw41.DeductionMade': WHATEVER THE INPUT: true; the input reads as it did. -/
def deductionMadeSpec : ChangeSpec := { name := "deductionMade", fn := fun _ => fun
  | [d1, d2, d3] => { results := [.lit (.bool true)], args := [d1, d2, d3] }
  | _ => none }
def deductionMadeRow : OpenClaim := { program := "ytihbmgkbipeakaagreat", sum := "d15d41790edfacebac5d3c746dc5375a172c891cff23f5e5d61360d484ff8334", func := "traveldoc/traveldoclaw41.DeductionMade", spec := "deductionMade", inPlace := ["internal/abi.NoEscape", "internal/bytealg.MakeNoZero"], unfollowed := true, recurses := true, apart := false }
def DeductionMadeSaid : Prop := deductionMadeRow.holds Tryz.pinned (OpenSpec.ofChange deductionMadeSpec)

/-- ITS FALSE NEIGHBOUR: 'it returns false'. Refute it at one input. -/
def deductionMadeWrong : ChangeSpec := { name := "deductionMade", fn := fun _ => fun
  | [d1, d2, d3] => { results := [.lit (.bool false)], args := [d1, d2, d3] }
  | _ => none }
def DeductionMadeWrongFalsely : Prop := deductionMadeRow.holds Tryz.pinned (OpenSpec.ofChange deductionMadeWrong)

/-- 'traveldoclaw41.DeductionGrows': WHATEVER THE INPUT: true; the input reads as it did. -/
def deductionGrowsSpec : ChangeSpec := { name := "deductionGrows", fn := fun _ => fun
  | [d1, d2, d3, d4] => { results := [.lit (.bool true)], args := [d1, d2, d3, d4] }
  | _ => none }
def deductionGrowsRow : OpenClaim := { program := "ytihbmgkbipeakaagreat", sum := "d15d41790edfacebac5d3c746dc5375a172c891cff23f5e5d61360d484ff8334", func := "traveldoc/traveldoclaw41.DeductionGrows", spec := "deductionGrows", inPlace := ["internal/abi.NoEscape", "internal/bytealg.MakeNoZero"], unfollowed := true, recurses := true, apart := false }
def DeductionGrowsSaid : Prop := deductionGrowsRow.holds Tryz.pinned (OpenSpec.ofChange deductionGrowsSpec)

/-- ITS FALSE NEIGHBOUR: 'it returns false'. Refute it at one input. -/
def deductionGrowsWrong : ChangeSpec := { name := "deductionGrows", fn := fun _ => fun
  | [d1, d2, d3, d4] => { results := [.lit (.bool false)], args := [d1, d2, d3, d4] }
  | _ => none }
def DeductionGrowsWrongFalsely : Prop := deductionGrowsRow.holds Tryz.pinned (OpenSpec.ofChange deductionGrowsWrong)

/-- 'traveldoclaw42.StrandsValid': WHATEVER THE INPUT: true; the input reads as it did. -/
def strandsValidSpec : ChangeSpec := { name := "strandsValid", fn := fun _ => fun
  | [d] => { results := [.lit (.bool true)], args := [d] }
  | _ => none }
def strandsValidRow : OpenClaim := { program := "ytihbmgkbipeakaagreat", sum := "d15d41790edfacebac5d3c746dc5375a172c891cff23f5e5d61360d484ff8334", func := "traveldoc/traveldoclaw42.StrandsValid", spec := "strandsValid", inPlace := ["internal/bytealg.abigen_runtime_cmpstring", "slices.overlaps[traveldoc/api.Binding]", "internal/bytealg.IndexByteString"], unfollowed := true, recurses := true, loops := true, apart := false }
def StrandsValidSaid : Prop := strandsValidRow.holds Tryz.pinned (OpenSpec.ofChange strandsValidSpec)

/-- ITS FALSE NEIGHBOUR: 'it returns false'. Refute it at one input. -/
def strandsValidWrong : ChangeSpec := { name := "strandsValid", fn := fun _ => fun
  | [d] => { results := [.lit (.bool false)], args := [d] }
  | _ => none }
def StrandsValidWrongFalsely : Prop := strandsValidRow.holds Tryz.pinned (OpenSpec.ofChange strandsValidWrong)

/-- 'traveldoclaw42.StrandsProtocols': WHATEVER THE INPUT: true; the input reads as it did. -/
def strandsProtocolsSpec : ChangeSpec := { name := "strandsProtocols", fn := fun _ => fun
  | [d1, d2] => { results := [.lit (.bool true)], args := [d1, d2] }
  | _ => none }
def strandsProtocolsRow : OpenClaim := { program := "ytihbmgkbipeakaagreat", sum := "d15d41790edfacebac5d3c746dc5375a172c891cff23f5e5d61360d484ff8334", func := "traveldoc/traveldoclaw42.StrandsProtocols", spec := "strandsProtocols", inPlace := ["internal/bytealg.abigen_runtime_cmpstring", "slices.overlaps[traveldoc/api.Binding]", "internal/bytealg.IndexByteString"], unfollowed := true, recurses := true, apart := false }
def StrandsProtocolsSaid : Prop := strandsProtocolsRow.holds Tryz.pinned (OpenSpec.ofChange strandsProtocolsSpec)

/-- ITS FALSE NEIGHBOUR: 'it returns false'. Refute it at one input. -/
def strandsProtocolsWrong : ChangeSpec := { name := "strandsProtocols", fn := fun _ => fun
  | [d1, d2] => { results := [.lit (.bool false)], args := [d1, d2] }
  | _ => none }
def StrandsProtocolsWrongFalsely : Prop := strandsProtocolsRow.holds Tryz.pinned (OpenSpec.ofChange strandsProtocolsWrong)

/-- 'traveldoclaw42.StrandsFills': WHATEVER THE INPUT: true; the input reads as it did. -/
def strandsFillsSpec : ChangeSpec := { name := "strandsFills", fn := fun _ => fun
  | [d1, d2] => { results := [.lit (.bool true)], args := [d1, d2] }
  | _ => none }
def strandsFillsRow : OpenClaim := { program := "ytihbmgkbipeakaagreat", sum := "d15d41790edfacebac5d3c746dc5375a172c891cff23f5e5d61360d484ff8334", func := "traveldoc/traveldoclaw42.StrandsFills", spec := "strandsFills", inPlace := ["internal/bytealg.abigen_runtime_cmpstring", "slices.overlaps[traveldoc/api.Binding]", "internal/bytealg.IndexByteString"], unfollowed := true, recurses := true, apart := false }
def StrandsFillsSaid : Prop := strandsFillsRow.holds Tryz.pinned (OpenSpec.ofChange strandsFillsSpec)

/-- ITS FALSE NEIGHBOUR: 'it returns false'. Refute it at one input. -/
def strandsFillsWrong : ChangeSpec := { name := "strandsFills", fn := fun _ => fun
  | [d1, d2] => { results := [.lit (.bool false)], args := [d1, d2] }
  | _ => none }
def StrandsFillsWrongFalsely : Prop := strandsFillsRow.holds Tryz.pinned (OpenSpec.ofChange strandsFillsWrong)

/- THE SECOND FORM. 'bulk': how many values and letters a reading holds, each counted each time it is reached (what is shared counts as often as it is met; a slice's spare places count too). A statement '..UptoSaid' is the law's where the arguments, and the package variables that the reading takes, are together of bulk at most 1048576: NARROWER than '..Said'. Prove '..Said' where nothing that the law and all that it calls make is longer than what came in: it says more and counts as full. Else prove '..UptoSaid'. A law counts once. -/
mutual
def uptoBulk {H : Type} : DataW H → Nat
  | .lit (.string bytes) => bytes.length + 1
  | .lit _ => 1
  | .nil => 1
  | .ptr d => uptoBulk d + 1
  | .slice elems spare => uptoBulkAll elems + uptoBulkAll spare + 1
  | .agg parts => uptoBulkAll parts + 1
  | .iface _ d => uptoBulk d + 1
  | .map entries => uptoBulkEntries entries + 1
  | .held _ => 1
def uptoBulkAll {H : Type} : List (DataW H) → Nat
  | [] => 0
  | d :: r => uptoBulk d + uptoBulkAll r
def uptoBulkEntries {H : Type} : List (Lit × DataW H) → Nat
  | [] => 0
  | x :: r => uptoBulkEntry x + uptoBulkEntries r
def uptoBulkEntry {H : Type} : Lit × DataW H → Nat
  | (.string bytes, d) => bytes.length + uptoBulk d + 1
  | (_, d) => uptoBulk d + 1
 end
def uptoSmall : (H : Type) → List (DataW H) → Bool := fun _ ds => decide (uptoBulkAll ds ≤ 1048576)
def OpenSpec.upto (s : _root_.Go.ChangeSpec) : _root_.Go.OpenSpec := { _root_.Go.OpenSpec.ofChange s with cond := some uptoSmall }

/-- 'traveldoclaw41.DeductionChecks', WHERE WHAT IT READS IS OF BULK AT MOST 1048576: true; the input reads as it did. -/
def deductionChecksUptoRow : OpenClaim := { program := "ytihbmgkbipeakaagreat", sum := "d15d41790edfacebac5d3c746dc5375a172c891cff23f5e5d61360d484ff8334", func := "traveldoc/traveldoclaw41.DeductionChecks", spec := "deductionChecks", inPlace := ["internal/abi.NoEscape", "internal/bytealg.MakeNoZero"], unfollowed := true, recurses := true, loops := true, apart := false, narrowed := true }
def DeductionChecksUptoSaid : Prop := deductionChecksUptoRow.holds Tryz.pinned (OpenSpec.upto deductionChecksSpec)

/-- 'traveldoclaw41.DeductionRaw', WHERE WHAT IT READS IS OF BULK AT MOST 1048576: true; the input reads as it did. -/
def deductionRawUptoRow : OpenClaim := { program := "ytihbmgkbipeakaagreat", sum := "d15d41790edfacebac5d3c746dc5375a172c891cff23f5e5d61360d484ff8334", func := "traveldoc/traveldoclaw41.DeductionRaw", spec := "deductionRaw", inPlace := ["internal/abi.NoEscape", "internal/bytealg.MakeNoZero"], unfollowed := true, recurses := true, loops := true, apart := false, narrowed := true }
def DeductionRawUptoSaid : Prop := deductionRawUptoRow.holds Tryz.pinned (OpenSpec.upto deductionRawSpec)

/-- 'traveldoclaw41.DeductionMade', WHERE WHAT IT READS IS OF BULK AT MOST 1048576: true; the input reads as it did. -/
def deductionMadeUptoRow : OpenClaim := { program := "ytihbmgkbipeakaagreat", sum := "d15d41790edfacebac5d3c746dc5375a172c891cff23f5e5d61360d484ff8334", func := "traveldoc/traveldoclaw41.DeductionMade", spec := "deductionMade", inPlace := ["internal/abi.NoEscape", "internal/bytealg.MakeNoZero"], unfollowed := true, recurses := true, apart := false, narrowed := true }
def DeductionMadeUptoSaid : Prop := deductionMadeUptoRow.holds Tryz.pinned (OpenSpec.upto deductionMadeSpec)

/-- 'traveldoclaw41.DeductionGrows', WHERE WHAT IT READS IS OF BULK AT MOST 1048576: true; the input reads as it did. -/
def deductionGrowsUptoRow : OpenClaim := { program := "ytihbmgkbipeakaagreat", sum := "d15d41790edfacebac5d3c746dc5375a172c891cff23f5e5d61360d484ff8334", func := "traveldoc/traveldoclaw41.DeductionGrows", spec := "deductionGrows", inPlace := ["internal/abi.NoEscape", "internal/bytealg.MakeNoZero"], unfollowed := true, recurses := true, apart := false, narrowed := true }
def DeductionGrowsUptoSaid : Prop := deductionGrowsUptoRow.holds Tryz.pinned (OpenSpec.upto deductionGrowsSpec)

/-- 'traveldoclaw42.StrandsValid', WHERE WHAT IT READS IS OF BULK AT MOST 1048576: true; the input reads as it did. -/
def strandsValidUptoRow : OpenClaim := { program := "ytihbmgkbipeakaagreat", sum := "d15d41790edfacebac5d3c746dc5375a172c891cff23f5e5d61360d484ff8334", func := "traveldoc/traveldoclaw42.StrandsValid", spec := "strandsValid", inPlace := ["internal/bytealg.abigen_runtime_cmpstring", "slices.overlaps[traveldoc/api.Binding]", "internal/bytealg.IndexByteString"], unfollowed := true, recurses := true, loops := true, apart := false, narrowed := true }
def StrandsValidUptoSaid : Prop := strandsValidUptoRow.holds Tryz.pinned (OpenSpec.upto strandsValidSpec)

/-- 'traveldoclaw42.StrandsProtocols', WHERE WHAT IT READS IS OF BULK AT MOST 1048576: true; the input reads as it did. -/
def strandsProtocolsUptoRow : OpenClaim := { program := "ytihbmgkbipeakaagreat", sum := "d15d41790edfacebac5d3c746dc5375a172c891cff23f5e5d61360d484ff8334", func := "traveldoc/traveldoclaw42.StrandsProtocols", spec := "strandsProtocols", inPlace := ["internal/bytealg.abigen_runtime_cmpstring", "slices.overlaps[traveldoc/api.Binding]", "internal/bytealg.IndexByteString"], unfollowed := true, recurses := true, apart := false, narrowed := true }
def StrandsProtocolsUptoSaid : Prop := strandsProtocolsUptoRow.holds Tryz.pinned (OpenSpec.upto strandsProtocolsSpec)

/-- 'traveldoclaw42.StrandsFills', WHERE WHAT IT READS IS OF BULK AT MOST 1048576: true; the input reads as it did. -/
def strandsFillsUptoRow : OpenClaim := { program := "ytihbmgkbipeakaagreat", sum := "d15d41790edfacebac5d3c746dc5375a172c891cff23f5e5d61360d484ff8334", func := "traveldoc/traveldoclaw42.StrandsFills", spec := "strandsFills", inPlace := ["internal/bytealg.abigen_runtime_cmpstring", "slices.overlaps[traveldoc/api.Binding]", "internal/bytealg.IndexByteString"], unfollowed := true, recurses := true, apart := false, narrowed := true }
def StrandsFillsUptoSaid : Prop := strandsFillsUptoRow.holds Tryz.pinned (OpenSpec.upto strandsFillsSpec)

end Rows
end Go.Proofs.YtihbmgkbipeakaaGreat
