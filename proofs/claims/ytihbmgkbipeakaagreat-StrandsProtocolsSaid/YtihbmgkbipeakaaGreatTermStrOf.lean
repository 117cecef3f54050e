/- Chapter 40: texts of bytes. -/
import Derived.Test.YtihbmgkbipeakaaGreatTermNrm
namespace Go.Proofs.YtihbmgkbipeakaaGreat
open Go.RowKit

/-- A text as a string. -/
def strOf (l : List UInt8) : ByteArray := ⟨l.toArray⟩
theorem strOf_size (l : List UInt8) : (strOf l).size = l.length := str_size l
theorem strOf_data (l : List UInt8) : (strOf l).data.toList = l := by simp [strOf]
end Go.Proofs.YtihbmgkbipeakaaGreat
