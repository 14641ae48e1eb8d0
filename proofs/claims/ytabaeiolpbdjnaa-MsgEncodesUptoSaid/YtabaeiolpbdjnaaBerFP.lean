/- Plain: a field. No program is named. -/
import Derived.Test.YtabaeiolpbdjnaaBerP
namespace Go.Proofs.Ytabaeiolpbdjnaa

/-- A field with the shortest length. -/
def fieldB (tag : UInt8) (xs : List UInt8) : List UInt8 := tag :: (lenB xs.length ++ xs)
theorem fieldB_length (tag : UInt8) (xs : List UInt8) : (fieldB tag xs).length ≤ xs.length + 6 := by
  have := lenB_le xs.length
  simp [fieldB]; omega

end Go.Proofs.Ytabaeiolpbdjnaa
