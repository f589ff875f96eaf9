/- Every string is of a list of bytes. -/
import Derived.Test.YthbodgnoadlbcaaDoorK0
namespace Go.Proofs.YthbodgnoadlbcaaDoor.Asl
open Go.RowKit
theorem ofL_all (b : ByteArray) : ∃ l : List UInt8, b = ofL l := ⟨b.data.toList, by cases b; simp [ofL]⟩
end Go.Proofs.YthbodgnoadlbcaaDoor.Asl
