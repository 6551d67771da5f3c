/- Plain words for the contracts: bytes, numbers written the least byte first, texts filled with bytes 0. No program in sight. -/
import Derived.IntWalk
namespace Go.Proofs.Flat

/-- A text made longer by bytes 0, or cut. -/
def fillS (s : ByteArray) (n : Int) : ByteArray :=
  if n.toNat ≤ s.size then s.extract 0 n.toNat else s ++ ⟨(List.replicate (n.toNat - s.size) (0 : UInt8)).toArray⟩

end Go.Proofs.Flat
