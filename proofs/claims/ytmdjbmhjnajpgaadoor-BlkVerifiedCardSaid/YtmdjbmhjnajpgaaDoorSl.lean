/- A digest has 32 bytes. -/
import Derived.Test.YtmdjbmhjnajpgaaDoorSm5
namespace Go.Proofs.YtmdjbmhjnajpgaaDoor
theorem sha_len (s : List UInt8) : (shaL s).length = 32 := by
  rw [shaL, Sw.digest, H8.bytes, flat_len]
  rfl
end Go.Proofs.YtmdjbmhjnajpgaaDoor
