/- A digest has 32 bytes. -/
import Derived.Test.YtcamcjcmhjldpaaDoorSm5
namespace Go.Proofs.YtcamcjcmhjldpaaDoor
theorem sha_len (s : List UInt8) : (shaL s).length = 32 := by
  rw [shaL, Sw.digest, H8.bytes, flat_len]
  rfl
end Go.Proofs.YtcamcjcmhjldpaaDoor
