/- The reference of package sum: root: what it computes. -/
import Derived.Test.YtppckmfaidpliaaDoorRs6
import Derived.Test.YtppckmfaidpliaaDoorSm3
namespace Go.Proofs.YtppckmfaidpliaaDoor

def goalL (p power : Nat) : List Nat := List.replicate (2 * power) 0 ++ digL p 2
def rootP (power y : Nat) : List Nat := if power = 3 then timesL (timesL (digL y 3) (digL y 3)) (digL y 3) else timesL (digL y 3) (digL y 3)
def rootStep (p power x bit : Nat) : Nat := if aboveN (rootP power (x + 2 ^ bit)) (goalL p power) (max (rootP power (x + 2 ^ bit)).length (goalL p power).length) then x else x + 2 ^ bit
def rootN (p power : Nat) : Nat → Nat
  | 0 => 0
  | s + 1 => rootStep p power (rootN p power s) (40 - s)
theorem roots_two : ((prL 310).take 8).map (fun p => rootN p 2 41 % 4294967296) = H8.begin0.l.map BitVec.toNat := by decide +kernel
theorem root3_2 : rootN 2 3 41 % 4294967296 = 0x428a2f98 := by decide +kernel
end Go.Proofs.YtppckmfaidpliaaDoor
