/- The reference of package sum: the cube roots of some primes. Written by wip/gen_roots.py. -/
import Derived.Test.YtppckmfaidpliaaDoorRs7
namespace Go.Proofs.YtppckmfaidpliaaDoor
theorem cube_2 : rootN 2 3 41 % 4294967296 = 0x428a2f98 := by decide +kernel
theorem cube_3 : rootN 3 3 41 % 4294967296 = 0x71374491 := by decide +kernel
theorem cube_5 : rootN 5 3 41 % 4294967296 = 0xb5c0fbcf := by decide +kernel
theorem cube_7 : rootN 7 3 41 % 4294967296 = 0xe9b5dba5 := by decide +kernel
theorem cube_11 : rootN 11 3 41 % 4294967296 = 0x3956c25b := by decide +kernel
theorem cube_13 : rootN 13 3 41 % 4294967296 = 0x59f111f1 := by decide +kernel
theorem cube_17 : rootN 17 3 41 % 4294967296 = 0x923f82a4 := by decide +kernel
theorem cube_19 : rootN 19 3 41 % 4294967296 = 0xab1c5ed5 := by decide +kernel
theorem cube_23 : rootN 23 3 41 % 4294967296 = 0xd807aa98 := by decide +kernel
theorem cube_29 : rootN 29 3 41 % 4294967296 = 0x12835b01 := by decide +kernel
theorem cube_31 : rootN 31 3 41 % 4294967296 = 0x243185be := by decide +kernel
theorem cube_37 : rootN 37 3 41 % 4294967296 = 0x550c7dc3 := by decide +kernel
theorem cube_41 : rootN 41 3 41 % 4294967296 = 0x72be5d74 := by decide +kernel
theorem cube_43 : rootN 43 3 41 % 4294967296 = 0x80deb1fe := by decide +kernel
theorem cube_47 : rootN 47 3 41 % 4294967296 = 0x9bdc06a7 := by decide +kernel
theorem cube_53 : rootN 53 3 41 % 4294967296 = 0xc19bf174 := by decide +kernel
theorem cube_59 : rootN 59 3 41 % 4294967296 = 0xe49b69c1 := by decide +kernel
theorem cube_61 : rootN 61 3 41 % 4294967296 = 0xefbe4786 := by decide +kernel
theorem cube_67 : rootN 67 3 41 % 4294967296 = 0x0fc19dc6 := by decide +kernel
theorem cube_71 : rootN 71 3 41 % 4294967296 = 0x240ca1cc := by decide +kernel
theorem cube_73 : rootN 73 3 41 % 4294967296 = 0x2de92c6f := by decide +kernel
theorem cube_79 : rootN 79 3 41 % 4294967296 = 0x4a7484aa := by decide +kernel
end Go.Proofs.YtppckmfaidpliaaDoor
