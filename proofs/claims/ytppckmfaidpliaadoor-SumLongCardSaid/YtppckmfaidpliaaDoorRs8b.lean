/- The reference of package sum: the cube roots of some primes. Written by wip/gen_roots.py. -/
import Derived.Test.YtppckmfaidpliaaDoorRs7
namespace Go.Proofs.YtppckmfaidpliaaDoor
theorem cube_83 : rootN 83 3 41 % 4294967296 = 0x5cb0a9dc := by decide +kernel
theorem cube_89 : rootN 89 3 41 % 4294967296 = 0x76f988da := by decide +kernel
theorem cube_97 : rootN 97 3 41 % 4294967296 = 0x983e5152 := by decide +kernel
theorem cube_101 : rootN 101 3 41 % 4294967296 = 0xa831c66d := by decide +kernel
theorem cube_103 : rootN 103 3 41 % 4294967296 = 0xb00327c8 := by decide +kernel
theorem cube_107 : rootN 107 3 41 % 4294967296 = 0xbf597fc7 := by decide +kernel
theorem cube_109 : rootN 109 3 41 % 4294967296 = 0xc6e00bf3 := by decide +kernel
theorem cube_113 : rootN 113 3 41 % 4294967296 = 0xd5a79147 := by decide +kernel
theorem cube_127 : rootN 127 3 41 % 4294967296 = 0x06ca6351 := by decide +kernel
theorem cube_131 : rootN 131 3 41 % 4294967296 = 0x14292967 := by decide +kernel
theorem cube_137 : rootN 137 3 41 % 4294967296 = 0x27b70a85 := by decide +kernel
theorem cube_139 : rootN 139 3 41 % 4294967296 = 0x2e1b2138 := by decide +kernel
theorem cube_149 : rootN 149 3 41 % 4294967296 = 0x4d2c6dfc := by decide +kernel
theorem cube_151 : rootN 151 3 41 % 4294967296 = 0x53380d13 := by decide +kernel
theorem cube_157 : rootN 157 3 41 % 4294967296 = 0x650a7354 := by decide +kernel
theorem cube_163 : rootN 163 3 41 % 4294967296 = 0x766a0abb := by decide +kernel
theorem cube_167 : rootN 167 3 41 % 4294967296 = 0x81c2c92e := by decide +kernel
theorem cube_173 : rootN 173 3 41 % 4294967296 = 0x92722c85 := by decide +kernel
theorem cube_179 : rootN 179 3 41 % 4294967296 = 0xa2bfe8a1 := by decide +kernel
theorem cube_181 : rootN 181 3 41 % 4294967296 = 0xa81a664b := by decide +kernel
theorem cube_191 : rootN 191 3 41 % 4294967296 = 0xc24b8b70 := by decide +kernel
theorem cube_193 : rootN 193 3 41 % 4294967296 = 0xc76c51a3 := by decide +kernel
end Go.Proofs.YtppckmfaidpliaaDoor
