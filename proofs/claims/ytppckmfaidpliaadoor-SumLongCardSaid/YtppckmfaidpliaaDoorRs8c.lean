/- The reference of package sum: the cube roots of some primes. Written by wip/gen_roots.py. -/
import Derived.Test.YtppckmfaidpliaaDoorRs7
namespace Go.Proofs.YtppckmfaidpliaaDoor
theorem cube_197 : rootN 197 3 41 % 4294967296 = 0xd192e819 := by decide +kernel
theorem cube_199 : rootN 199 3 41 % 4294967296 = 0xd6990624 := by decide +kernel
theorem cube_211 : rootN 211 3 41 % 4294967296 = 0xf40e3585 := by decide +kernel
theorem cube_223 : rootN 223 3 41 % 4294967296 = 0x106aa070 := by decide +kernel
theorem cube_227 : rootN 227 3 41 % 4294967296 = 0x19a4c116 := by decide +kernel
theorem cube_229 : rootN 229 3 41 % 4294967296 = 0x1e376c08 := by decide +kernel
theorem cube_233 : rootN 233 3 41 % 4294967296 = 0x2748774c := by decide +kernel
theorem cube_239 : rootN 239 3 41 % 4294967296 = 0x34b0bcb5 := by decide +kernel
theorem cube_241 : rootN 241 3 41 % 4294967296 = 0x391c0cb3 := by decide +kernel
theorem cube_251 : rootN 251 3 41 % 4294967296 = 0x4ed8aa4a := by decide +kernel
theorem cube_257 : rootN 257 3 41 % 4294967296 = 0x5b9cca4f := by decide +kernel
theorem cube_263 : rootN 263 3 41 % 4294967296 = 0x682e6ff3 := by decide +kernel
theorem cube_269 : rootN 269 3 41 % 4294967296 = 0x748f82ee := by decide +kernel
theorem cube_271 : rootN 271 3 41 % 4294967296 = 0x78a5636f := by decide +kernel
theorem cube_277 : rootN 277 3 41 % 4294967296 = 0x84c87814 := by decide +kernel
theorem cube_281 : rootN 281 3 41 % 4294967296 = 0x8cc70208 := by decide +kernel
theorem cube_283 : rootN 283 3 41 % 4294967296 = 0x90befffa := by decide +kernel
theorem cube_293 : rootN 293 3 41 % 4294967296 = 0xa4506ceb := by decide +kernel
theorem cube_307 : rootN 307 3 41 % 4294967296 = 0xbef9a3f7 := by decide +kernel
theorem cube_311 : rootN 311 3 41 % 4294967296 = 0xc67178f2 := by decide +kernel
end Go.Proofs.YtppckmfaidpliaaDoor
