/- Several texts in one. Package sum: words of 32 bits; right: its contract. Package sum: behind: its contract. strings.Builder at a seat without WriteString: copyCheck (with its frame), WriteByte, Write, String. Package sum: begin, New, Write: their contracts. Package sum: Sum, Of, Len: their contracts. Package sum: Sum at none, Of, Len, Write at none. Written by wip/gen_sm5.py. -/
import Derived.Test.YtmdjbmhjnajpgaaDoorOwn
import Derived.IntWalk
import Derived.Laws.CopyOwn
import Derived.Test.YtmdjbmhjnajpgaaDoorMem
import Derived.Test.YtmdjbmhjnajpgaaDoorShelf
import Derived.Lib.Builder
namespace Go.Proofs.YtmdjbmhjnajpgaaDoor
open Go.RowKit
set_option maxRecDepth 100000
set_option linter.unusedSimpArgs false
set_option linter.unnecessarySimpa false
set_option linter.unusedVariables false

/-- a word's number -/
def u (x : BitVec 32) : Int := (x.toNat : Int)
theorem u_lo (x : BitVec 32) : 0 ≤ u x := Int.natCast_nonneg _
theorem u_hi (x : BitVec 32) : u x < 4294967296 := by have := x.isLt; unfold u; omega
theorem u_of (x : BitVec 32) : BitVec.ofInt 32 (u x) = x := by unfold u; simp
theorem u_wrap (x : BitVec 32) : IntKind.u32.wrap (u x) = u x := by rw [IntKind.wrap_u32]; have := u_lo x; have := u_hi x; omega
theorem u_mod (x : BitVec 32) : u x % 4294967296 = u x := by have := u_lo x; have := u_hi x; omega
theorem u_xor (x y : BitVec 32) : bits .xor .u32 (u x) (u y) = u (x ^^^ y) := by
  show IntKind.u32.wrap ((BitVec.ofInt 32 (u x) ^^^ BitVec.ofInt 32 (u y)).toNat : Int) = _
  rw [u_of, u_of]; exact u_wrap _
theorem u_and (x y : BitVec 32) : bits .and .u32 (u x) (u y) = u (x &&& y) := by
  show IntKind.u32.wrap ((BitVec.ofInt 32 (u x) &&& BitVec.ofInt 32 (u y)).toNat : Int) = _
  rw [u_of, u_of]; exact u_wrap _
theorem u_or (x y : BitVec 32) : bits .or .u32 (u x) (u y) = u (x ||| y) := by
  show IntKind.u32.wrap ((BitVec.ofInt 32 (u x) ||| BitVec.ofInt 32 (u y)).toNat : Int) = _
  rw [u_of, u_of]; exact u_wrap _
theorem u_add (x y : BitVec 32) : IntKind.u32.wrap (u x + u y) = u (x + y) := by
  rw [IntKind.wrap_u32]
  unfold u
  rw [BitVec.toNat_add]
  omega
theorem u_add' (x y : BitVec 32) : (u x + u y) % 4294967296 = u (x + y) := by rw [← u_add, IntKind.wrap_u32]
theorem u_shr (x : BitVec 32) (k : Nat) : u x / (2 ^ k : Int) = u (x >>> k) := by
  unfold u
  rw [BitVec.toNat_ushiftRight, Nat.shiftRight_eq_div_pow]
  push_cast
  rfl
theorem u_shl (x : BitVec 32) (k : Nat) : u x * (2 ^ k : Int) % 4294967296 = u (x <<< k) := by
  have h : (x <<< k).toNat = (x.toNat * 2 ^ k) % 4294967296 := by rw [BitVec.toNat_shiftLeft, Nat.shiftLeft_eq]
  unfold u
  rw [h, Int.natCast_emod, Int.natCast_mul, Int.natCast_pow]
  rfl

theorem u_shlw (x : BitVec 32) (k : Nat) : IntKind.u32.wrap (u x * (2 ^ k : Int)) = u (x <<< k) := by rw [IntKind.wrap_u32]; exact u_shl x k

/-- rotated right -/
def rotr (x : BitVec 32) (k : Nat) : BitVec 32 := (x >>> k) ||| (x <<< (32 - k))
set_option maxHeartbeats 1000000 in
theorem right_any (x : BitVec 32) (k : Nat) (hk : k ≤ 32) (w : World) :
    Calls Tryd.prog 62 #[.int .u32 (u x), .int .i64 k] w fun e w' => e = .returned (.int .u32 (u (rotr x k))) ∧ ∃ n, w' = w.drewN n := by
  have h0 := u_lo x
  have h1 := u_hi x
  have e1 := u_shr x k
  have e2 := u_shl x (32 - k)
  have e3 := u_or (x >>> k) (x <<< (32 - k))
  have e4 : ((32 : Int) - k).toNat = 32 - k := by omega
  go_enter Tryd.func62, Tryd.ntmps62
  go_wp2_with fail
  go_quiet (fail)
  go_wp2
  go_ret
  exact ⟨rfl, _, rfl⟩

end Go.Proofs.YtmdjbmhjnajpgaaDoor
namespace Go.Proofs.YtmdjbmhjnajpgaaDoor
open Go.RowKit
set_option maxRecDepth 100000
set_option linter.unusedSimpArgs false
set_option linter.unnecessarySimpa false
set_option linter.unusedVariables false

/-- the cells of words -/
def wcells (l : List (BitVec 32)) : Array Value := (l.map fun x => Value.int .u32 (u x)).toArray
def byteW (b : UInt8) : BitVec 32 := BitVec.ofNat 32 b.toNat
/-- a word out of the first n bytes from place k on -/
def joinW (s : List UInt8) (k : Nat) : Nat → BitVec 32
  | 0 => 0
  | n + 1 => (joinW s k n <<< 8) ||| byteW (s.getD (k + n) 0)
def nextW (l : List (BitVec 32)) (t : Nat) : BitVec 32 :=
  ((rotr (l.getD (t - 2) 0) 17 ^^^ rotr (l.getD (t - 2) 0) 19) ^^^ (l.getD (t - 2) 0 >>> 10)) + l.getD (t - 7) 0 + ((rotr (l.getD (t - 15) 0) 7 ^^^ rotr (l.getD (t - 15) 0) 18) ^^^ (l.getD (t - 15) 0 >>> 3)) + l.getD (t - 16) 0
def schedW (s : List UInt8) : Nat → List (BitVec 32)
  | 0 => []
  | t + 1 => schedW s t ++ [if t < 16 then joinW s (4 * t) 4 else nextW (schedW s t) t]
theorem schedW_len (s : List UInt8) : ∀ t, (schedW s t).length = t
  | 0 => rfl
  | t + 1 => by rw [schedW, List.length_append, schedW_len s t]; rfl
theorem wcells_get (l : List (BitVec 32)) (i : Nat) (h : i < l.length) : (wcells l)[i]? = some (.int .u32 (u l[i])) := by simp [wcells, h]
theorem wcells_set (l : List (BitVec 32)) (i : Nat) (x : BitVec 32) : (wcells l).setIfInBounds i (.int .u32 (u x)) = wcells (l.set i x) := by simp [wcells, List.map_set]
theorem u_byte (b : UInt8) : ((b.toNat : Nat) : Int) = u (byteW b) := by
  unfold u byteW
  rw [BitVec.toNat_ofNat, Nat.mod_eq_of_lt (by have := b.toNat_lt; omega)]

/-- what 'behind' has in memory: its words, its result's cells, the words of the schedule -/
structure BhSt (w : World) (G : Nat) (h cur : List (BitVec 32)) (wr : World) : Prop where
  hb : Blk wr G 92 (wcells h)
  hr : Blk wr (G + 1) 92 (wcells (List.replicate 8 0))
  hm : Blk wr (G + 1 + 1) 112 (wcells cur)
  k : Below w.heap.size w wr
  e : w.heap.size = G
section
variable {w wr : World} {G : Nat} {h cur : List (BitVec 32)}
theorem BhSt.drew (x : BhSt w G h cur wr) : BhSt w G h cur wr.drew := ⟨x.hb, x.hr, x.hm, x.k.drew, x.e⟩
theorem BhSt.drewN (x : BhSt w G h cur wr) (n : Nat) : BhSt w G h cur (wr.drewN n) := ⟨x.hb, x.hr, x.hm, x.k.dN n, x.e⟩
theorem BhSt.set (x : BhSt w G h cur wr) (i : Nat) (y : BitVec 32) : BhSt w G h (cur.set i y) (wr.setCell ⟨G + 1 + 1, i, none⟩ (.int .u32 (u y))) := by
  refine ⟨x.hb.far (p := ⟨G + 1 + 1, i, none⟩) (by simp; omega) _, x.hr.far (p := ⟨G + 1 + 1, i, none⟩) (by simp) _, ?_, below_at x.k (by have := x.e; omega) _ _, x.e⟩
  have := x.hm.set_ i (.int .u32 (u y))
  rwa [wcells_set] at this
end
theorem set_mid (a b : List (BitVec 32)) (x y : BitVec 32) : (a ++ x :: b).set a.length y = a ++ y :: b := by simp

/-- the table -/
def rootsW : List (BitVec 32) := [
  0x428a2f98, 0x71374491, 0xb5c0fbcf, 0xe9b5dba5, 0x3956c25b, 0x59f111f1, 0x923f82a4, 0xab1c5ed5,
  0xd807aa98, 0x12835b01, 0x243185be, 0x550c7dc3, 0x72be5d74, 0x80deb1fe, 0x9bdc06a7, 0xc19bf174,
  0xe49b69c1, 0xefbe4786, 0x0fc19dc6, 0x240ca1cc, 0x2de92c6f, 0x4a7484aa, 0x5cb0a9dc, 0x76f988da,
  0x983e5152, 0xa831c66d, 0xb00327c8, 0xbf597fc7, 0xc6e00bf3, 0xd5a79147, 0x06ca6351, 0x14292967,
  0x27b70a85, 0x2e1b2138, 0x4d2c6dfc, 0x53380d13, 0x650a7354, 0x766a0abb, 0x81c2c92e, 0x92722c85,
  0xa2bfe8a1, 0xa81a664b, 0xc24b8b70, 0xc76c51a3, 0xd192e819, 0xd6990624, 0xf40e3585, 0x106aa070,
  0x19a4c116, 0x1e376c08, 0x2748774c, 0x34b0bcb5, 0x391c0cb3, 0x4ed8aa4a, 0x5b9cca4f, 0x682e6ff3,
  0x748f82ee, 0x78a5636f, 0x84c87814, 0x8cc70208, 0x90befffa, 0xa4506ceb, 0xbef9a3f7, 0xc67178f2]
/-- eight words -/
structure H8 where
  a : BitVec 32
  b : BitVec 32
  c : BitVec 32
  d : BitVec 32
  e : BitVec 32
  f : BitVec 32
  g : BitVec 32
  h : BitVec 32
deriving DecidableEq
def H8.l (x : H8) : List (BitVec 32) := [x.a, x.b, x.c, x.d, x.e, x.f, x.g, x.h]
def H8.val (x : H8) : Value := .agg (wcells x.l)
def H8.t1 (v : H8) (k w : BitVec 32) : BitVec 32 := v.h + ((rotr v.e 6 ^^^ rotr v.e 11) ^^^ rotr v.e 25) + ((v.e &&& v.f) ^^^ (~~~ v.e &&& v.g)) + k + w
def H8.t2 (v : H8) : BitVec 32 := ((rotr v.a 2 ^^^ rotr v.a 13) ^^^ rotr v.a 22) + (((v.a &&& v.b) ^^^ (v.a &&& v.c)) ^^^ (v.b &&& v.c))
def H8.round (v : H8) (k w : BitVec 32) : H8 := ⟨v.t1 k w + v.t2, v.a, v.b, v.c, v.d + v.t1 k w, v.e, v.f, v.g⟩
def H8.rounds (v : H8) (m : List (BitVec 32)) : Nat → H8
  | 0 => v
  | t + 1 => (v.rounds m t).round (rootsW.getD t 0) (m.getD t 0)
def H8.add (x y : H8) : H8 := ⟨x.a + y.a, x.b + y.b, x.c + y.c, x.d + y.d, x.e + y.e, x.f + y.f, x.g + y.g, x.h + y.h⟩
def H8.behind (x : H8) (s : List UInt8) : H8 := x.add (x.rounds (schedW s 64) 64)
/-- the table in memory -/
def RootsAt (w : World) : Prop := 0 < w.heap.size ∧ ∀ i < 64, w.cell? ⟨0, i, none⟩ = some (.int .u32 (u (rootsW.getD i 0)))
theorem RootsAt.below {w w' : World} {B : Nat} (h : RootsAt w) (k : Below B w w') (hB : 0 < B) : RootsAt w' :=
  ⟨Nat.lt_of_lt_of_le h.1 k.size, fun i hi => by rw [← h.2 i hi]; exact World.cell?_of_block (w := w) (k.block 0 hB)⟩
/-- what stands behind the schedule -/
structure BvSt (w : World) (G V : Nat) (h m v : List (BitVec 32)) (wr : World) : Prop where
  hb : Blk wr G 92 (wcells h)
  hr : Blk wr (G + 1) 92 (wcells (List.replicate 8 0))
  hm : Blk wr (G + 1 + 1) 112 (wcells m)
  hv : Blk wr V 92 (wcells v)
  k : Below w.heap.size w wr
  e : w.heap.size = G
  lt : G + 1 + 1 < V
section
variable {w wr : World} {G V : Nat} {h m v : List (BitVec 32)}
theorem BvSt.drew (x : BvSt w G V h m v wr) : BvSt w G V h m v wr.drew := ⟨x.hb, x.hr, x.hm, x.hv, x.k.drew, x.e, x.lt⟩
theorem BvSt.drewN (x : BvSt w G V h m v wr) (n : Nat) : BvSt w G V h m v (wr.drewN n) := ⟨x.hb, x.hr, x.hm, x.hv, x.k.dN n, x.e, x.lt⟩
end

theorem right_q (x : BitVec 32) (k : Nat) (hk : k ≤ 32) (w : World) (n : Nat) :
    Calls Tryd.prog 62 #[.int .u32 (u x), .int .i64 k] (w.drewN n) fun e w'' => e = .returned (.int .u32 (u (rotr x k))) ∧ ∃ m, w'' = w.drewN m :=
  (right_any x k hk _).mono fun _ _ ⟨he, m, hm⟩ => ⟨he, n + m, by rw [hm, World.drewN_drewN]⟩
theorem right_q2 (x : BitVec 32) (w : World) (n : Nat) :
    Calls Tryd.prog 62 #[.int .u32 (u x), .int .i64 2] (w.drewN n) fun e w'' => e = .returned (.int .u32 (u (rotr x 2))) ∧ ∃ m, w'' = w.drewN m := right_q x 2 (by decide) w n
theorem right_q6 (x : BitVec 32) (w : World) (n : Nat) :
    Calls Tryd.prog 62 #[.int .u32 (u x), .int .i64 6] (w.drewN n) fun e w'' => e = .returned (.int .u32 (u (rotr x 6))) ∧ ∃ m, w'' = w.drewN m := right_q x 6 (by decide) w n
theorem right_q11 (x : BitVec 32) (w : World) (n : Nat) :
    Calls Tryd.prog 62 #[.int .u32 (u x), .int .i64 11] (w.drewN n) fun e w'' => e = .returned (.int .u32 (u (rotr x 11))) ∧ ∃ m, w'' = w.drewN m := right_q x 11 (by decide) w n
theorem right_q13 (x : BitVec 32) (w : World) (n : Nat) :
    Calls Tryd.prog 62 #[.int .u32 (u x), .int .i64 13] (w.drewN n) fun e w'' => e = .returned (.int .u32 (u (rotr x 13))) ∧ ∃ m, w'' = w.drewN m := right_q x 13 (by decide) w n
theorem right_q22 (x : BitVec 32) (w : World) (n : Nat) :
    Calls Tryd.prog 62 #[.int .u32 (u x), .int .i64 22] (w.drewN n) fun e w'' => e = .returned (.int .u32 (u (rotr x 22))) ∧ ∃ m, w'' = w.drewN m := right_q x 22 (by decide) w n
theorem right_q25 (x : BitVec 32) (w : World) (n : Nat) :
    Calls Tryd.prog 62 #[.int .u32 (u x), .int .i64 25] (w.drewN n) fun e w'' => e = .returned (.int .u32 (u (rotr x 25))) ∧ ∃ m, w'' = w.drewN m := right_q x 25 (by decide) w n
theorem u_not (x : BitVec 32) : bits .xor .u32 4294967295 (u x) = u (~~~ x) := by
  have h := u_xor (BitVec.allOnes 32) x
  rw [show u (BitVec.allOnes 32) = 4294967295 from rfl, ← BitVec.not_def] at h
  exact h
theorem u_not' (x : BitVec 32) : bits .xor .u32 (if IntKind.u32.signed = true then -1 else IntKind.u32.max) (u x) = u (~~~ x) := u_not x
def addTo (x v : H8) (j : Nat) : List (BitVec 32) := (List.range 8).map fun i => if i < j then x.l.getD i 0 + v.l.getD i 0 else x.l.getD i 0
theorem addTo_len (x v : H8) (j : Nat) : (addTo x v j).length = 8 := by simp [addTo]
theorem addTo_get (x v : H8) (j : Nat) (h : j < 8) : (wcells (addTo x v j))[j]? = some (.int .u32 (u (x.l.getD j 0))) := by
  rw [wcells_get _ _ (by rw [addTo_len]; exact h)]
  simp [addTo]
theorem addTo_set (x v : H8) (j : Nat) (h : j < 8) : (addTo x v j).set j (x.l.getD j 0 + v.l.getD j 0) = addTo x v (j + 1) := by
  have : j = 0 ∨ j = 1 ∨ j = 2 ∨ j = 3 ∨ j = 4 ∨ j = 5 ∨ j = 6 ∨ j = 7 := by omega
  rcases this with rfl | rfl | rfl | rfl | rfl | rfl | rfl | rfl <;> rfl
theorem l_get (v : H8) (j : Nat) (h : j < 8) : (wcells v.l)[j]? = some (.int .u32 (u (v.l.getD j 0))) := by
  have hl : j < v.l.length := h
  rw [wcells_get _ _ hl]
  simp [List.getD, hl]
theorem result_cell {P : Program} {w : World} {fn : Func} {p : Tmp} {ty : TypeId} {tmps : Array Value} {q : Addr} {v : Value} (h : fn.results = #[.cell p ty]) (hp : tmps.getD p undef = .pointer (some q)) (hl : (loadVar ty q).run P w = .ok v w) :
    (results fn tmps).run P w = .ok v w := by
  simp only [results, h]
  rw [Array.getD_eq_getD_getElem?] at hp
  simp [Sem.run_bind, Result.andThen, asAddr, hp, hl]
theorem words_size (x : H8) : (Tryd.prog.info? 92).map (·.size) = some (wcells x.l).size := rfl
theorem words_one (x : H8) : (wcells x.l).all (·.oneCell') = true := by simp [wcells, H8.l, Value.oneCell']
section
variable {w wr : World} {G V : Nat} {h m v : List (BitVec 32)}
theorem BvSt.row (x : BvSt w G V h m v wr) (v' : List (BitVec 32)) : BvSt w G V h m v' (wr.setRow V (wcells v')) := by
  have hv := x.hv
  have hlt := x.lt
  refine ⟨(setRow_other wr V G _ (by omega)).trans x.hb, (setRow_other wr V (G + 1) _ (by omega)).trans x.hr, (setRow_other wr V (G + 1 + 1) _ (by omega)).trans x.hm, setRow_heap wr V _ _ _ _ hv, below_setRow x.k (by have := x.e; omega) _, x.e, x.lt⟩
theorem BvSt.setH (x : BvSt w G V h m v wr) (i : Nat) (y : BitVec 32) : BvSt w G V (h.set i y) m v (wr.setCell ⟨G, i, none⟩ (.int .u32 (u y))) := by
  have hlt := x.lt
  refine ⟨?_, x.hr.far (p := ⟨G, i, none⟩) (by simp) _, x.hm.far (p := ⟨G, i, none⟩) (by simp; omega) _, x.hv.far (p := ⟨G, i, none⟩) (by simp; omega) _, below_at x.k (by have := x.e; omega) _ _, x.e, x.lt⟩
  have := x.hb.set_ i (.int .u32 (u y))
  rwa [wcells_set] at this
theorem BvSt.cells {y : H8} (x : BvSt w G V h m y.l wr) : wr.cell? ⟨V, 0, none⟩ = some (.int .u32 (u y.a)) ∧ wr.cell? ⟨V, 1, none⟩ = some (.int .u32 (u y.b)) ∧ wr.cell? ⟨V, 2, none⟩ = some (.int .u32 (u y.c)) ∧ wr.cell? ⟨V, 3, none⟩ = some (.int .u32 (u y.d)) ∧
    wr.cell? ⟨V, 4, none⟩ = some (.int .u32 (u y.e)) ∧ wr.cell? ⟨V, 5, none⟩ = some (.int .u32 (u y.f)) ∧ wr.cell? ⟨V, 6, none⟩ = some (.int .u32 (u y.g)) ∧ wr.cell? ⟨V, 7, none⟩ = some (.int .u32 (u y.h)) :=
  ⟨x.hv.cell 0, x.hv.cell 1, x.hv.cell 2, x.hv.cell 3, x.hv.cell 4, x.hv.cell 5, x.hv.cell 6, x.hv.cell 7⟩
end

set_option maxRecDepth 100000 in
set_option maxHeartbeats 4000000 in
theorem behind_any (s : List UInt8) (hs : s.length = 64) (x : H8) (w : World) (hR : RootsAt w) :
    Calls Tryd.prog 51 #[x.val, .string (bstr s)] w fun e w' => e = .returned (x.behind s).val ∧ Below w.heap.size w w' := by
  have hxe : x.val = .agg #[.int .u32 (u x.a), .int .u32 (u x.b), .int .u32 (u x.c), .int .u32 (u x.d), .int .u32 (u x.e), .int .u32 (u x.f), .int .u32 (u x.g), .int .u32 (u x.h)] := rfl
  rw [hxe]
  go_enter Tryd.func51, Tryd.ntmps51
  go_wp2_with fail
  obtain ⟨G, hG⟩ : ∃ g, w.heap.size = g := ⟨_, rfl⟩
  obtain ⟨h, hh⟩ : ∃ h, x.l = h := ⟨_, rfl⟩
  obtain ⟨w0, hw0⟩ : ∃ y, ((w.alloc (.cells (wcells x.l) 92)).alloc (.cells (wcells (List.replicate 8 0)) 92)).alloc (.cells (wcells (List.replicate 64 0)) 112) = y := ⟨_, rfl⟩
  have st0 : BhSt w G h (List.replicate 64 0) w0 := by
    rw [← hw0, ← hh]
    refine ⟨?_, ?_, blk_at (by simp; omega), (((Below.refl _ _).alloc (Nat.le_refl _) _).alloc (by simp) _).alloc (by simp; omega) _, hG⟩
    · exact ((blk_at hG).alloc _).alloc _
    · exact (blk_at (by simp; omega)).alloc _
  go_loopw [19] (fun i wr => ∃ t : Nat, t ≤ 64 ∧ i = .int .i64 t ∧ BhSt w G h (schedW s t ++ List.replicate (64 - t) 0) wr) (fun i _ => 64 - (intOf i).toNat)
  case atStart =>
    refine ⟨0, by omega, rfl, ?_⟩
    rw [← hw0] at st0
    exact st0
  case round =>
    obtain ⟨t, ht, rfl, st⟩ := hrel
    rw [hG]
    by_cases hlt : t < 64
    · by_cases h16 : t < 16
      · have q1 : decide ((t : Int) < 64) = true := decide_eq_true (by omega)
        have q2 : decide ((t : Int) < 16) = true := decide_eq_true (by omega)
        obtain ⟨wo, rfl⟩ : ∃ wo : World, wo = wr := ⟨_, rfl⟩
        go_wp2_with fail
        go_loopw [24] (fun i wr => ∃ j : Nat, j ≤ 4 ∧ i = .int .i64 j ∧ BhSt w G h (schedW s t ++ joinW s (4 * t) j :: List.replicate (63 - t) 0) wr) (fun i _ => 4 - (intOf i).toNat)
        case atStart => exact ⟨0, by omega, rfl, by
          rw [show 64 - t = (63 - t) + 1 by omega, List.replicate_succ] at st
          exact st⟩
        case round =>
          obtain ⟨j, hj, rfl, st⟩ := hrel
          by_cases hlt2 : j < 4
          · have q3 : decide ((j : Int) < 4) = true := decide_eq_true (by omega)
            have hget : (wcells (schedW s t ++ joinW s (4 * t) j :: List.replicate (63 - t) 0))[t]? = some (.int .u32 (u (joinW s (4 * t) j))) := by
              rw [wcells_get _ _ (by simp [schedW_len])]
              simp [schedW_len]
            have c0 := st.hm.cell t
            rw [hget] at c0
            have f0 := st.hm.frozen t
            have hb : 4 * t + j < s.length := by omega
            have gb : s.getD (4 * t + j) 0 = s[4 * t + j] := by simp [hb]
            have e1 := u_shlw (joinW s (4 * t) j) 8
            have e2 := u_byte (s[4 * t + j])
            have e3 := u_or (joinW s (4 * t) j <<< 8) (byteW s[4 * t + j])
            have e4 := u_mod (byteW s[4 * t + j])
            simp only [Int.reducePow] at e1
            have hT0 : (0 : Int) ≤ t := by omega
            have hT1 : (t : Int) < 64 := by omega
            have hJ0 : (0 : Int) ≤ 4 * (t : Int) + j := by omega
            have hJ1 : 4 * (t : Int) + j < 64 := by omega
            have w1 : IntKind.i64.wrap (4 * (t : Int)) = 4 * (t : Int) := IntWalk.i64_in _ ⟨by omega, by omega⟩
            have w2 : IntKind.i64.wrap (4 * (t : Int) + j) = 4 * (t : Int) + j := IntWalk.i64_in _ ⟨by omega, by omega⟩
            have hJ2 : (4 * (t : Int) + j).toNat = 4 * t + j := by omega
            have hset := (st.set t (joinW s (4 * t) (j + 1))).drew
            have hsm := set_mid (schedW s t) (List.replicate (63 - t) 0) (joinW s (4 * t) j) (joinW s (4 * t) (j + 1))
            rw [schedW_len] at hsm
            rw [hsm] at hset
            have hjn : joinW s (4 * t) (j + 1) = (joinW s (4 * t) j <<< 8) ||| byteW s[4 * t + j] := by rw [joinW, gb]
            rw [hjn] at hset
            have HSET := Lib.hid hset
            have HJN := Lib.hid hjn
            clear hset hsm hjn hget gb st
            go_wp2_with fail
            go_region_law (fail)
            all_goals
              go_wp2
              go_round
              case rel => exact ⟨j + 1, by omega, by go_num, by rw [HJN.out]; first | exact HSET.out | (rw [e3]; exact HSET.out)⟩
              case measure => simp [intOf]; omega
          · obtain rfl : j = 4 := by omega
            have hsc : schedW s (t + 1) = schedW s t ++ [joinW s (4 * t) 4] := by rw [schedW, if_pos h16]
            have st' : BhSt w G h (schedW s (t + 1) ++ List.replicate (64 - (t + 1)) 0) wr := by
              rw [hsc, List.append_assoc, show 64 - (t + 1) = 63 - t by omega]
              exact st
            have ST := Lib.hid st'
            clear st st' hsc
            go_wp2
            go_round
            case rel => exact ⟨t + 1, by omega, by go_num, ST.out⟩
            case measure => simp [intOf]; omega
      · have q1 : decide ((t : Int) < 64) = true := decide_eq_true (by omega)
        have q2 : decide ((t : Int) < 16) = false := decide_eq_false (by omega)
        have hsc : schedW s (t + 1) = schedW s t ++ [nextW (schedW s t) t] := by rw [schedW, if_neg h16]
        have hlen := schedW_len s t
        have get : ∀ m, m < t → (wcells (schedW s t ++ List.replicate (64 - t) 0))[m]? = some (.int .u32 (u ((schedW s t).getD m 0))) := by
          intro m hm
          rw [wcells_get _ _ (by simp [schedW_len]; omega)]
          simp [hlen, hm]
        obtain ⟨p2, hp2⟩ : ∃ x, (schedW s t).getD (t - 2) 0 = x := ⟨_, rfl⟩
        obtain ⟨p7, hp7⟩ : ∃ x, (schedW s t).getD (t - 7) 0 = x := ⟨_, rfl⟩
        obtain ⟨p15, hp15⟩ : ∃ x, (schedW s t).getD (t - 15) 0 = x := ⟨_, rfl⟩
        obtain ⟨p16, hp16⟩ : ∃ x, (schedW s t).getD (t - 16) 0 = x := ⟨_, rfl⟩
        have c2 := st.hm.cell (t - 2)
        have c15 := st.hm.cell (t - 15)
        rw [get _ (by omega), hp2] at c2
        rw [get _ (by omega), hp15] at c15
        have gt : (wcells (schedW s t ++ List.replicate (64 - t) 0))[t]? = some (.int .u32 (u 0)) := by
          rw [wcells_get _ _ (by simp [schedW_len]; omega)]
          simp [hlen]
        have hnx : nextW (schedW s t) t = ((rotr p2 17 ^^^ rotr p2 19) ^^^ (p2 >>> 10)) + p7 + ((rotr p15 7 ^^^ rotr p15 18) ^^^ (p15 >>> 3)) + p16 := by
          unfold nextW
          rw [hp2, hp7, hp15, hp16]
        have hT0 : (0 : Int) ≤ t := by omega
        have hT1 : (t : Int) < 64 := by omega
        have w2 : IntKind.i64.wrap ((t : Int) - 2) = (t : Int) - 2 := IntWalk.i64_in _ ⟨by omega, by omega⟩
        have w7 : IntKind.i64.wrap ((t : Int) - 7) = (t : Int) - 7 := IntWalk.i64_in _ ⟨by omega, by omega⟩
        have w15 : IntKind.i64.wrap ((t : Int) - 15) = (t : Int) - 15 := IntWalk.i64_in _ ⟨by omega, by omega⟩
        have w16 : IntKind.i64.wrap ((t : Int) - 16) = (t : Int) - 16 := IntWalk.i64_in _ ⟨by omega, by omega⟩
        have a2 : (0 : Int) ≤ (t : Int) - 2 := by omega
        have a7 : (0 : Int) ≤ (t : Int) - 7 := by omega
        have a15 : (0 : Int) ≤ (t : Int) - 15 := by omega
        have a16 : (0 : Int) ≤ (t : Int) - 16 := by omega
        have d7 : (7 : Int) ≤ t := by omega
        have d16 : (16 : Int) ≤ t := by omega
        have b2 : (t : Int) - 2 < 64 := by omega
        have b7 : (t : Int) - 7 < 64 := by omega
        have b15 : (t : Int) - 15 < 64 := by omega
        have b16 : (t : Int) - 16 < 64 := by omega
        have n2 : ((t : Int) - 2).toNat = t - 2 := by omega
        have n7 : ((t : Int) - 7).toNat = t - 7 := by omega
        have n15 : ((t : Int) - 15).toNat = t - 15 := by omega
        have n16 : ((t : Int) - 16).toNat = t - 16 := by omega
        have g7 := get (t - 7) (by omega)
        have g16 := get (t - 16) (by omega)
        rw [hp7] at g7
        rw [hp16] at g16
        have G7 := Lib.hid g7
        have G16 := Lib.hid g16
        have GT := Lib.hid gt
        have HNX := Lib.hid hnx
        have HSC := Lib.hid hsc
        have hst := st
        clear gt get hlen hp2 hp7 hp15 hp16 g7 g16 hnx hsc
        go_wp2_with fail
        go_quiet (fail)
        have st0 := hst.drewN nq
        obtain ⟨v0, hv0⟩ : ∃ x, wr.drewN nq = x := ⟨_, rfl⟩
        rw [hv0] at st0 ⊢
        clear hv0 c2 c15 hst st
        have k3 := u_shr p15 3
        have k10 := u_shr p2 10
        simp only [Int.reducePow] at k3 k10
        have l15 := u_lo p15
        have l2 := u_lo p2
        have x1 := u_xor (rotr p15 7) (rotr p15 18)
        have x2 := u_xor (rotr p15 7 ^^^ rotr p15 18) (p15 >>> 3)
        have x3 := u_xor (rotr p2 17) (rotr p2 19)
        have x4 := u_xor (rotr p2 17 ^^^ rotr p2 19) (p2 >>> 10)
        go_wp2_with fail
        refine (right_any p15 7 (by decide) v0).mono ?_
        rintro e v1 ⟨rfl, m1, hm1⟩
        have st1 := st0.drewN m1
        rw [← hm1] at st1
        clear hm1 st0
        go_wp2_with fail
        refine (right_any p15 18 (by decide) v1).mono ?_
        rintro e v2 ⟨rfl, m2, hm2⟩
        have st2 := st1.drewN m2
        rw [← hm2] at st2
        clear hm2 st1
        go_wp2_with fail
        refine (right_any p2 17 (by decide) v2).mono ?_
        rintro e v3 ⟨rfl, m3, hm3⟩
        have st3 := st2.drewN m3
        rw [← hm3] at st3
        clear hm3 st2
        go_wp2_with fail
        refine (right_any p2 19 (by decide) v3).mono ?_
        rintro e v4 ⟨rfl, m4, hm4⟩
        have st4 := st3.drewN m4
        rw [← hm4] at st4
        clear hm4 st3
        have c7 := st4.hm.cell (t - 7)
        have c16 := st4.hm.cell (t - 16)
        have ct := st4.hm.cell t
        have f0 := st4.hm.frozen t
        rw [G7.out] at c7
        rw [G16.out] at c16
        rw [GT.out] at ct
        have s1 := u_add ((rotr p2 17 ^^^ rotr p2 19) ^^^ (p2 >>> 10)) p7
        have s2 := u_add (((rotr p2 17 ^^^ rotr p2 19) ^^^ (p2 >>> 10)) + p7) ((rotr p15 7 ^^^ rotr p15 18) ^^^ (p15 >>> 3))
        have s3 := u_add ((((rotr p2 17 ^^^ rotr p2 19) ^^^ (p2 >>> 10)) + p7) + ((rotr p15 7 ^^^ rotr p15 18) ^^^ (p15 >>> 3))) p16
        have hset := (st4.set t (nextW (schedW s t) t)).drew
        have hsm := set_mid (schedW s t) (List.replicate (63 - t) 0) 0 (nextW (schedW s t) t)
        rw [schedW_len] at hsm
        rw [show 64 - t = (63 - t) + 1 by omega, List.replicate_succ, hsm] at hset
        have hfin : BhSt w G h (schedW s (t + 1) ++ List.replicate (64 - (t + 1)) 0) (v4.setCell ⟨G + 1 + 1, t, none⟩ (.int .u32 (u (nextW (schedW s t) t)))).drew := by
          rw [HSC.out, List.append_assoc, show 64 - (t + 1) = 63 - t by omega]
          exact hset
        rw [HNX.out] at hfin
        have HF := Lib.hid hfin
        clear hfin hset hsm
        go_wp2_with fail
        go_region_law (fail)
        all_goals
          go_wp2
          go_round
          case rel => exact ⟨t + 1, by omega, by go_num, HF.out⟩
          case measure => simp [intOf]; omega
    · have h64 : t = 64 := by omega
      have q1 : decide ((t : Int) < 64) = false := decide_eq_false (by omega)
      have st1 : BhSt w G h (schedW s 64) wr := by
        rw [h64] at st
        simpa using st
      obtain ⟨m, hm⟩ : ∃ m, schedW s 64 = m := ⟨_, rfl⟩
      rw [hm] at st1
      have lm : m.length = 64 := by rw [← hm, schedW_len]
      clear st h64 hw0 st0 w0
      subst hh
      have HM := Lib.hid hm
      clear hm
      obtain ⟨V, hV⟩ : ∃ V, wr.heap.size = V := ⟨_, rfl⟩
      have hVl : G + 1 + 1 < V := by rw [← hV]; exact st1.hm.lt
      have hbx := st1.hb
      have st2 : BvSt w G V x.l m x.l ((wr.alloc (.cells (wcells (List.replicate 8 0)) 92)).setRow V (wcells x.l)) :=
        BvSt.row (v := List.replicate 8 0) ⟨st1.hb.alloc _, st1.hr.alloc _, st1.hm.alloc _, blk_at hV, st1.k.alloc (by have := st1.e; omega) _, st1.e, hVl⟩ x.l
      have ST2 := Lib.hid st2
      have hsz : (wcells x.l).size = 8 := rfl
      clear st2
      go_upto_region 17 with (first | (refine wpList_load_row rfl 92 _ rfl G rfl 92 (wcells x.l) (0, 0) _ hbx Tryd.underlying92 rfl rfl ?_) | (refine wpList_store_row rfl 92 _ _ rfl V (wcells x.l) rfl rfl 92 (wcells (List.replicate 8 0)) (blk_at hV) rfl rfl (words_one x) ?_))
      have st3 := ST2.out
      obtain ⟨w5, hw5⟩ : ∃ y, (wr.alloc (.cells (wcells (List.replicate 8 0)) 92)).setRow V (wcells x.l) = y := ⟨_, rfl⟩
      rw [hw5] at st3
      clear hbx hsz st1 lm
      go_wp2_with fail
      go_loopw [83] (fun i wv => ∃ r : Nat, r ≤ 64 ∧ i = .int .i64 r ∧ BvSt w G V x.l m (x.rounds m r).l wv) (fun i _ => 64 - (intOf i).toNat)
      case atStart =>
        refine ⟨0, by omega, rfl, ?_⟩
        rw [← hw5] at st3
        exact st3
      case round =>
        clear hw5 st3 ST2 q1 hlt
        obtain ⟨r, hr, rfl, st⟩ := hrel
        by_cases hlt : r < 64
        · have q1 : decide ((r : Int) < 64) = true := decide_eq_true (by omega)
          obtain ⟨v, hv⟩ : ∃ v, x.rounds m r = v := ⟨_, rfl⟩
          rw [hv] at st
          obtain ⟨c0, c1, c2, c3, c4, c5, c6, c7⟩ := st.cells
          have hst := st
          go_wp2_with fail
          go_quiet (fail)
          have st0 := hst.drewN nq
          obtain ⟨v0, hv0⟩ : ∃ y, wr.drewN nq = y := ⟨_, rfl⟩
          rw [hv0] at st0 ⊢
          clear hv0 c0 c1 c2 c3 c4 c5 c6 c7 hst st
          obtain ⟨k, hk⟩ : ∃ k, rootsW.getD r 0 = k := ⟨_, rfl⟩
          obtain ⟨y, hy⟩ : ∃ y, m.getD r 0 = y := ⟨_, rfl⟩
          have hr0 : (0 : Int) ≤ r := by omega
          have hr1 : (r : Int) < 64 := by omega
          have hml : m.length = 64 := by rw [← HM.out, schedW_len]
          have gm : (wcells m)[r]? = some (.int .u32 (u y)) := by
            rw [wcells_get _ _ (by omega), ← hy]
            simp [show r < m.length by omega]
          have GM := Lib.hid gm
          have HK := Lib.hid hk
          have HY := Lib.hid hy
          clear gm hk hy hml
          obtain ⟨c0, c1, c2, c3, c4, c5, c6, c7⟩ := st0.cells
          have cm := st0.hm.cell r
          rw [GM.out] at cm
          have cr := (hR.below st0.k hR.1).2 r hlt
          rw [HK.out] at cr
          have x1 := u_xor (rotr v.e 6) (rotr v.e 11)
          have x2 := u_xor (rotr v.e 6 ^^^ rotr v.e 11) (rotr v.e 25)
          have x3 := u_xor (v.e &&& v.f) (~~~ v.e &&& v.g)
          have a1 := u_and v.e v.f
          have a2 := u_and (~~~ v.e) v.g
          have n1 := u_not' v.e
          have s1 := u_add v.h ((rotr v.e 6 ^^^ rotr v.e 11) ^^^ rotr v.e 25)
          have t1 := u_add' v.h ((rotr v.e 6 ^^^ rotr v.e 11) ^^^ rotr v.e 25)
          have s2 := u_add (v.h + ((rotr v.e 6 ^^^ rotr v.e 11) ^^^ rotr v.e 25)) ((v.e &&& v.f) ^^^ (~~~ v.e &&& v.g))
          have t2 := u_add' (v.h + ((rotr v.e 6 ^^^ rotr v.e 11) ^^^ rotr v.e 25)) ((v.e &&& v.f) ^^^ (~~~ v.e &&& v.g))
          have s3 := u_add (v.h + ((rotr v.e 6 ^^^ rotr v.e 11) ^^^ rotr v.e 25) + ((v.e &&& v.f) ^^^ (~~~ v.e &&& v.g))) k
          have t3 := u_add' (v.h + ((rotr v.e 6 ^^^ rotr v.e 11) ^^^ rotr v.e 25) + ((v.e &&& v.f) ^^^ (~~~ v.e &&& v.g))) k
          have s4 := u_add (v.h + ((rotr v.e 6 ^^^ rotr v.e 11) ^^^ rotr v.e 25) + ((v.e &&& v.f) ^^^ (~~~ v.e &&& v.g)) + k) y
          have t4 := u_add' (v.h + ((rotr v.e 6 ^^^ rotr v.e 11) ^^^ rotr v.e 25) + ((v.e &&& v.f) ^^^ (~~~ v.e &&& v.g)) + k) y
          have l6 := u_lo v.e
          go_upto_region 21 with fail
          go_quiet ((go_at_call 62; with_reducible first | exact right_q6 _ _ _ | exact right_q11 _ _ _ | exact right_q25 _ _ _))
          have st1 := st0.drewN nq
          obtain ⟨v1, hv1⟩ : ∃ y, v0.drewN nq = y := ⟨_, rfl⟩
          rw [hv1] at st1 ⊢
          have ht1 : v.h + ((rotr v.e 6 ^^^ rotr v.e 11) ^^^ rotr v.e 25) + ((v.e &&& v.f) ^^^ (~~~ v.e &&& v.g)) + k + y = v.t1 k y := rfl
          rw [ht1]
          clear ht1 hv1 c0 c1 c2 c3 c4 c5 c6 c7 cm cr st0 x1 x2 x3 a1 a2 n1 s1 s2 s3 s4 t1 t2 t3 t4 l6
          obtain ⟨p, hp⟩ : ∃ p, v.t1 k y = p := ⟨_, rfl⟩
          rw [hp]
          obtain ⟨c0, c1, c2, c3, c4, c5, c6, c7⟩ := st1.cells
          have x1 := u_xor (rotr v.a 2) (rotr v.a 13)
          have x2 := u_xor (rotr v.a 2 ^^^ rotr v.a 13) (rotr v.a 22)
          have a1 := u_and v.a v.b
          have a2 := u_and v.a v.c
          have a3 := u_and v.b v.c
          have x3 := u_xor (v.a &&& v.b) (v.a &&& v.c)
          have x4 := u_xor ((v.a &&& v.b) ^^^ (v.a &&& v.c)) (v.b &&& v.c)
          have s1 := u_add ((rotr v.a 2 ^^^ rotr v.a 13) ^^^ rotr v.a 22) (((v.a &&& v.b) ^^^ (v.a &&& v.c)) ^^^ (v.b &&& v.c))
          have t1 := u_add' ((rotr v.a 2 ^^^ rotr v.a 13) ^^^ rotr v.a 22) (((v.a &&& v.b) ^^^ (v.a &&& v.c)) ^^^ (v.b &&& v.c))
          go_upto_region 22 with fail
          go_quiet ((go_at_call 62; with_reducible first | exact right_q2 _ _ _ | exact right_q13 _ _ _ | exact right_q22 _ _ _))
          have st2 := st1.drewN nq
          obtain ⟨v2, hv2⟩ : ∃ y, v1.drewN nq = y := ⟨_, rfl⟩
          rw [hv2] at st2 ⊢
          have ht2 : ((rotr v.a 2 ^^^ rotr v.a 13) ^^^ rotr v.a 22) + (((v.a &&& v.b) ^^^ (v.a &&& v.c)) ^^^ (v.b &&& v.c)) = v.t2 := rfl
          rw [ht2]
          clear ht2 hv2 c0 c1 c2 c3 c4 c5 c6 c7 st1 x1 x2 x3 x4 a1 a2 a3 s1 t1
          obtain ⟨z, hz⟩ : ∃ z, v.t2 = z := ⟨_, rfl⟩
          rw [hz]
          obtain ⟨c0, c1, c2, c3, c4, c5, c6, c7⟩ := st2.cells
          have s1 := u_add p z
          have s2 := u_add v.d p
          have s1' := u_add' p z
          have s2' := u_add' v.d p
          have hvv := st2.hv
          have hnx : x.rounds m (r + 1) = ⟨p + z, v.a, v.b, v.c, v.d + p, v.e, v.f, v.g⟩ := by
            rw [H8.rounds, hv, HK.out, HY.out, H8.round, hp, hz]
          have st4 : BvSt w G V x.l m (x.rounds m (r + 1)).l (v2.setRow V (wcells (⟨p + z, v.a, v.b, v.c, v.d + p, v.e, v.f, v.g⟩ : H8).l)) := by
            rw [hnx]
            exact st2.row _
          have ST4 := Lib.hid st4
          clear st4 hnx hp hz hv
          go_upto_region 24 with (refine wpList_store_row rfl 92 _ _ rfl V (wcells (⟨p + z, v.a, v.b, v.c, v.d + p, v.e, v.f, v.g⟩ : H8).l) rfl rfl 92 _ hvv rfl rfl (words_one _) ?_)
          go_wp2
          go_round
          case rel => exact ⟨r + 1, by omega, by go_num, ST4.out⟩
          case measure => simp [intOf]; omega
        · have h64 : r = 64 := by omega
          have q1 : decide ((r : Int) < 64) = false := decide_eq_false (by omega)
          obtain ⟨v, hv⟩ : ∃ v, x.rounds m 64 = v := ⟨_, rfl⟩
          have st1 : BvSt w G V (addTo x v 0) m v.l wr := by
            rw [h64, hv] at st
            exact st
          have hfin : x.behind s = x.add v := by rw [H8.behind, HM.out, hv]
          have HF := Lib.hid hfin
          clear st hv h64 hfin
          obtain ⟨wo, hwo⟩ : ∃ wo : World, wo = wr := ⟨_, rfl⟩
          go_wp2_with fail
          go_loopw [163] (fun i wv => ∃ j : Nat, j ≤ 8 ∧ i = .int .i64 j ∧ BvSt w G V (addTo x v j) m v.l wv) (fun i _ => 8 - (intOf i).toNat)
          case atStart => exact ⟨0, by omega, rfl, st1⟩
          case round =>
            clear st1
            obtain ⟨j, hj, rfl, st⟩ := hrel
            by_cases hlt2 : j < 8
            · have q3 : decide ((j : Int) < 8) = true := decide_eq_true (by omega)
              have c0 := st.hb.cell j
              rw [addTo_get _ _ _ hlt2] at c0
              have f0 := st.hb.frozen j
              have c1 := st.hv.cell j
              rw [l_get _ _ hlt2] at c1
              have hset := (st.setH j (x.l.getD j 0 + v.l.getD j 0)).drew
              rw [addTo_set _ _ _ hlt2] at hset
              have HSET := Lib.hid hset
              clear hset st
              have e1 := u_add (x.l.getD j 0) (v.l.getD j 0)
              have e2 := u_add' (x.l.getD j 0) (v.l.getD j 0)
              obtain ⟨xa, hxa⟩ : ∃ y, x.l.getD j 0 = y := ⟨_, rfl⟩
              obtain ⟨va, hva⟩ : ∃ y, v.l.getD j 0 = y := ⟨_, rfl⟩
              rw [hxa] at c0 e1 e2 HSET
              rw [hva] at c1 e1 e2 HSET
              have hJ0 : (0 : Int) ≤ j := by omega
              have hJ1 : (j : Int) < 8 := by omega
              clear hxa hva
              go_wp2_with fail
              go_region_law (fail)
              all_goals
                go_wp2
                go_round
                case rel => exact ⟨j + 1, by omega, by go_num, HSET.out⟩
                case measure => simp [intOf]; omega
            · have h8 : j = 8 := by omega
              have q3 : decide ((j : Int) < 8) = false := decide_eq_false (by omega)
              have st8 : BvSt w G V (x.add v).l m v.l wr := by
                rw [h8] at st
                exact st
              have hb8 := st8.hb
              have hr8 := st8.hr
              have hk8 := st8.k
              clear st h8
              go_wp2_with (first | (refine wpList_load_row rfl 92 _ rfl G rfl 92 (wcells (x.add v).l) (0, 0) _ hb8 Tryd.underlying92 rfl rfl ?_) | (refine wpList_store_row rfl 92 _ _ rfl (G + 1) (wcells (x.add v).l) rfl rfl 92 _ hr8 rfl rfl (words_one _) ?_))
              have hld := run_loadVar_row (P := Tryd.prog) (wr.setRow (G + 1) (wcells (x.add v).l)) (G + 1) 92 92 (wcells (x.add v).l) (0, 0) _ (setRow_heap wr (G + 1) _ _ _ _ hr8) Tryd.underlying92 rfl rfl
              rw [HF.out]
              refine bodyPost_ret (v := (x.add v).val) ?_ rfl ⟨rfl, below_setRow hk8 (by omega) _⟩
              exact result_cell rfl rfl hld

end Go.Proofs.YtmdjbmhjnajpgaaDoor
namespace Go.Proofs.YtmdjbmhjnajpgaaDoor
open Go.RowKit
set_option maxRecDepth 100000
set_option linter.unusedSimpArgs false
set_option linter.unnecessarySimpa false
set_option linter.unusedVariables false

/-- the builder in block b (from B on) holds the bytes l -/
def BlAt (B : Nat) (w : World) (b : Nat) (l : List UInt8) : Prop := Lib.IsBuilder 100 5 B b (Lib.byteCells l) w

/-- blocks that are no builders and no rows of bytes stay as they were -/
def Others (w w' : World) : Prop := ∀ j cs t, t ≠ 5 → t ≠ 100 → Blk w j t cs → Blk w' j t cs
theorem Blk.type_eq {w : World} {j : Nat} {t t' : TypeId} {cs cs' : Array Value} (h : Blk w j t cs) (h' : Blk w j t' cs') : t = t' := by
  unfold Blk at h h'
  rw [h] at h'
  simp at h'
  exact h'.2
theorem Others.set {w : World} {b : Nat} {cs : Array Value} (h : Blk w b 100 cs) {i : Nat} (u : Value) : Others w (w.setCell ⟨b, i, none⟩ u) :=
  fun j cs' t h1 h2 hj => hj.far (p := ⟨b, i, none⟩) (by rintro rfl; exact h2 (hj.type_eq h)) u
theorem Others.trans {a b c : World} (h : Others a b) (k : Others b c) : Others a c := fun j cs t h1 h2 hj => k j cs t h1 h2 (h j cs t h1 h2 hj)
theorem Others.grown {w w' : World} {base n : Nat} {v : Value} {xs : List Value} (hown : w.ownsRow base 5 1 v n xs) (hg : w.grownBy w' v.ownBlock) : Others w w' := by
  intro j cs t h1 h2 hj
  refine hj.grown hg ?_
  intro e
  rcases hown.2 with ⟨rfl, _⟩ | ⟨g, cap, cur, rfl, _, hc, _⟩
  · simp [Value.ownBlock] at e
  · simp [Value.ownBlock] at e
    subst e
    exact h1 (hj.type_eq hc)
theorem bl_size : (Tryd.prog.info? 100).map (fun i => i.size) = some 2 := by kernel_rfl
theorem bl_byte : (Tryd.prog.info? 5).map (fun i => (i.zero, i.size, i.bytes)) = some (some (.int .u8 0), 1, 1) := by kernel_rfl
set_option maxRecDepth 100000 in
theorem blt_same {w : World} (a : Addr) : (binOp .neq 98 (.pointer (some a)) (.pointer (some a))).run Tryd.prog w = .ok (.bool false) w :=
  have ⟨_, hj⟩ : ∃ j, Tryd.prog.info? 100 = some j := ⟨_, rfl⟩
  Lib.run_neq_ptr_same w a Tryd.underlying98 hj

set_option maxHeartbeats 1000000 in
theorem copyCheck_any (B b : Nat) (bs : List Value) (w : World) (h : Lib.IsBuilder 100 5 B b bs w) :
    Calls Tryd.prog 68 #[.pointer (some ⟨b, 0, none⟩)] w fun e w' => e = .returned (.tuple #[]) ∧ (Lib.BuilderAt 100 5 B b (.pointer (some ⟨b, 0, none⟩)) bs w' ∧ Below B w w' ∧ Others w w') ∧ Keep w.heap.size (· = b) w w' := by
  rcases h with h | h
  · obtain ⟨v0, hb⟩ : ∃ v, Blk w b 100 #[.pointer none, v] := by obtain ⟨_, v, hb, _⟩ := h; exact ⟨v, hb⟩
    have h0 := h.cell0
    have hsh := h.shape
    have hfz := h.frozen0
    go_enter Tryd.func68, Tryd.ntmps68
    go_wp2
    obtain ⟨j, hj, hjs⟩ := Option.map_eq_some_iff.1 bl_size
    rw [Lib.run_to_unsafe w ⟨b, 0, none⟩ Tryd.underlying98 Tryd.underlying126 hj (by rw [hjs]; decide) hsh (Nat.zero_lt_succ 1)]
    simp only [Result.andThen]
    rw [Oper.upon_value]
    go_wp2
    rw [run_callFunc_extern Tryd.func74 (by kernel_rfl) (by kernel_rfl) (by kernel_rfl) (e := Extern.AbiNoEscape.same) (by kernel_rfl)]
    rw [Lib.run_noEscape]
    simp only [Result.andThen]
    rw [Oper.upon_value]
    go_wp2
    rw [Lib.run_from_unsafe w ⟨b, 0, none⟩ Tryd.underlying126 Tryd.underlying98 hj hsh (by kernel_rfl)]
    simp only [Result.andThen]
    rw [Oper.upon_value]
    go_wp2
    go_end0
    exact ⟨rfl, ⟨h.used _, (Below.refl B w).setCell (p := ⟨b, 0, none⟩) h.1 _, Others.set hb _⟩, (Keep.refl _ _ _).set1 0 _⟩
  · have h0 := h.cell0
    go_enter Tryd.func68, Tryd.ntmps68
    go_wp2
    rw [blt_same]
    go_wp2
    go_end0
    exact ⟨rfl, ⟨h, Below.refl B _, fun _ _ _ _ _ h => h⟩, Keep.refl _ _ _⟩

theorem bcells_list (q : List UInt8) : (bcells q).toList = Lib.byteCells q := rfl

set_option maxHeartbeats 1000000 in
theorem bwrite_any (B b g c : Nat) (l q : List UInt8) (hq : 0 < q.length) (w : World) (h : BlAt B w b l) (hg : Blk w g 5 (bcells q)) (hgb : g ≠ b) (hlen : l.length + q.length ≤ 140737488355328) (hBw : B ≤ w.heap.size) :
    Calls Tryd.prog 53 #[.pointer (some ⟨b, 0, none⟩), .slice (some ⟨g, 0, none⟩) q.length c] w fun e w' => e = .returned (.tuple #[.int .i64 q.length, .nilIface]) ∧ BlAt B w' b (l ++ q) ∧ Below B w w' := by
  obtain ⟨i0, hi, hz0, hz1, hz2⟩ := info_parts bl_byte
  obtain ⟨m, hm⟩ : ∃ m, q.length = m := ⟨_, rfl⟩
  rw [hm]
  rw [hm] at hq hlen
  go_enter Tryd.func53, Tryd.ntmps53
  go_wp2_with fail
  refine (copyCheck_any B b (Lib.byteCells l) _ h).mono ?_
  rintro e w1 ⟨rfl, ⟨⟨hB, v, hbk, hown, hne⟩, hb1, ho1⟩, hkp⟩
  have hs1 := hb1.size
  have hsw := hkp.size
  have hg1 : Blk w1 g 5 (bcells q) := hg.keep hkp hg.lt hgb
  have hblt : b < w1.heap.size := Blk.lt hbk
  have c0 : w1.cell? ⟨b, 0, none⟩ = some (.pointer (some ⟨b, 0, none⟩)) := by rw [Lib.cell_of_heap hbk]; rfl
  have c1 : w1.cell? ⟨b, 1, none⟩ = some v := by rw [Lib.cell_of_heap hbk]; rfl
  go_wp2_with (at_builtin; refine wpList_append_own (P := Tryd.prog) _ rfl _ _ 84 rfl B 5 i0 (.int .u8 0) 1 1 Tryd.underlying84 hi hz0 hz1 hz2 rfl (by decide) v l.length (Lib.byteCells l) rfl (by simpa [Lib.byteCells_length] using hown) ⟨g, 0, none⟩ m c (Lib.byteCells q) rfl ?c1 ?c6 ?c2 ?c3 ?c4 ?c5 ?_)
  case c1 => simp [Lib.byteCells_length, hm]
  case c6 =>
    intro j y hj
    have : (⟨g, 0, none⟩ : Addr).add j = ⟨g, j, none⟩ := by unfold Addr.add; split <;> simp_all
    rw [this, hg1.cell, ← hj, ← bcells_list]
    simp
  case c2 => intro y hy; simp [Lib.byteCells] at hy; obtain ⟨_, _, rfl⟩ := hy; rfl
  case c3 => unfold maxLen; omega
  case c4 => omega
  case c5 => omega
  intro v' w2 hown' hgrow _
  have hb2 : w2.heap[b]? = some (.cells #[.pointer (some ⟨b, 0, none⟩), v] 100 (0, 0)) := by
    rw [hgrow.block b hblt (fun e => hne e.symm)]
    exact hbk
  have d0 : w2.cell? ⟨b, 0, none⟩ = some (.pointer (some ⟨b, 0, none⟩)) := by rw [Lib.cell_of_heap hb2]; rfl
  have d1 : w2.cell? ⟨b, 1, none⟩ = some v := by rw [Lib.cell_of_heap hb2]; rfl
  have f1 : w2.frozen? ⟨b, 1, none⟩ = false := Lib.frozen_of_heap hb2 1
  obtain ⟨ao, n', cap, rfl⟩ : ∃ ao n' cap, v' = .slice ao n' cap := by
    rcases hown'.2 with ⟨hv, _⟩ | ⟨g, cap, cur, hv, _⟩
    · exact ⟨_, _, _, hv⟩
    · exact ⟨_, _, _, hv⟩
  go_wp2
  refine bodyPost_ret (v := .tuple #[.int .i64 m, .nilIface]) (by simp [results, Tryd.results53, go_sem]) rfl ⟨rfl, ?_, (hb1.grown hgrow (by omega) (fun k hk => (hown.lt k hk).1)).setCell (p := ⟨b, 1, none⟩) hB _⟩
  have hh := Lib.BuilderAt.put (T := 100) (e := 5) hB hb2 (v' := .slice ao n' cap) (bs' := Lib.byteCells l ++ Lib.byteCells q) (by simpa [Lib.byteCells_length, hm] using hown') (by decide)
  rw [← Lib.byteCells_append] at hh
  exact .inr hh

theorem bstring_any (B b : Nat) (l : List UInt8) (w : World) (h : BlAt B w b l) (hBw : B ≤ w.heap.size) :
    Calls Tryd.prog 54 #[.pointer (some ⟨b, 0, none⟩)] w fun e w' => e = .returned (.string (bstr l)) ∧ Below B w w' :=
  Tryd.Builder_String_any B b l w h hBw
theorem BlAt.new (w : World) : BlAt w.heap.size (w.alloc (.cells #[.pointer none, .slice none 0 0] 100)) w.heap.size [] := Lib.fresh_isBuilder _ _ _
theorem BlAt.lt {B b : Nat} {w : World} {l : List UInt8} (h : BlAt B w b l) : B ≤ b ∧ b < w.heap.size := by
  rcases h with h | h
  · exact ⟨h.1, h.lt⟩
  · exact ⟨h.1, h.lt⟩
theorem own_below {w w' : World} {base n size : Nat} {e : TypeId} {v : Value} {xs : List Value} (h : w.ownsRow base e size v n xs) (hb : Below w.heap.size w w') : w'.ownsRow base e size v n xs := by
  refine ⟨h.1, ?_⟩
  rcases h.2 with h0 | ⟨g, cap, cur, hv, hg, hc, hr⟩
  · exact .inl h0
  · exact .inr ⟨g, cap, cur, hv, hg, (hb.block g (Blk.lt hc)).trans hc, hr⟩
theorem BlAt.below {B b : Nat} {w w' : World} {l : List UInt8} (h : BlAt B w b l) (hb : Below w.heap.size w w') : BlAt B w' b l := by
  rcases h with ⟨hB, v, h1, h2, h3⟩ | ⟨hB, v, h1, h2, h3⟩
  · have hlt : b < w.heap.size := Blk.lt h1
    exact .inl ⟨hB, v, (hb.block b hlt).trans h1, own_below h2 hb, h3⟩
  · have hlt : b < w.heap.size := Blk.lt h1
    exact .inr ⟨hB, v, (hb.block b hlt).trans h1, own_below h2 hb, h3⟩

end Go.Proofs.YtmdjbmhjnajpgaaDoor
namespace Go.Proofs.YtmdjbmhjnajpgaaDoor
open Go.RowKit
set_option maxRecDepth 100000
set_option linter.unusedSimpArgs false
set_option linter.unnecessarySimpa false
set_option linter.unusedVariables false

def H8.begin0 : H8 := ⟨0x6a09e667, 0xbb67ae85, 0x3c6ef372, 0xa54ff53a, 0x510e527f, 0x9b05688c, 0x1f83d9ab, 0x5be0cd19⟩
/-- a writer -/
structure Sw where
  h : H8
  rest : List UInt8
  n : Nat
def Sw.cells (d : Sw) : Array Value := #[.int .u32 (u d.h.a), .int .u32 (u d.h.b), .int .u32 (u d.h.c), .int .u32 (u d.h.d), .int .u32 (u d.h.e), .int .u32 (u d.h.f), .int .u32 (u d.h.g), .int .u32 (u d.h.h), .string (bstr d.rest), .int .i64 d.n]
def Sw.new : Sw := ⟨H8.begin0, [], 0⟩
def H8.feed : Nat → H8 → List UInt8 → H8
  | 0, h, _ => h
  | k + 1, h, s => H8.feed k (h.behind (s.take 64)) (s.drop 64)
def Sw.write (d : Sw) (s : List UInt8) : Sw := ⟨H8.feed ((d.rest ++ s).length / 64) d.h (d.rest ++ s), (d.rest ++ s).drop ((d.rest ++ s).length / 64 * 64), d.n + s.length⟩

set_option maxRecDepth 100000 in
set_option maxHeartbeats 1000000 in
theorem begin_any (w : World) : Calls Tryd.prog 50 #[] w fun e w' => e = .returned H8.begin0.val ∧ Below w.heap.size w w' := by
  go_enter Tryd.func50, Tryd.ntmps50
  have hb : Blk (w.alloc (.cells (wcells (List.replicate 8 0)) 92)) w.heap.size 92 (wcells (List.replicate 8 0)) := Blk.new _ _ _
  go_wp2_with (refine wpList_store_row rfl 92 _ _ rfl w.heap.size (wcells H8.begin0.l) rfl rfl 92 _ hb rfl rfl (words_one _) ?_)
  refine bodyPost_ret (v := H8.begin0.val) ?_ rfl ⟨rfl, below_setRow ((Below.refl _ _).alloc (Nat.le_refl _) _) (Nat.le_refl _) _⟩
  exact result_cell rfl rfl (run_loadVar_row (P := Tryd.prog) _ w.heap.size 92 92 (wcells H8.begin0.l) (0, 0) _ (setRow_heap _ _ _ _ _ _ hb) Tryd.underlying92 rfl rfl)

set_option maxRecDepth 100000 in
set_option maxHeartbeats 1000000 in
theorem new_sum (w : World) : Calls Tryd.prog 38 #[] w fun e w' => ∃ g, e = .returned (.pointer (some ⟨g, 0, none⟩)) ∧ Blk w' g 95 Sw.new.cells ∧ Below w.heap.size w w' ∧ w.heap.size ≤ g := by
  go_enter Tryd.func38, Tryd.ntmps38
  go_wp2_with fail
  refine (begin_any _).mono ?_
  rintro e w1 ⟨rfl, hb1⟩
  have hs1 := hb1.size
  have hv : H8.begin0.val = .agg #[.int .u32 (u H8.begin0.a), .int .u32 (u H8.begin0.b), .int .u32 (u H8.begin0.c), .int .u32 (u H8.begin0.d), .int .u32 (u H8.begin0.e), .int .u32 (u H8.begin0.f), .int .u32 (u H8.begin0.g), .int .u32 (u H8.begin0.h)] := rfl
  rw [hv]
  go_wp2
  go_ret
  exact ⟨_, rfl, Blk.new _ _ _, hb1.alloc hs1 _, hs1⟩

theorem RootsAt.keep {w w' : World} {B : Nat} {S : Nat → Prop} (h : RootsAt w) (k : Keep B S w w') (hB : 0 < B) (hs : ¬ S 0) : RootsAt w' :=
  ⟨Nat.lt_of_lt_of_le h.1 k.size, fun i hi => by rw [← h.2 i hi]; exact k.cell hB hs⟩
theorem RootsAt.drew {w : World} (h : RootsAt w) : RootsAt w.drew := h
theorem Sw.words {w : World} {g : Nat} {h h' : H8} {r : List UInt8} {n : Nat} (b : Blk w g 95 (Sw.cells ⟨h, r, n⟩)) :
    Blk ((((((((w.setCell ⟨g, 0, none⟩ (.int .u32 (u h'.a))).setCell ⟨g, 1, none⟩ (.int .u32 (u h'.b))).setCell ⟨g, 2, none⟩ (.int .u32 (u h'.c))).setCell ⟨g, 3, none⟩ (.int .u32 (u h'.d))).setCell ⟨g, 4, none⟩ (.int .u32 (u h'.e))).setCell ⟨g, 5, none⟩ (.int .u32 (u h'.f))).setCell ⟨g, 6, none⟩ (.int .u32 (u h'.g))).setCell ⟨g, 7, none⟩ (.int .u32 (u h'.h))) g 95 (Sw.cells ⟨h', r, n⟩) := by
  have := (((((((b.set_ 0 (.int .u32 (u h'.a))).set_ 1 (.int .u32 (u h'.b))).set_ 2 (.int .u32 (u h'.c))).set_ 3 (.int .u32 (u h'.d))).set_ 4 (.int .u32 (u h'.e))).set_ 5 (.int .u32 (u h'.f))).set_ 6 (.int .u32 (u h'.g))).set_ 7 (.int .u32 (u h'.h))
  simpa [Sw.cells] using this
theorem feed_len (q : List UInt8) (h : 64 ≤ q.length) : q.length / 64 = (q.drop 64).length / 64 + 1 := by simp; omega
theorem behind_to (s : List UInt8) (hs : s.length = 64) (x y : H8) (hxy : x.behind s = y) (w : World) (hR : RootsAt w) :
    Calls Tryd.prog 51 #[.agg #[.int .u32 (u x.a), .int .u32 (u x.b), .int .u32 (u x.c), .int .u32 (u x.d), .int .u32 (u x.e), .int .u32 (u x.f), .int .u32 (u x.g), .int .u32 (u x.h)], .string (bstr s)] w fun e w' =>
      e = .returned (.agg #[.int .u32 (u y.a), .int .u32 (u y.b), .int .u32 (u y.c), .int .u32 (u y.d), .int .u32 (u y.e), .int .u32 (u y.f), .int .u32 (u y.g), .int .u32 (u y.h)]) ∧ Below w.heap.size w w' := by
  subst hxy
  exact behind_any s hs x w hR
def slen : Value → Nat
  | .string s => s.size
  | _ => 0
theorem slen_bstr (q : List UInt8) : slen (.string (bstr q)) = q.length := by simp [slen, bstr, ByteArray.size]

set_option maxRecDepth 100000 in
set_option maxHeartbeats 2000000 in
theorem write_sum (g : Nat) (d : Sw) (s : List UInt8) (w : World) (hR : RootsAt w) (hg : Blk w g 95 d.cells) (hg0 : g ≠ 0) (hN : d.n + s.length < 4611686018427387904) (hr : d.rest.length ≤ 64) :
    Calls Tryd.prog 39 #[.pointer (some ⟨g, 0, none⟩), .string (bstr s)] w fun e w' => e = .returned (.tuple #[]) ∧ Blk w' g 95 (d.write s).cells ∧ Keep w.heap.size (· = g) w w' := by
  obtain ⟨h, r, n⟩ := d
  have hgl := hg.lt
  have k8 := hg.cell 8
  have k9 := hg.cell 9
  simp [Sw.cells] at k8 k9
  have f9 := hg.frozen 9
  have hN0 : (0 : Int) ≤ n := by omega
  have hsz : (bstr s).size = s.length := by simp [bstr, ByteArray.size]
  have hNb : (n : Int) + s.length < 4611686018427387904 := by simp at hN; omega
  have hwn : IntKind.i64.wrap ((n : Int) + s.length) = (n : Int) + s.length := IntWalk.i64_in _ ⟨by omega, by omega⟩
  go_enter Tryd.func39, Tryd.ntmps39
  go_upto_region 2 with fail
  obtain ⟨w1, hw1⟩ : ∃ y, w.setCell ⟨g, 9, none⟩ (.int .i64 ((n : Int) + s.length)) = y := ⟨_, rfl⟩
  have hg1 : Blk w1 g 95 (Sw.cells ⟨h, r, n + s.length⟩) := by
    rw [← hw1]
    simpa [Sw.cells] using hg.set_ 9 (.int .i64 ((n : Int) + s.length))
  have hk1 : Keep w.heap.size (· = g) w w1 := by
    rw [← hw1]
    exact (Keep.refl _ _ _).set1 9 _
  rw [hw1]
  clear hw1 k8 k9 f9
  have k8 := hg1.cell 8
  simp [Sw.cells] at k8
  have hcat : ¬ 9223372036854775807 < r.length + s.length := by simp at hr; omega
  go_wp2_with fail
  obtain ⟨N, hNe⟩ : ∃ y, n + s.length = y := ⟨_, rfl⟩
  have hR1 : RootsAt w1 := hR.keep hk1 hR.1 (fun e => hg0 e.symm)
  have hgw : g < w1.heap.size := hg1.lt
  rw [hNe] at hg1
  obtain ⟨Q, hQ⟩ : ∃ Q, r ++ s = Q := ⟨_, rfl⟩
  have hQl : Q.length ≤ 9223372036854775807 := by rw [← hQ, List.length_append]; omega
  have hwr : (⟨h, r, n⟩ : Sw).write s = ⟨H8.feed (Q.length / 64) h Q, Q.drop (Q.length / 64 * 64), N⟩ := by
    simp only [Sw.write, hQ, hNe]
  obtain ⟨HH, hHH⟩ : ∃ y, H8.feed (Q.length / 64) h Q = y := ⟨_, rfl⟩
  obtain ⟨RR, hRR⟩ : ∃ y, Q.drop (Q.length / 64 * 64) = y := ⟨_, rfl⟩
  rw [hHH, hRR] at hwr
  have HW := Lib.hid hwr
  rw [hQ]
  have HHH := Lib.hid hHH
  have HRR := Lib.hid hRR
  have HG0 := Lib.hid hg0
  clear hwr hQ hHH hRR hNe hcat k8 hwn hsz hN hNb hN0 hg hg0 hgl hr
  go_loopw [1] (fun i wv => ∃ h' q, i = .string (bstr q) ∧ q.length ≤ 9223372036854775807 ∧ H8.feed (q.length / 64) h' q = HH ∧ q.drop (q.length / 64 * 64) = RR ∧ Blk wv g 95 (Sw.cells ⟨h', r, N⟩) ∧ Keep w1.heap.size (· = g) w1 wv) (fun i _ => slen i)
  case atStart => exact ⟨h, Q, rfl, hQl, HHH.out, HRR.out, hg1, Keep.refl _ _ _⟩
  case round =>
    obtain ⟨h', q, rfl, hql, hf, hd, hb, hk⟩ := hrel
    have F := Lib.hid hf
    have D := Lib.hid hd
    clear hf hd
    by_cases h64 : 64 ≤ q.length
    · have q1 : decide ((q.length : Int) ≥ 64) = true := decide_eq_true (by omega)
      have L64 := Lib.hid (show (q.take 64).length = 64 by simp; omega)
      have h65 : (64 : Int) ≤ q.length := by omega
      have hRw : RootsAt wr.drew := (hR1.keep hk (by omega) (fun e => HG0.out e.symm)).drew
      obtain ⟨hn, hhn⟩ : ∃ y, h'.behind (q.take 64) = y := ⟨_, rfl⟩
      have F2 := F.out
      rw [feed_len q h64, H8.feed, hhn] at F2
      have D2 := D.out
      rw [feed_len q h64, Nat.add_mul, Nat.one_mul, Nat.add_comm, ← List.drop_drop] at D2
      have HB := Lib.hid hhn
      have F3 := Lib.hid F2
      have D3 := Lib.hid D2
      clear hhn F2 D2 F D
      have c0 := hb.cell 0
      have c1 := hb.cell 1
      have c2 := hb.cell 2
      have c3 := hb.cell 3
      have c4 := hb.cell 4
      have c5 := hb.cell 5
      have c6 := hb.cell 6
      have c7 := hb.cell 7
      simp [Sw.cells] at c0 c1 c2 c3 c4 c5 c6 c7
      go_wp2_with fail
      go_region_law (first
        | (go_simp; go_at_call 51; refine (behind_to (q.take 64) L64.out h' hn HB.out wr.drew hRw).mono ?_; rintro e w2 ⟨rfl, hb2⟩; have hg2 := (hb.drew).below hb2 hb.lt; have d0 := hg2.cell 0; have d1 := hg2.cell 1; have d2 := hg2.cell 2; have d3 := hg2.cell 3; have d4 := hg2.cell 4; have d5 := hg2.cell 5; have d6 := hg2.cell 6; have d7 := hg2.cell 7; simp [Sw.cells] at d0 d1 d2 d3 d4 d5 d6 d7; have f0 := hg2.frozen 0; have f1 := hg2.frozen 1; have f2 := hg2.frozen 2; have f3 := hg2.frozen 3; have f4 := hg2.frozen 4; have f5 := hg2.frozen 5; have f6 := hg2.frozen 6; have f7 := hg2.frozen 7; dsimp only))
      all_goals
        have hset := Sw.words (h' := hn) hg2
        have hkk : Keep w1.heap.size (· = g) w1 w2 := hk.trans ((Keep.of_below (S := (· = g)) hb2.fromDrew).mono hk.size (fun _ _ h => h))
        have hks := (((((((hkk.set1 0 (.int .u32 (u hn.a))).set1 1 (.int .u32 (u hn.b))).set1 2 (.int .u32 (u hn.c))).set1 3 (.int .u32 (u hn.d))).set1 4 (.int .u32 (u hn.e))).set1 5 (.int .u32 (u hn.f))).set1 6 (.int .u32 (u hn.g))).set1 7 (.int .u32 (u hn.h))
        go_wp2
        go_round
        case rel =>
          refine ⟨_, _, _, _, _, _, _, _, _, _, _, _, _, _, _, _, ?_, rfl⟩
          exact ⟨hn, q.drop 64, rfl, by simp; omega, F3.out, D3.out, hset, hks⟩
        case measure =>
          show slen (.string (bstr (q.drop 64))) < slen (.string (bstr q))
          simp only [slen_bstr, List.length_drop]
          omega
    · have q1 : decide ((q.length : Int) ≥ 64) = false := decide_eq_false (by omega)
      have hz : q.length / 64 = 0 := by omega
      have F2 := F.out
      have D2 := D.out
      rw [hz] at F2 D2
      rw [Nat.zero_mul, List.drop_zero] at D2
      rw [H8.feed] at F2
      subst F2 D2
      have hset := hb.set_ 8 (.string (bstr q))
      have f8 := hb.frozen 8
      have c8 := hb.cell 8
      simp [Sw.cells] at c8
      go_wp2
      go_end0
      refine ⟨rfl, ?_, hk1.trans ((hk.set1 8 _).mono hk1.size (fun _ _ h => h))⟩
      rw [HW.out]
      exact hset

end Go.Proofs.YtmdjbmhjnajpgaaDoor
namespace Go.Proofs.YtmdjbmhjnajpgaaDoor
open Go.RowKit
set_option maxRecDepth 100000
set_option linter.unusedSimpArgs false
set_option linter.unnecessarySimpa false
set_option linter.unusedVariables false

/-- the first k bytes of a length of n bytes in bits, the greatest first -/
def lenB (n : Nat) : Nat → List UInt8
  | 0 => []
  | k + 1 => lenB n k ++ [UInt8.ofNat (8 * n / 2 ^ (56 - 8 * k) % 256)]
def Sw.tail (d : Sw) : List UInt8 := 128 :: (List.replicate ((119 - d.rest.length) % 64) 0 ++ lenB d.n 8)
def wordB (x : BitVec 32) : List UInt8 := [UInt8.ofNat (x.toNat / 16777216 % 256), UInt8.ofNat (x.toNat / 65536 % 256), UInt8.ofNat (x.toNat / 256 % 256), UInt8.ofNat (x.toNat % 256)]
def H8.bytes (h : H8) : List UInt8 := h.l.flatMap wordB
def Sw.digest (d : Sw) : List UInt8 := (d.write d.tail).h.bytes
def shaL (s : List UInt8) : List UInt8 := (Sw.new.write s).digest

theorem zeros_rep (n : Nat) : (⟨(Lib.repeatL (ByteArray.mk #[0]).data.toList n).toArray⟩ : ByteArray) = bstr (List.replicate n 0) := by
  have : ∀ n : Nat, Lib.repeatL [(0 : UInt8)] n = List.replicate n 0 := by
    intro n
    induction n with
    | zero => rfl
    | succ n ih => rw [Lib.repeatL, ih, List.replicate_succ]; rfl
  unfold bstr
  rw [show (ByteArray.mk #[0]).data.toList = [0] from rfl, this]

theorem sw_one (d : Sw) : d.cells.all (·.oneCell') = true := by simp [Sw.cells, Value.oneCell']
theorem sw_zero : Sw.cells ⟨⟨0, 0, 0, 0, 0, 0, 0, 0⟩, [], 0⟩ = #[.int .u32 0, .int .u32 0, .int .u32 0, .int .u32 0, .int .u32 0, .int .u32 0, .int .u32 0, .int .u32 0, .string ⟨#[]⟩, .int .i64 0] := rfl
theorem idx8_0 (x : H8) (w : World) : (Instr.index 92 (.agg #[.int .u32 (u x.a), .int .u32 (u x.b), .int .u32 (u x.c), .int .u32 (u x.d), .int .u32 (u x.e), .int .u32 (u x.f), .int .u32 (u x.g), .int .u32 (u x.h)]) (.int .i64 0)).run Tryd.prog w = .ok (.int .u32 (u x.a)) w := by
  simp [Instr.index, run_underlying Tryd.underlying92, asIntOf, go_sem, part, Tryd.isAgg90, Tryd.sizeOf90]
theorem idx8_1 (x : H8) (w : World) : (Instr.index 92 (.agg #[.int .u32 (u x.a), .int .u32 (u x.b), .int .u32 (u x.c), .int .u32 (u x.d), .int .u32 (u x.e), .int .u32 (u x.f), .int .u32 (u x.g), .int .u32 (u x.h)]) (.int .i64 1)).run Tryd.prog w = .ok (.int .u32 (u x.b)) w := by
  simp [Instr.index, run_underlying Tryd.underlying92, asIntOf, go_sem, part, Tryd.isAgg90, Tryd.sizeOf90]
theorem idx8_2 (x : H8) (w : World) : (Instr.index 92 (.agg #[.int .u32 (u x.a), .int .u32 (u x.b), .int .u32 (u x.c), .int .u32 (u x.d), .int .u32 (u x.e), .int .u32 (u x.f), .int .u32 (u x.g), .int .u32 (u x.h)]) (.int .i64 2)).run Tryd.prog w = .ok (.int .u32 (u x.c)) w := by
  simp [Instr.index, run_underlying Tryd.underlying92, asIntOf, go_sem, part, Tryd.isAgg90, Tryd.sizeOf90]
theorem idx8_3 (x : H8) (w : World) : (Instr.index 92 (.agg #[.int .u32 (u x.a), .int .u32 (u x.b), .int .u32 (u x.c), .int .u32 (u x.d), .int .u32 (u x.e), .int .u32 (u x.f), .int .u32 (u x.g), .int .u32 (u x.h)]) (.int .i64 3)).run Tryd.prog w = .ok (.int .u32 (u x.d)) w := by
  simp [Instr.index, run_underlying Tryd.underlying92, asIntOf, go_sem, part, Tryd.isAgg90, Tryd.sizeOf90]
theorem idx8_4 (x : H8) (w : World) : (Instr.index 92 (.agg #[.int .u32 (u x.a), .int .u32 (u x.b), .int .u32 (u x.c), .int .u32 (u x.d), .int .u32 (u x.e), .int .u32 (u x.f), .int .u32 (u x.g), .int .u32 (u x.h)]) (.int .i64 4)).run Tryd.prog w = .ok (.int .u32 (u x.e)) w := by
  simp [Instr.index, run_underlying Tryd.underlying92, asIntOf, go_sem, part, Tryd.isAgg90, Tryd.sizeOf90]
theorem idx8_5 (x : H8) (w : World) : (Instr.index 92 (.agg #[.int .u32 (u x.a), .int .u32 (u x.b), .int .u32 (u x.c), .int .u32 (u x.d), .int .u32 (u x.e), .int .u32 (u x.f), .int .u32 (u x.g), .int .u32 (u x.h)]) (.int .i64 5)).run Tryd.prog w = .ok (.int .u32 (u x.f)) w := by
  simp [Instr.index, run_underlying Tryd.underlying92, asIntOf, go_sem, part, Tryd.isAgg90, Tryd.sizeOf90]
theorem idx8_6 (x : H8) (w : World) : (Instr.index 92 (.agg #[.int .u32 (u x.a), .int .u32 (u x.b), .int .u32 (u x.c), .int .u32 (u x.d), .int .u32 (u x.e), .int .u32 (u x.f), .int .u32 (u x.g), .int .u32 (u x.h)]) (.int .i64 6)).run Tryd.prog w = .ok (.int .u32 (u x.g)) w := by
  simp [Instr.index, run_underlying Tryd.underlying92, asIntOf, go_sem, part, Tryd.isAgg90, Tryd.sizeOf90]
theorem idx8_7 (x : H8) (w : World) : (Instr.index 92 (.agg #[.int .u32 (u x.a), .int .u32 (u x.b), .int .u32 (u x.c), .int .u32 (u x.d), .int .u32 (u x.e), .int .u32 (u x.f), .int .u32 (u x.g), .int .u32 (u x.h)]) (.int .i64 7)).run Tryd.prog w = .ok (.int .u32 (u x.h)) w := by
  simp [Instr.index, run_underlying Tryd.underlying92, asIntOf, go_sem, part, Tryd.isAgg90, Tryd.sizeOf90]
theorem word_cells (x : BitVec 32) : #[.int .u8 (u x / 16777216), .int .u8 (u x / 65536 % 256), .int .u8 (u x / 256 % 256), .int .u8 (u x % 256)] = bcells (wordB x) := by
  have := x.isLt
  unfold u
  simp [bcells, wordB]
  omega
theorem flat_len : ∀ l : List (BitVec 32), (l.flatMap wordB).length = 4 * l.length
  | [] => rfl
  | x :: l => by rw [List.flatMap_cons, List.length_append, flat_len l, List.length_cons]; simp [wordB]; omega
theorem run_byte_one_new {P : Program} (w : World) {src e dst : TypeId} (hs : P.underlying src = some (.slice e)) (he : P.underlying e = some (.int .u8)) (hd : P.underlying dst = some .string) (v : Int) (x : UInt8) (hx : (x.toNat : Int) = v) :
    (convert src dst (.slice (some ⟨w.heap.size, 0, none⟩) 1 1)).run P (w.alloc (.cells #[.int .u8 v] e)) = .ok (.string (bstr [x])) (w.alloc (.cells #[.int .u8 v] e)) := by
  subst hx
  have hb := Blk.new w e (bcells ([x] ++ []))
  exact run_convert_bcells hb hs he hd 1 1 rfl
theorem lenB_len (n : Nat) : ∀ k, (lenB n k).length = k
  | 0 => rfl
  | k + 1 => by rw [lenB, List.length_append, lenB_len n k]; rfl
theorem str80 (l : List UInt8) : (ByteArray.mk #[128]) ++ bstr l = bstr (128 :: l) := bstr_append [128] l
set_option maxRecDepth 100000 in
set_option maxHeartbeats 2000000 in
theorem sum_sum (g : Nat) (d : Sw) (w : World) (hR : RootsAt w) (hg : Blk w g 95 d.cells) (hg0 : g ≠ 0) (hN : d.n < 288230376151711744) (hr : d.rest.length < 64) :
    Calls Tryd.prog 40 #[.pointer (some ⟨g, 0, none⟩)] w fun e w' => e = .returned (.string (bstr d.digest)) ∧ Below w.heap.size w w' := by
  obtain ⟨h, r, n⟩ := d
  have k8 := hg.cell 8
  simp [Sw.cells] at k8
  simp at hr hN
  have hm : (119 - (r.length : Int)) % 64 = (((119 - r.length) % 64 : Nat) : Int) := by omega
  have hm0 : IntKind.i64.wrap (119 - (r.length : Int)) = 119 - (r.length : Int) := IntWalk.i64_in _ ⟨by omega, by omega⟩
  obtain ⟨m, hme⟩ : ∃ m, (119 - r.length) % 64 = m := ⟨_, rfl⟩
  have hmod : (119 - (r.length : Int)).tmod 64 = m := by rw [Int.tmod_eq_emod_of_nonneg (by omega), hm, hme]
  have hml : m < 64 := by omega
  have HM := Lib.hid hme
  clear hme hm
  go_enter Tryd.func40, Tryd.ntmps40
  go_wp2_with fail
  refine (Tryd.strings_Repeat ⟨#[0]⟩ m w (by omega) (by show 1 * m ≤ _; omega)).mono ?_
  rintro e w1 ⟨rfl, hb1⟩
  rw [zeros_rep]
  have h80 := str80 (List.replicate m 0)
  have hms : ¬ 9223372036854775807 < 1 + m := by omega
  go_wp2_with fail
  go_loopw [3, 4] (fun t i wr => ∃ k : Nat, ∃ z : Int, k ≤ 8 ∧ z = 56 - 8 * k ∧ i = .int .i64 z ∧ t = .string (bstr (128 :: (List.replicate m 0 ++ lenB n k))) ∧ Below w.heap.size w wr) (fun _ i _ => (intOf i + 8).toNat)
  case atStart => exact ⟨0, 56, by omega, by omega, rfl, by simp [lenB], hb1⟩
  case round =>
    obtain ⟨k, z, hk, hz, rfl, rfl, hb⟩ := hrel
    have hgr := hg.below hb hg.lt
    have k9 := hgr.cell 9
    simp [Sw.cells] at k9
    have hN1 : (0 : Int) ≤ n := by omega
    have w8 : IntKind.i64.wrap (8 * (n : Int)) = 8 * (n : Int) := IntWalk.i64_in _ ⟨by omega, by omega⟩
    obtain ⟨t, ht⟩ : ∃ t, 128 :: (List.replicate m 0 ++ lenB n k) = t := ⟨_, rfl⟩
    have htl : t.length ≤ 80 := by rw [← ht]; simp [lenB_len]; omega
    have hcat : ¬ 9223372036854775807 < t.length + 1 := by omega
    rw [ht]
    have HT := Lib.hid ht
    clear ht h80 hms hm0 hmod
    have : k = 0 ∨ k = 1 ∨ k = 2 ∨ k = 3 ∨ k = 4 ∨ k = 5 ∨ k = 6 ∨ k = 7 ∨ k = 8 := by omega
    rcases this with rfl | rfl | rfl | rfl | rfl | rfl | rfl | rfl | rfl
    · obtain rfl : z = 56 := by omega
      clear hz
      have hcv := run_byte_one_new (P := Tryd.prog) wr Tryd.underlying84 Tryd.underlying5 Tryd.underlying9 (8 * (n : Int) / 72057594037927936) (UInt8.ofNat (8 * n / 72057594037927936 % 256)) (by simp <;> omega)
      have hto : t ++ [UInt8.ofNat (8 * n / 72057594037927936 % 256)] = 128 :: (List.replicate m 0 ++ lenB n 1) := by rw [← HT.out]; simp [lenB]
      have HTO := Lib.hid hto
      clear hto
      go_wp2
      go_round
      case rel => exact ⟨1, 48, by omega, by omega, rfl, by rw [← HTO.out], hb.alloc hb.size _⟩
      case measure => simp [intOf]
    · obtain rfl : z = 48 := by omega
      clear hz
      have hcv := run_byte_one_new (P := Tryd.prog) wr Tryd.underlying84 Tryd.underlying5 Tryd.underlying9 (8 * (n : Int) / 281474976710656 % 256) (UInt8.ofNat (8 * n / 281474976710656 % 256)) (by simp <;> omega)
      have hto : t ++ [UInt8.ofNat (8 * n / 281474976710656 % 256)] = 128 :: (List.replicate m 0 ++ lenB n 2) := by rw [← HT.out]; simp [lenB]
      have HTO := Lib.hid hto
      clear hto
      go_wp2
      go_round
      case rel => exact ⟨2, 40, by omega, by omega, rfl, by rw [← HTO.out], hb.alloc hb.size _⟩
      case measure => simp [intOf]
    · obtain rfl : z = 40 := by omega
      clear hz
      have hcv := run_byte_one_new (P := Tryd.prog) wr Tryd.underlying84 Tryd.underlying5 Tryd.underlying9 (8 * (n : Int) / 1099511627776 % 256) (UInt8.ofNat (8 * n / 1099511627776 % 256)) (by simp <;> omega)
      have hto : t ++ [UInt8.ofNat (8 * n / 1099511627776 % 256)] = 128 :: (List.replicate m 0 ++ lenB n 3) := by rw [← HT.out]; simp [lenB]
      have HTO := Lib.hid hto
      clear hto
      go_wp2
      go_round
      case rel => exact ⟨3, 32, by omega, by omega, rfl, by rw [← HTO.out], hb.alloc hb.size _⟩
      case measure => simp [intOf]
    · obtain rfl : z = 32 := by omega
      clear hz
      have hcv := run_byte_one_new (P := Tryd.prog) wr Tryd.underlying84 Tryd.underlying5 Tryd.underlying9 (8 * (n : Int) / 4294967296 % 256) (UInt8.ofNat (8 * n / 4294967296 % 256)) (by simp <;> omega)
      have hto : t ++ [UInt8.ofNat (8 * n / 4294967296 % 256)] = 128 :: (List.replicate m 0 ++ lenB n 4) := by rw [← HT.out]; simp [lenB]
      have HTO := Lib.hid hto
      clear hto
      go_wp2
      go_round
      case rel => exact ⟨4, 24, by omega, by omega, rfl, by rw [← HTO.out], hb.alloc hb.size _⟩
      case measure => simp [intOf]
    · obtain rfl : z = 24 := by omega
      clear hz
      have hcv := run_byte_one_new (P := Tryd.prog) wr Tryd.underlying84 Tryd.underlying5 Tryd.underlying9 (8 * (n : Int) / 16777216 % 256) (UInt8.ofNat (8 * n / 16777216 % 256)) (by simp <;> omega)
      have hto : t ++ [UInt8.ofNat (8 * n / 16777216 % 256)] = 128 :: (List.replicate m 0 ++ lenB n 5) := by rw [← HT.out]; simp [lenB]
      have HTO := Lib.hid hto
      clear hto
      go_wp2
      go_round
      case rel => exact ⟨5, 16, by omega, by omega, rfl, by rw [← HTO.out], hb.alloc hb.size _⟩
      case measure => simp [intOf]
    · obtain rfl : z = 16 := by omega
      clear hz
      have hcv := run_byte_one_new (P := Tryd.prog) wr Tryd.underlying84 Tryd.underlying5 Tryd.underlying9 (8 * (n : Int) / 65536 % 256) (UInt8.ofNat (8 * n / 65536 % 256)) (by simp <;> omega)
      have hto : t ++ [UInt8.ofNat (8 * n / 65536 % 256)] = 128 :: (List.replicate m 0 ++ lenB n 6) := by rw [← HT.out]; simp [lenB]
      have HTO := Lib.hid hto
      clear hto
      go_wp2
      go_round
      case rel => exact ⟨6, 8, by omega, by omega, rfl, by rw [← HTO.out], hb.alloc hb.size _⟩
      case measure => simp [intOf]
    · obtain rfl : z = 8 := by omega
      clear hz
      have hcv := run_byte_one_new (P := Tryd.prog) wr Tryd.underlying84 Tryd.underlying5 Tryd.underlying9 (8 * (n : Int) / 256 % 256) (UInt8.ofNat (8 * n / 256 % 256)) (by simp <;> omega)
      have hto : t ++ [UInt8.ofNat (8 * n / 256 % 256)] = 128 :: (List.replicate m 0 ++ lenB n 7) := by rw [← HT.out]; simp [lenB]
      have HTO := Lib.hid hto
      clear hto
      go_wp2
      go_round
      case rel => exact ⟨7, 0, by omega, by omega, rfl, by rw [← HTO.out], hb.alloc hb.size _⟩
      case measure => simp [intOf]
    · obtain rfl : z = 0 := by omega
      clear hz
      have hcv := run_byte_one_new (P := Tryd.prog) wr Tryd.underlying84 Tryd.underlying5 Tryd.underlying9 (8 * (n : Int) % 256) (UInt8.ofNat (8 * n % 256)) (by simp <;> omega)
      have hto : t ++ [UInt8.ofNat (8 * n % 256)] = 128 :: (List.replicate m 0 ++ lenB n 8) := by rw [← HT.out]; simp [lenB]
      have HTO := Lib.hid hto
      clear hto
      go_wp2
      go_round
      case rel => exact ⟨8, -8, by omega, by omega, rfl, by rw [← HTO.out], hb.alloc hb.size _⟩
      case measure => simp [intOf]
    · obtain rfl : z = -8 := by omega
      clear hz
      have htl8 : t = Sw.tail ⟨h, r, n⟩ := by rw [← HT.out, Sw.tail, HM.out]
      obtain ⟨V, hV⟩ : ∃ V, wr.heap.size = V := ⟨_, rfl⟩
      have hVw : w.heap.size ≤ V := by rw [← hV]; exact hb.size
      obtain ⟨w3, hw3⟩ : ∃ y, (wr.alloc (.cells (Sw.cells ⟨⟨0, 0, 0, 0, 0, 0, 0, 0⟩, [], 0⟩) 95)).setRow V (Sw.cells ⟨h, r, n⟩) = y := ⟨_, rfl⟩
      have hb3 : Below w.heap.size w w3 := by rw [← hw3]; exact below_setRow (hb.alloc hb.size _) hVw _
      have hg3 : Blk w3 V 95 (Sw.cells ⟨h, r, n⟩) := by rw [← hw3]; exact setRow_heap _ _ _ _ _ _ (blk_at hV)
      have HW3 := Lib.hid hw3
      have HT8 := Lib.hid htl8
      have hold : Blk (wr.alloc (.cells (Sw.cells ⟨⟨0, 0, 0, 0, 0, 0, 0, 0⟩, [], 0⟩) 95)) V 95 (Sw.cells ⟨⟨0, 0, 0, 0, 0, 0, 0, 0⟩, [], 0⟩) := blk_at hV
      clear hw3 htl8 k8 k9 hcat
      go_upto_region 9 with (first | (refine wpList_load_row rfl 95 _ rfl g rfl 95 (Sw.cells ⟨h, r, n⟩) (0, 0) _ hgr Tryd.underlying95 rfl rfl ?_) | (refine wpList_store_row rfl 95 _ _ rfl V (Sw.cells ⟨h, r, n⟩) rfl rfl 95 _ hold rfl rfl (sw_one _) ?_))
      have hw3' := HW3.out
      rw [sw_zero] at hw3'
      rw [hw3']
      clear hw3' hold
      have hR3 : RootsAt w3 := hR.below hb3 hR.1
      have hV0 : V ≠ 0 := by have := hR.1; omega
      go_wp2_with fail
      refine (write_sum V ⟨h, r, n⟩ t w3 hR3 hg3 hV0 (by simp; omega) (by simp; omega)).mono ?_
      rintro e w4 ⟨rfl, hg4, hk4⟩
      have hb4 : Below w.heap.size w w4 := hb3.trans (hk4.mono (S' := fun _ => False) hb3.size (fun k h1 h2 => by omega)).below
      have hdg : (Sw.digest ⟨h, r, n⟩) = ((Sw.write ⟨h, r, n⟩ t).h).bytes := by rw [HT8.out]; rfl
      obtain ⟨⟨y, r', n'⟩, hd⟩ : ∃ d, Sw.write ⟨h, r, n⟩ t = d := ⟨_, rfl⟩
      rw [hd] at hg4 hdg
      have HDG := Lib.hid hdg
      clear hd hdg hR3 hV0 hg3 hb3 HT8 HW3 HT htl
      obtain ⟨B, hB⟩ : ∃ B, w4.heap.size = B := ⟨_, rfl⟩
      have hbl : BlAt B (w4.alloc (.cells #[.pointer none, .slice none 0 0] 100)) B [] := by rw [← hB]; exact BlAt.new w4
      have hb5 : Below w.heap.size w (w4.alloc (.cells #[.pointer none, .slice none 0 0] 100)) := hb4.alloc hb4.size _
      have hBs : B < (w4.alloc (.cells #[.pointer none, .slice none 0 0] 100)).heap.size := by simp; omega
      have hwB : w.heap.size ≤ B := by rw [← hB]; exact hb4.size
      have hg5 := hg4.alloc (.cells #[.pointer none, .slice none 0 0] 100)
      have c0 := hg5.cell 0
      have c1 := hg5.cell 1
      have c2 := hg5.cell 2
      have c3 := hg5.cell 3
      have c4 := hg5.cell 4
      have c5 := hg5.cell 5
      have c6 := hg5.cell 6
      have c7 := hg5.cell 7
      simp [Sw.cells] at c0 c1 c2 c3 c4 c5 c6 c7
      clear hg5
      go_wp2_with fail
      obtain ⟨w6, hw6⟩ : ∃ z, w4.alloc (.cells #[.pointer none, .slice none 0 0] 100) = z := ⟨_, rfl⟩
      rw [hw6] at hbl hb5 hBs c0 c1 c2 c3 c4 c5 c6 c7 ⊢
      clear hw6 c0 c1 c2 c3 c4 c5 c6 c7 hg4 hk4 hb4 hgr hb hB
      go_loopw [44] (fun i wv => ∃ j : Nat, j ≤ 8 ∧ i = .int .i64 j ∧ BlAt B wv B ((y.l.take j).flatMap wordB) ∧ Below w.heap.size w wv ∧ B < wv.heap.size) (fun i _ => 8 - (intOf i).toNat)
      case atStart => exact ⟨0, by omega, rfl, hbl, hb5, hBs⟩
      case round =>
        clear hbl hb5 hBs
        obtain ⟨j, hj, rfl, hbl, hbv, hBv⟩ := hrel
        have : j = 0 ∨ j = 1 ∨ j = 2 ∨ j = 3 ∨ j = 4 ∨ j = 5 ∨ j = 6 ∨ j = 7 ∨ j = 8 := by omega
        rcases this with rfl | rfl | rfl | rfl | rfl | rfl | rfl | rfl | rfl
        · have hix := idx8_0 y wr
          have z0 := u_lo y.a
          have z1 := u_hi y.a
          have hwc := Lib.hid (word_cells y.a)
          go_wp2_with fail
          rw [hwc.out]
          refine (bwrite_any B B wr.heap.size 4 _ (wordB y.a) (Nat.zero_lt_succ 3) _ (hbl.below ((Below.refl _ _).alloc (Nat.le_refl _) _)) (Blk.new wr _ _) (by omega) (by rw [flat_len]; simp [H8.l, wordB]) (by simp; omega)).mono ?_
          rintro e w7 ⟨rfl, hbl7, hb7⟩
          have hb8 : Below w.heap.size w w7 := (hbv.alloc hbv.size _).trans ((Keep.of_below (S := fun _ => False) hb7).mono (S' := fun _ => False) hwB (fun _ _ h => h)).below
          have hl8 := hbl7.lt.2
          clear hix z0 z1 hwc
          go_wp2
          go_round
          case rel => exact ⟨1, by omega, by go_num, hbl7, hb8, hl8⟩
          case measure => simp [intOf]
        · have hix := idx8_1 y wr
          have z0 := u_lo y.b
          have z1 := u_hi y.b
          have hwc := Lib.hid (word_cells y.b)
          go_wp2_with fail
          rw [hwc.out]
          refine (bwrite_any B B wr.heap.size 4 _ (wordB y.b) (Nat.zero_lt_succ 3) _ (hbl.below ((Below.refl _ _).alloc (Nat.le_refl _) _)) (Blk.new wr _ _) (by omega) (by rw [flat_len]; simp [H8.l, wordB]) (by simp; omega)).mono ?_
          rintro e w7 ⟨rfl, hbl7, hb7⟩
          have hb8 : Below w.heap.size w w7 := (hbv.alloc hbv.size _).trans ((Keep.of_below (S := fun _ => False) hb7).mono (S' := fun _ => False) hwB (fun _ _ h => h)).below
          have hl8 := hbl7.lt.2
          clear hix z0 z1 hwc
          go_wp2
          go_round
          case rel => exact ⟨2, by omega, by go_num, hbl7, hb8, hl8⟩
          case measure => simp [intOf]
        · have hix := idx8_2 y wr
          have z0 := u_lo y.c
          have z1 := u_hi y.c
          have hwc := Lib.hid (word_cells y.c)
          go_wp2_with fail
          rw [hwc.out]
          refine (bwrite_any B B wr.heap.size 4 _ (wordB y.c) (Nat.zero_lt_succ 3) _ (hbl.below ((Below.refl _ _).alloc (Nat.le_refl _) _)) (Blk.new wr _ _) (by omega) (by rw [flat_len]; simp [H8.l, wordB]) (by simp; omega)).mono ?_
          rintro e w7 ⟨rfl, hbl7, hb7⟩
          have hb8 : Below w.heap.size w w7 := (hbv.alloc hbv.size _).trans ((Keep.of_below (S := fun _ => False) hb7).mono (S' := fun _ => False) hwB (fun _ _ h => h)).below
          have hl8 := hbl7.lt.2
          clear hix z0 z1 hwc
          go_wp2
          go_round
          case rel => exact ⟨3, by omega, by go_num, hbl7, hb8, hl8⟩
          case measure => simp [intOf]
        · have hix := idx8_3 y wr
          have z0 := u_lo y.d
          have z1 := u_hi y.d
          have hwc := Lib.hid (word_cells y.d)
          go_wp2_with fail
          rw [hwc.out]
          refine (bwrite_any B B wr.heap.size 4 _ (wordB y.d) (Nat.zero_lt_succ 3) _ (hbl.below ((Below.refl _ _).alloc (Nat.le_refl _) _)) (Blk.new wr _ _) (by omega) (by rw [flat_len]; simp [H8.l, wordB]) (by simp; omega)).mono ?_
          rintro e w7 ⟨rfl, hbl7, hb7⟩
          have hb8 : Below w.heap.size w w7 := (hbv.alloc hbv.size _).trans ((Keep.of_below (S := fun _ => False) hb7).mono (S' := fun _ => False) hwB (fun _ _ h => h)).below
          have hl8 := hbl7.lt.2
          clear hix z0 z1 hwc
          go_wp2
          go_round
          case rel => exact ⟨4, by omega, by go_num, hbl7, hb8, hl8⟩
          case measure => simp [intOf]
        · have hix := idx8_4 y wr
          have z0 := u_lo y.e
          have z1 := u_hi y.e
          have hwc := Lib.hid (word_cells y.e)
          go_wp2_with fail
          rw [hwc.out]
          refine (bwrite_any B B wr.heap.size 4 _ (wordB y.e) (Nat.zero_lt_succ 3) _ (hbl.below ((Below.refl _ _).alloc (Nat.le_refl _) _)) (Blk.new wr _ _) (by omega) (by rw [flat_len]; simp [H8.l, wordB]) (by simp; omega)).mono ?_
          rintro e w7 ⟨rfl, hbl7, hb7⟩
          have hb8 : Below w.heap.size w w7 := (hbv.alloc hbv.size _).trans ((Keep.of_below (S := fun _ => False) hb7).mono (S' := fun _ => False) hwB (fun _ _ h => h)).below
          have hl8 := hbl7.lt.2
          clear hix z0 z1 hwc
          go_wp2
          go_round
          case rel => exact ⟨5, by omega, by go_num, hbl7, hb8, hl8⟩
          case measure => simp [intOf]
        · have hix := idx8_5 y wr
          have z0 := u_lo y.f
          have z1 := u_hi y.f
          have hwc := Lib.hid (word_cells y.f)
          go_wp2_with fail
          rw [hwc.out]
          refine (bwrite_any B B wr.heap.size 4 _ (wordB y.f) (Nat.zero_lt_succ 3) _ (hbl.below ((Below.refl _ _).alloc (Nat.le_refl _) _)) (Blk.new wr _ _) (by omega) (by rw [flat_len]; simp [H8.l, wordB]) (by simp; omega)).mono ?_
          rintro e w7 ⟨rfl, hbl7, hb7⟩
          have hb8 : Below w.heap.size w w7 := (hbv.alloc hbv.size _).trans ((Keep.of_below (S := fun _ => False) hb7).mono (S' := fun _ => False) hwB (fun _ _ h => h)).below
          have hl8 := hbl7.lt.2
          clear hix z0 z1 hwc
          go_wp2
          go_round
          case rel => exact ⟨6, by omega, by go_num, hbl7, hb8, hl8⟩
          case measure => simp [intOf]
        · have hix := idx8_6 y wr
          have z0 := u_lo y.g
          have z1 := u_hi y.g
          have hwc := Lib.hid (word_cells y.g)
          go_wp2_with fail
          rw [hwc.out]
          refine (bwrite_any B B wr.heap.size 4 _ (wordB y.g) (Nat.zero_lt_succ 3) _ (hbl.below ((Below.refl _ _).alloc (Nat.le_refl _) _)) (Blk.new wr _ _) (by omega) (by rw [flat_len]; simp [H8.l, wordB]) (by simp; omega)).mono ?_
          rintro e w7 ⟨rfl, hbl7, hb7⟩
          have hb8 : Below w.heap.size w w7 := (hbv.alloc hbv.size _).trans ((Keep.of_below (S := fun _ => False) hb7).mono (S' := fun _ => False) hwB (fun _ _ h => h)).below
          have hl8 := hbl7.lt.2
          clear hix z0 z1 hwc
          go_wp2
          go_round
          case rel => exact ⟨7, by omega, by go_num, hbl7, hb8, hl8⟩
          case measure => simp [intOf]
        · have hix := idx8_7 y wr
          have z0 := u_lo y.h
          have z1 := u_hi y.h
          have hwc := Lib.hid (word_cells y.h)
          go_wp2_with fail
          rw [hwc.out]
          refine (bwrite_any B B wr.heap.size 4 _ (wordB y.h) (Nat.zero_lt_succ 3) _ (hbl.below ((Below.refl _ _).alloc (Nat.le_refl _) _)) (Blk.new wr _ _) (by omega) (by rw [flat_len]; simp [H8.l, wordB]) (by simp; omega)).mono ?_
          rintro e w7 ⟨rfl, hbl7, hb7⟩
          have hb8 : Below w.heap.size w w7 := (hbv.alloc hbv.size _).trans ((Keep.of_below (S := fun _ => False) hb7).mono (S' := fun _ => False) hwB (fun _ _ h => h)).below
          have hl8 := hbl7.lt.2
          clear hix z0 z1 hwc
          go_wp2
          go_round
          case rel => exact ⟨8, by omega, by go_num, hbl7, hb8, hl8⟩
          case measure => simp [intOf]
        · go_wp2_with fail
          refine (bstring_any B B _ wr hbl (by omega)).mono ?_
          rintro e w7 ⟨rfl, hb7⟩
          have hb8 : Below w.heap.size w w7 := hbv.trans ((Keep.of_below (S := fun _ => False) hb7).mono (S' := fun _ => False) hwB (fun _ _ h => h)).below
          go_wp2
          go_ret
          refine ⟨?_, hb8⟩
          rw [HDG.out]
          rfl

end Go.Proofs.YtmdjbmhjnajpgaaDoor
namespace Go.Proofs.YtmdjbmhjnajpgaaDoor
open Go.RowKit
set_option maxRecDepth 100000
set_option linter.unusedSimpArgs false
set_option linter.unnecessarySimpa false
set_option linter.unusedVariables false

set_option maxRecDepth 100000 in
set_option maxHeartbeats 2000000 in
theorem sum_nil (w : World) (hR0 : RootsAt w) :
    Calls Tryd.prog 40 #[.pointer none] w fun e w' => e = .returned (.string (bstr Sw.new.digest)) ∧ Below w.heap.size w w' := by
  go_enter Tryd.func40, Tryd.ntmps40
  go_wp2_with fail
  refine (new_sum _).mono ?_
  rintro e w0 ⟨g, rfl, hg, hb0, hgw⟩
  have hg0 : g ≠ 0 := by have := hR0.1; omega
  have hR : RootsAt w0 := hR0.below hb0 hR0.1
  obtain ⟨⟨h, r, n⟩, hd0⟩ : ∃ d, Sw.new = d := ⟨_, rfl⟩
  rw [hd0] at hg
  have hN : n < 288230376151711744 := by have := congrArg Sw.n hd0; simp [Sw.new] at this; omega
  have hr : r.length < 64 := by have := congrArg Sw.rest hd0; simp [Sw.new] at this; subst this; simp
  have HD0 := Lib.hid hd0
  clear hd0
  have k8 := hg.cell 8
  simp [Sw.cells] at k8
  have hm : (119 - (r.length : Int)) % 64 = (((119 - r.length) % 64 : Nat) : Int) := by omega
  have hm0 : IntKind.i64.wrap (119 - (r.length : Int)) = 119 - (r.length : Int) := IntWalk.i64_in _ ⟨by omega, by omega⟩
  obtain ⟨m, hme⟩ : ∃ m, (119 - r.length) % 64 = m := ⟨_, rfl⟩
  have hmod : (119 - (r.length : Int)).tmod 64 = m := by rw [Int.tmod_eq_emod_of_nonneg (by omega), hm, hme]
  have hml : m < 64 := by omega
  have HM := Lib.hid hme
  clear hme hm
  go_wp2_with fail
  refine (Tryd.strings_Repeat ⟨#[0]⟩ m w0 (by omega) (by show 1 * m ≤ _; omega)).mono ?_
  rintro e w1 ⟨rfl, hb1⟩
  rw [zeros_rep]
  have h80 := str80 (List.replicate m 0)
  have hms : ¬ 9223372036854775807 < 1 + m := by omega
  go_wp2_with fail
  go_loopw [3, 4] (fun t i wr => ∃ k : Nat, ∃ z : Int, k ≤ 8 ∧ z = 56 - 8 * k ∧ i = .int .i64 z ∧ t = .string (bstr (128 :: (List.replicate m 0 ++ lenB n k))) ∧ Below w0.heap.size w0 wr) (fun _ i _ => (intOf i + 8).toNat)
  case atStart => exact ⟨0, 56, by omega, by omega, rfl, by simp [lenB], hb1⟩
  case round =>
    obtain ⟨k, z, hk, hz, rfl, rfl, hb⟩ := hrel
    have hgr := hg.below hb hg.lt
    have k9 := hgr.cell 9
    simp [Sw.cells] at k9
    have hN1 : (0 : Int) ≤ n := by omega
    have w8 : IntKind.i64.wrap (8 * (n : Int)) = 8 * (n : Int) := IntWalk.i64_in _ ⟨by omega, by omega⟩
    obtain ⟨t, ht⟩ : ∃ t, 128 :: (List.replicate m 0 ++ lenB n k) = t := ⟨_, rfl⟩
    have htl : t.length ≤ 80 := by rw [← ht]; simp [lenB_len]; omega
    have hcat : ¬ 9223372036854775807 < t.length + 1 := by omega
    rw [ht]
    have HT := Lib.hid ht
    clear ht h80 hms hm0 hmod
    have : k = 0 ∨ k = 1 ∨ k = 2 ∨ k = 3 ∨ k = 4 ∨ k = 5 ∨ k = 6 ∨ k = 7 ∨ k = 8 := by omega
    rcases this with rfl | rfl | rfl | rfl | rfl | rfl | rfl | rfl | rfl
    · obtain rfl : z = 56 := by omega
      clear hz
      have hcv := run_byte_one_new (P := Tryd.prog) wr Tryd.underlying84 Tryd.underlying5 Tryd.underlying9 (8 * (n : Int) / 72057594037927936) (UInt8.ofNat (8 * n / 72057594037927936 % 256)) (by simp <;> omega)
      have hto : t ++ [UInt8.ofNat (8 * n / 72057594037927936 % 256)] = 128 :: (List.replicate m 0 ++ lenB n 1) := by rw [← HT.out]; simp [lenB]
      have HTO := Lib.hid hto
      clear hto
      go_wp2
      go_round
      case rel => exact ⟨1, 48, by omega, by omega, rfl, by rw [← HTO.out], hb.alloc hb.size _⟩
      case measure => simp [intOf]
    · obtain rfl : z = 48 := by omega
      clear hz
      have hcv := run_byte_one_new (P := Tryd.prog) wr Tryd.underlying84 Tryd.underlying5 Tryd.underlying9 (8 * (n : Int) / 281474976710656 % 256) (UInt8.ofNat (8 * n / 281474976710656 % 256)) (by simp <;> omega)
      have hto : t ++ [UInt8.ofNat (8 * n / 281474976710656 % 256)] = 128 :: (List.replicate m 0 ++ lenB n 2) := by rw [← HT.out]; simp [lenB]
      have HTO := Lib.hid hto
      clear hto
      go_wp2
      go_round
      case rel => exact ⟨2, 40, by omega, by omega, rfl, by rw [← HTO.out], hb.alloc hb.size _⟩
      case measure => simp [intOf]
    · obtain rfl : z = 40 := by omega
      clear hz
      have hcv := run_byte_one_new (P := Tryd.prog) wr Tryd.underlying84 Tryd.underlying5 Tryd.underlying9 (8 * (n : Int) / 1099511627776 % 256) (UInt8.ofNat (8 * n / 1099511627776 % 256)) (by simp <;> omega)
      have hto : t ++ [UInt8.ofNat (8 * n / 1099511627776 % 256)] = 128 :: (List.replicate m 0 ++ lenB n 3) := by rw [← HT.out]; simp [lenB]
      have HTO := Lib.hid hto
      clear hto
      go_wp2
      go_round
      case rel => exact ⟨3, 32, by omega, by omega, rfl, by rw [← HTO.out], hb.alloc hb.size _⟩
      case measure => simp [intOf]
    · obtain rfl : z = 32 := by omega
      clear hz
      have hcv := run_byte_one_new (P := Tryd.prog) wr Tryd.underlying84 Tryd.underlying5 Tryd.underlying9 (8 * (n : Int) / 4294967296 % 256) (UInt8.ofNat (8 * n / 4294967296 % 256)) (by simp <;> omega)
      have hto : t ++ [UInt8.ofNat (8 * n / 4294967296 % 256)] = 128 :: (List.replicate m 0 ++ lenB n 4) := by rw [← HT.out]; simp [lenB]
      have HTO := Lib.hid hto
      clear hto
      go_wp2
      go_round
      case rel => exact ⟨4, 24, by omega, by omega, rfl, by rw [← HTO.out], hb.alloc hb.size _⟩
      case measure => simp [intOf]
    · obtain rfl : z = 24 := by omega
      clear hz
      have hcv := run_byte_one_new (P := Tryd.prog) wr Tryd.underlying84 Tryd.underlying5 Tryd.underlying9 (8 * (n : Int) / 16777216 % 256) (UInt8.ofNat (8 * n / 16777216 % 256)) (by simp <;> omega)
      have hto : t ++ [UInt8.ofNat (8 * n / 16777216 % 256)] = 128 :: (List.replicate m 0 ++ lenB n 5) := by rw [← HT.out]; simp [lenB]
      have HTO := Lib.hid hto
      clear hto
      go_wp2
      go_round
      case rel => exact ⟨5, 16, by omega, by omega, rfl, by rw [← HTO.out], hb.alloc hb.size _⟩
      case measure => simp [intOf]
    · obtain rfl : z = 16 := by omega
      clear hz
      have hcv := run_byte_one_new (P := Tryd.prog) wr Tryd.underlying84 Tryd.underlying5 Tryd.underlying9 (8 * (n : Int) / 65536 % 256) (UInt8.ofNat (8 * n / 65536 % 256)) (by simp <;> omega)
      have hto : t ++ [UInt8.ofNat (8 * n / 65536 % 256)] = 128 :: (List.replicate m 0 ++ lenB n 6) := by rw [← HT.out]; simp [lenB]
      have HTO := Lib.hid hto
      clear hto
      go_wp2
      go_round
      case rel => exact ⟨6, 8, by omega, by omega, rfl, by rw [← HTO.out], hb.alloc hb.size _⟩
      case measure => simp [intOf]
    · obtain rfl : z = 8 := by omega
      clear hz
      have hcv := run_byte_one_new (P := Tryd.prog) wr Tryd.underlying84 Tryd.underlying5 Tryd.underlying9 (8 * (n : Int) / 256 % 256) (UInt8.ofNat (8 * n / 256 % 256)) (by simp <;> omega)
      have hto : t ++ [UInt8.ofNat (8 * n / 256 % 256)] = 128 :: (List.replicate m 0 ++ lenB n 7) := by rw [← HT.out]; simp [lenB]
      have HTO := Lib.hid hto
      clear hto
      go_wp2
      go_round
      case rel => exact ⟨7, 0, by omega, by omega, rfl, by rw [← HTO.out], hb.alloc hb.size _⟩
      case measure => simp [intOf]
    · obtain rfl : z = 0 := by omega
      clear hz
      have hcv := run_byte_one_new (P := Tryd.prog) wr Tryd.underlying84 Tryd.underlying5 Tryd.underlying9 (8 * (n : Int) % 256) (UInt8.ofNat (8 * n % 256)) (by simp <;> omega)
      have hto : t ++ [UInt8.ofNat (8 * n % 256)] = 128 :: (List.replicate m 0 ++ lenB n 8) := by rw [← HT.out]; simp [lenB]
      have HTO := Lib.hid hto
      clear hto
      go_wp2
      go_round
      case rel => exact ⟨8, -8, by omega, by omega, rfl, by rw [← HTO.out], hb.alloc hb.size _⟩
      case measure => simp [intOf]
    · obtain rfl : z = -8 := by omega
      clear hz
      have htl8 : t = Sw.tail ⟨h, r, n⟩ := by rw [← HT.out, Sw.tail, HM.out]
      obtain ⟨V, hV⟩ : ∃ V, wr.heap.size = V := ⟨_, rfl⟩
      have hVw : w0.heap.size ≤ V := by rw [← hV]; exact hb.size
      obtain ⟨w3, hw3⟩ : ∃ y, (wr.alloc (.cells (Sw.cells ⟨⟨0, 0, 0, 0, 0, 0, 0, 0⟩, [], 0⟩) 95)).setRow V (Sw.cells ⟨h, r, n⟩) = y := ⟨_, rfl⟩
      have hb3 : Below w0.heap.size w0 w3 := by rw [← hw3]; exact below_setRow (hb.alloc hb.size _) hVw _
      have hg3 : Blk w3 V 95 (Sw.cells ⟨h, r, n⟩) := by rw [← hw3]; exact setRow_heap _ _ _ _ _ _ (blk_at hV)
      have HW3 := Lib.hid hw3
      have HT8 := Lib.hid htl8
      have hold : Blk (wr.alloc (.cells (Sw.cells ⟨⟨0, 0, 0, 0, 0, 0, 0, 0⟩, [], 0⟩) 95)) V 95 (Sw.cells ⟨⟨0, 0, 0, 0, 0, 0, 0, 0⟩, [], 0⟩) := blk_at hV
      clear hw3 htl8 k8 k9 hcat
      go_upto_region 9 with (first | (refine wpList_load_row rfl 95 _ rfl g rfl 95 (Sw.cells ⟨h, r, n⟩) (0, 0) _ hgr Tryd.underlying95 rfl rfl ?_) | (refine wpList_store_row rfl 95 _ _ rfl V (Sw.cells ⟨h, r, n⟩) rfl rfl 95 _ hold rfl rfl (sw_one _) ?_))
      have hw3' := HW3.out
      rw [sw_zero] at hw3'
      rw [hw3']
      clear hw3' hold
      have hR3 : RootsAt w3 := hR.below hb3 hR.1
      have hV0 : V ≠ 0 := by have := hR.1; omega
      go_wp2_with fail
      refine (write_sum V ⟨h, r, n⟩ t w3 hR3 hg3 hV0 (by simp; omega) (by simp; omega)).mono ?_
      rintro e w4 ⟨rfl, hg4, hk4⟩
      have hb4 : Below w0.heap.size w0 w4 := hb3.trans (hk4.mono (S' := fun _ => False) hb3.size (fun k h1 h2 => by omega)).below
      have hdg : (Sw.digest ⟨h, r, n⟩) = ((Sw.write ⟨h, r, n⟩ t).h).bytes := by rw [HT8.out]; rfl
      obtain ⟨⟨y, r', n'⟩, hd⟩ : ∃ d, Sw.write ⟨h, r, n⟩ t = d := ⟨_, rfl⟩
      rw [hd] at hg4 hdg
      have HDG := Lib.hid hdg
      clear hd hdg hR3 hV0 hg3 hb3 HT8 HW3 HT htl
      obtain ⟨B, hB⟩ : ∃ B, w4.heap.size = B := ⟨_, rfl⟩
      have hbl : BlAt B (w4.alloc (.cells #[.pointer none, .slice none 0 0] 100)) B [] := by rw [← hB]; exact BlAt.new w4
      have hb5 : Below w0.heap.size w0 (w4.alloc (.cells #[.pointer none, .slice none 0 0] 100)) := hb4.alloc hb4.size _
      have hBs : B < (w4.alloc (.cells #[.pointer none, .slice none 0 0] 100)).heap.size := by simp; omega
      have hwB : w0.heap.size ≤ B := by rw [← hB]; exact hb4.size
      have hg5 := hg4.alloc (.cells #[.pointer none, .slice none 0 0] 100)
      have c0 := hg5.cell 0
      have c1 := hg5.cell 1
      have c2 := hg5.cell 2
      have c3 := hg5.cell 3
      have c4 := hg5.cell 4
      have c5 := hg5.cell 5
      have c6 := hg5.cell 6
      have c7 := hg5.cell 7
      simp [Sw.cells] at c0 c1 c2 c3 c4 c5 c6 c7
      clear hg5
      go_wp2_with fail
      obtain ⟨w6, hw6⟩ : ∃ z, w4.alloc (.cells #[.pointer none, .slice none 0 0] 100) = z := ⟨_, rfl⟩
      rw [hw6] at hbl hb5 hBs c0 c1 c2 c3 c4 c5 c6 c7 ⊢
      clear hw6 c0 c1 c2 c3 c4 c5 c6 c7 hg4 hk4 hb4 hgr hb hB
      go_loopw [44] (fun i wv => ∃ j : Nat, j ≤ 8 ∧ i = .int .i64 j ∧ BlAt B wv B ((y.l.take j).flatMap wordB) ∧ Below w0.heap.size w0 wv ∧ B < wv.heap.size) (fun i _ => 8 - (intOf i).toNat)
      case atStart => exact ⟨0, by omega, rfl, hbl, hb5, hBs⟩
      case round =>
        clear hbl hb5 hBs
        obtain ⟨j, hj, rfl, hbl, hbv, hBv⟩ := hrel
        have : j = 0 ∨ j = 1 ∨ j = 2 ∨ j = 3 ∨ j = 4 ∨ j = 5 ∨ j = 6 ∨ j = 7 ∨ j = 8 := by omega
        rcases this with rfl | rfl | rfl | rfl | rfl | rfl | rfl | rfl | rfl
        · have hix := idx8_0 y wr
          have z0 := u_lo y.a
          have z1 := u_hi y.a
          have hwc := Lib.hid (word_cells y.a)
          go_wp2_with fail
          rw [hwc.out]
          refine (bwrite_any B B wr.heap.size 4 _ (wordB y.a) (Nat.zero_lt_succ 3) _ (hbl.below ((Below.refl _ _).alloc (Nat.le_refl _) _)) (Blk.new wr _ _) (by omega) (by rw [flat_len]; simp [H8.l, wordB]) (by simp; omega)).mono ?_
          rintro e w7 ⟨rfl, hbl7, hb7⟩
          have hb8 : Below w0.heap.size w0 w7 := (hbv.alloc hbv.size _).trans ((Keep.of_below (S := fun _ => False) hb7).mono (S' := fun _ => False) hwB (fun _ _ h => h)).below
          have hl8 := hbl7.lt.2
          clear hix z0 z1 hwc
          go_wp2
          go_round
          case rel => exact ⟨1, by omega, by go_num, hbl7, hb8, hl8⟩
          case measure => simp [intOf]
        · have hix := idx8_1 y wr
          have z0 := u_lo y.b
          have z1 := u_hi y.b
          have hwc := Lib.hid (word_cells y.b)
          go_wp2_with fail
          rw [hwc.out]
          refine (bwrite_any B B wr.heap.size 4 _ (wordB y.b) (Nat.zero_lt_succ 3) _ (hbl.below ((Below.refl _ _).alloc (Nat.le_refl _) _)) (Blk.new wr _ _) (by omega) (by rw [flat_len]; simp [H8.l, wordB]) (by simp; omega)).mono ?_
          rintro e w7 ⟨rfl, hbl7, hb7⟩
          have hb8 : Below w0.heap.size w0 w7 := (hbv.alloc hbv.size _).trans ((Keep.of_below (S := fun _ => False) hb7).mono (S' := fun _ => False) hwB (fun _ _ h => h)).below
          have hl8 := hbl7.lt.2
          clear hix z0 z1 hwc
          go_wp2
          go_round
          case rel => exact ⟨2, by omega, by go_num, hbl7, hb8, hl8⟩
          case measure => simp [intOf]
        · have hix := idx8_2 y wr
          have z0 := u_lo y.c
          have z1 := u_hi y.c
          have hwc := Lib.hid (word_cells y.c)
          go_wp2_with fail
          rw [hwc.out]
          refine (bwrite_any B B wr.heap.size 4 _ (wordB y.c) (Nat.zero_lt_succ 3) _ (hbl.below ((Below.refl _ _).alloc (Nat.le_refl _) _)) (Blk.new wr _ _) (by omega) (by rw [flat_len]; simp [H8.l, wordB]) (by simp; omega)).mono ?_
          rintro e w7 ⟨rfl, hbl7, hb7⟩
          have hb8 : Below w0.heap.size w0 w7 := (hbv.alloc hbv.size _).trans ((Keep.of_below (S := fun _ => False) hb7).mono (S' := fun _ => False) hwB (fun _ _ h => h)).below
          have hl8 := hbl7.lt.2
          clear hix z0 z1 hwc
          go_wp2
          go_round
          case rel => exact ⟨3, by omega, by go_num, hbl7, hb8, hl8⟩
          case measure => simp [intOf]
        · have hix := idx8_3 y wr
          have z0 := u_lo y.d
          have z1 := u_hi y.d
          have hwc := Lib.hid (word_cells y.d)
          go_wp2_with fail
          rw [hwc.out]
          refine (bwrite_any B B wr.heap.size 4 _ (wordB y.d) (Nat.zero_lt_succ 3) _ (hbl.below ((Below.refl _ _).alloc (Nat.le_refl _) _)) (Blk.new wr _ _) (by omega) (by rw [flat_len]; simp [H8.l, wordB]) (by simp; omega)).mono ?_
          rintro e w7 ⟨rfl, hbl7, hb7⟩
          have hb8 : Below w0.heap.size w0 w7 := (hbv.alloc hbv.size _).trans ((Keep.of_below (S := fun _ => False) hb7).mono (S' := fun _ => False) hwB (fun _ _ h => h)).below
          have hl8 := hbl7.lt.2
          clear hix z0 z1 hwc
          go_wp2
          go_round
          case rel => exact ⟨4, by omega, by go_num, hbl7, hb8, hl8⟩
          case measure => simp [intOf]
        · have hix := idx8_4 y wr
          have z0 := u_lo y.e
          have z1 := u_hi y.e
          have hwc := Lib.hid (word_cells y.e)
          go_wp2_with fail
          rw [hwc.out]
          refine (bwrite_any B B wr.heap.size 4 _ (wordB y.e) (Nat.zero_lt_succ 3) _ (hbl.below ((Below.refl _ _).alloc (Nat.le_refl _) _)) (Blk.new wr _ _) (by omega) (by rw [flat_len]; simp [H8.l, wordB]) (by simp; omega)).mono ?_
          rintro e w7 ⟨rfl, hbl7, hb7⟩
          have hb8 : Below w0.heap.size w0 w7 := (hbv.alloc hbv.size _).trans ((Keep.of_below (S := fun _ => False) hb7).mono (S' := fun _ => False) hwB (fun _ _ h => h)).below
          have hl8 := hbl7.lt.2
          clear hix z0 z1 hwc
          go_wp2
          go_round
          case rel => exact ⟨5, by omega, by go_num, hbl7, hb8, hl8⟩
          case measure => simp [intOf]
        · have hix := idx8_5 y wr
          have z0 := u_lo y.f
          have z1 := u_hi y.f
          have hwc := Lib.hid (word_cells y.f)
          go_wp2_with fail
          rw [hwc.out]
          refine (bwrite_any B B wr.heap.size 4 _ (wordB y.f) (Nat.zero_lt_succ 3) _ (hbl.below ((Below.refl _ _).alloc (Nat.le_refl _) _)) (Blk.new wr _ _) (by omega) (by rw [flat_len]; simp [H8.l, wordB]) (by simp; omega)).mono ?_
          rintro e w7 ⟨rfl, hbl7, hb7⟩
          have hb8 : Below w0.heap.size w0 w7 := (hbv.alloc hbv.size _).trans ((Keep.of_below (S := fun _ => False) hb7).mono (S' := fun _ => False) hwB (fun _ _ h => h)).below
          have hl8 := hbl7.lt.2
          clear hix z0 z1 hwc
          go_wp2
          go_round
          case rel => exact ⟨6, by omega, by go_num, hbl7, hb8, hl8⟩
          case measure => simp [intOf]
        · have hix := idx8_6 y wr
          have z0 := u_lo y.g
          have z1 := u_hi y.g
          have hwc := Lib.hid (word_cells y.g)
          go_wp2_with fail
          rw [hwc.out]
          refine (bwrite_any B B wr.heap.size 4 _ (wordB y.g) (Nat.zero_lt_succ 3) _ (hbl.below ((Below.refl _ _).alloc (Nat.le_refl _) _)) (Blk.new wr _ _) (by omega) (by rw [flat_len]; simp [H8.l, wordB]) (by simp; omega)).mono ?_
          rintro e w7 ⟨rfl, hbl7, hb7⟩
          have hb8 : Below w0.heap.size w0 w7 := (hbv.alloc hbv.size _).trans ((Keep.of_below (S := fun _ => False) hb7).mono (S' := fun _ => False) hwB (fun _ _ h => h)).below
          have hl8 := hbl7.lt.2
          clear hix z0 z1 hwc
          go_wp2
          go_round
          case rel => exact ⟨7, by omega, by go_num, hbl7, hb8, hl8⟩
          case measure => simp [intOf]
        · have hix := idx8_7 y wr
          have z0 := u_lo y.h
          have z1 := u_hi y.h
          have hwc := Lib.hid (word_cells y.h)
          go_wp2_with fail
          rw [hwc.out]
          refine (bwrite_any B B wr.heap.size 4 _ (wordB y.h) (Nat.zero_lt_succ 3) _ (hbl.below ((Below.refl _ _).alloc (Nat.le_refl _) _)) (Blk.new wr _ _) (by omega) (by rw [flat_len]; simp [H8.l, wordB]) (by simp; omega)).mono ?_
          rintro e w7 ⟨rfl, hbl7, hb7⟩
          have hb8 : Below w0.heap.size w0 w7 := (hbv.alloc hbv.size _).trans ((Keep.of_below (S := fun _ => False) hb7).mono (S' := fun _ => False) hwB (fun _ _ h => h)).below
          have hl8 := hbl7.lt.2
          clear hix z0 z1 hwc
          go_wp2
          go_round
          case rel => exact ⟨8, by omega, by go_num, hbl7, hb8, hl8⟩
          case measure => simp [intOf]
        · go_wp2_with fail
          refine (bstring_any B B _ wr hbl (by omega)).mono ?_
          rintro e w7 ⟨rfl, hb7⟩
          have hb8 : Below w0.heap.size w0 w7 := hbv.trans ((Keep.of_below (S := fun _ => False) hb7).mono (S' := fun _ => False) hwB (fun _ _ h => h)).below
          go_wp2
          go_ret
          refine ⟨?_, hb0.trans ((Keep.of_below (S := fun _ => False) hb8).mono (S' := fun _ => False) hb0.size (fun _ _ h => h)).below⟩
          rw [HD0.out, HDG.out]
          rfl


theorem write_rest (d : Sw) (s : List UInt8) : (d.write s).rest.length < 64 := by
  simp only [Sw.write, List.length_drop]
  omega
theorem write_n (d : Sw) (s : List UInt8) : (d.write s).n = d.n + s.length := rfl

set_option maxHeartbeats 1000000 in
theorem write_nil (s : List UInt8) (w : World) : Calls Tryd.prog 39 #[.pointer none, .string (bstr s)] w fun e w' => e = .returned (.tuple #[]) ∧ w' = w := by
  go_enter Tryd.func39, Tryd.ntmps39
  go_wp2
  exact bodyPost_ret (v := .tuple #[]) (by simp [results, Tryd.results39, go_sem]) rfl ⟨rfl, rfl⟩

set_option maxRecDepth 100000 in
set_option maxHeartbeats 1000000 in
theorem of_any (s : List UInt8) (hs : s.length < 288230376151711744) (w : World) (hR : RootsAt w) :
    Calls Tryd.prog 22 #[.string (bstr s)] w fun e w' => e = .returned (.string (bstr (shaL s))) ∧ Below w.heap.size w w' := by
  go_enter Tryd.func22, Tryd.ntmps22
  go_wp2_with fail
  refine (new_sum _).mono ?_
  rintro e w1 ⟨g, rfl, hg, hb1, hgw⟩
  have hg0 : g ≠ 0 := by have := hR.1; omega
  go_wp2_with fail
  refine (write_sum g Sw.new s w1 (hR.below hb1 hR.1) hg hg0 (by show 0 + s.length < _; omega) (by show 0 ≤ 64; omega)).mono ?_
  rintro e w2 ⟨rfl, hg2, hk2⟩
  have hb2 : Below w.heap.size w w2 := hb1.trans (hk2.mono (S' := fun _ => False) hb1.size (fun k h1 h2 => by omega)).below
  go_wp2_with fail
  refine (sum_sum g _ w2 (hR.below hb2 hR.1) hg2 hg0 (by rw [write_n]; show 0 + s.length < _; omega) (write_rest _ _)).mono ?_
  rintro e w3 ⟨rfl, hb3⟩
  have hb4 : Below w.heap.size w w3 := hb2.trans ((Keep.of_below (S := fun _ => False) hb3).mono (S' := fun _ => False) hb2.size (fun _ _ h => h)).below
  go_wp2
  go_ret
  exact ⟨rfl, hb4⟩

end Go.Proofs.YtmdjbmhjnajpgaaDoor
