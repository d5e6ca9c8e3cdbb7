/- Package sum: behind: its contract. -/
import Derived.Test.YtcamcjcmhjldpaaDoorSm
import Derived.IntWalk
import Derived.Laws.CopyOwn
namespace Go.Proofs.YtcamcjcmhjldpaaDoor
open Go.RowKit
set_option maxRecDepth 100000
set_option linter.unusedSimpArgs false
set_option linter.unnecessarySimpa false
set_option linter.unusedVariables false

/-- the cells of words -/
def wcells (l : List (BitVec 32)) : Array Value := (l.map fun x => Value.int .u32 (u x)).toArray
def byteW (b : UInt8) : BitVec 32 := BitVec.ofNat 32 b.toNat
/-- a word out of the first n bytes from place k on -/
def joinW (s : List UInt8) (k : Nat) : Nat → BitVec 32
  | 0 => 0
  | n + 1 => (joinW s k n <<< 8) ||| byteW (s.getD (k + n) 0)
def nextW (l : List (BitVec 32)) (t : Nat) : BitVec 32 :=
  ((rotr (l.getD (t - 2) 0) 17 ^^^ rotr (l.getD (t - 2) 0) 19) ^^^ (l.getD (t - 2) 0 >>> 10)) + l.getD (t - 7) 0 + ((rotr (l.getD (t - 15) 0) 7 ^^^ rotr (l.getD (t - 15) 0) 18) ^^^ (l.getD (t - 15) 0 >>> 3)) + l.getD (t - 16) 0
def schedW (s : List UInt8) : Nat → List (BitVec 32)
  | 0 => []
  | t + 1 => schedW s t ++ [if t < 16 then joinW s (4 * t) 4 else nextW (schedW s t) t]
theorem schedW_len (s : List UInt8) : ∀ t, (schedW s t).length = t
  | 0 => rfl
  | t + 1 => by rw [schedW, List.length_append, schedW_len s t]; rfl
theorem wcells_get (l : List (BitVec 32)) (i : Nat) (h : i < l.length) : (wcells l)[i]? = some (.int .u32 (u l[i])) := by simp [wcells, h]
theorem wcells_set (l : List (BitVec 32)) (i : Nat) (x : BitVec 32) : (wcells l).setIfInBounds i (.int .u32 (u x)) = wcells (l.set i x) := by simp [wcells, List.map_set]
theorem u_byte (b : UInt8) : ((b.toNat : Nat) : Int) = u (byteW b) := by
  unfold u byteW
  rw [BitVec.toNat_ofNat, Nat.mod_eq_of_lt (by have := b.toNat_lt; omega)]

/-- what 'behind' has in memory: its words, its result's cells, the words of the schedule -/
structure BhSt (w : World) (G : Nat) (h cur : List (BitVec 32)) (wr : World) : Prop where
  hb : Blk wr G 102 (wcells h)
  hr : Blk wr (G + 1) 102 (wcells (List.replicate 8 0))
  hm : Blk wr (G + 1 + 1) 116 (wcells cur)
  k : Below w.heap.size w wr
  e : w.heap.size = G
section
variable {w wr : World} {G : Nat} {h cur : List (BitVec 32)}
theorem BhSt.drew (x : BhSt w G h cur wr) : BhSt w G h cur wr.drew := ⟨x.hb, x.hr, x.hm, x.k.drew, x.e⟩
theorem BhSt.drewN (x : BhSt w G h cur wr) (n : Nat) : BhSt w G h cur (wr.drewN n) := ⟨x.hb, x.hr, x.hm, x.k.dN n, x.e⟩
theorem BhSt.set (x : BhSt w G h cur wr) (i : Nat) (y : BitVec 32) : BhSt w G h (cur.set i y) (wr.setCell ⟨G + 1 + 1, i, none⟩ (.int .u32 (u y))) := by
  refine ⟨x.hb.far (p := ⟨G + 1 + 1, i, none⟩) (by simp; omega) _, x.hr.far (p := ⟨G + 1 + 1, i, none⟩) (by simp) _, ?_, below_at x.k (by have := x.e; omega) _ _, x.e⟩
  have := x.hm.set_ i (.int .u32 (u y))
  rwa [wcells_set] at this
end
theorem set_mid (a b : List (BitVec 32)) (x y : BitVec 32) : (a ++ x :: b).set a.length y = a ++ y :: b := by simp

/-- the table -/
def rootsW : List (BitVec 32) := [
  0x428a2f98, 0x71374491, 0xb5c0fbcf, 0xe9b5dba5, 0x3956c25b, 0x59f111f1, 0x923f82a4, 0xab1c5ed5,
  0xd807aa98, 0x12835b01, 0x243185be, 0x550c7dc3, 0x72be5d74, 0x80deb1fe, 0x9bdc06a7, 0xc19bf174,
  0xe49b69c1, 0xefbe4786, 0x0fc19dc6, 0x240ca1cc, 0x2de92c6f, 0x4a7484aa, 0x5cb0a9dc, 0x76f988da,
  0x983e5152, 0xa831c66d, 0xb00327c8, 0xbf597fc7, 0xc6e00bf3, 0xd5a79147, 0x06ca6351, 0x14292967,
  0x27b70a85, 0x2e1b2138, 0x4d2c6dfc, 0x53380d13, 0x650a7354, 0x766a0abb, 0x81c2c92e, 0x92722c85,
  0xa2bfe8a1, 0xa81a664b, 0xc24b8b70, 0xc76c51a3, 0xd192e819, 0xd6990624, 0xf40e3585, 0x106aa070,
  0x19a4c116, 0x1e376c08, 0x2748774c, 0x34b0bcb5, 0x391c0cb3, 0x4ed8aa4a, 0x5b9cca4f, 0x682e6ff3,
  0x748f82ee, 0x78a5636f, 0x84c87814, 0x8cc70208, 0x90befffa, 0xa4506ceb, 0xbef9a3f7, 0xc67178f2]
/-- eight words -/
structure H8 where
  a : BitVec 32
  b : BitVec 32
  c : BitVec 32
  d : BitVec 32
  e : BitVec 32
  f : BitVec 32
  g : BitVec 32
  h : BitVec 32
deriving DecidableEq
def H8.l (x : H8) : List (BitVec 32) := [x.a, x.b, x.c, x.d, x.e, x.f, x.g, x.h]
def H8.val (x : H8) : Value := .agg (wcells x.l)
def H8.t1 (v : H8) (k w : BitVec 32) : BitVec 32 := v.h + ((rotr v.e 6 ^^^ rotr v.e 11) ^^^ rotr v.e 25) + ((v.e &&& v.f) ^^^ (~~~ v.e &&& v.g)) + k + w
def H8.t2 (v : H8) : BitVec 32 := ((rotr v.a 2 ^^^ rotr v.a 13) ^^^ rotr v.a 22) + (((v.a &&& v.b) ^^^ (v.a &&& v.c)) ^^^ (v.b &&& v.c))
def H8.round (v : H8) (k w : BitVec 32) : H8 := ⟨v.t1 k w + v.t2, v.a, v.b, v.c, v.d + v.t1 k w, v.e, v.f, v.g⟩
def H8.rounds (v : H8) (m : List (BitVec 32)) : Nat → H8
  | 0 => v
  | t + 1 => (v.rounds m t).round (rootsW.getD t 0) (m.getD t 0)
def H8.add (x y : H8) : H8 := ⟨x.a + y.a, x.b + y.b, x.c + y.c, x.d + y.d, x.e + y.e, x.f + y.f, x.g + y.g, x.h + y.h⟩
def H8.behind (x : H8) (s : List UInt8) : H8 := x.add (x.rounds (schedW s 64) 64)
/-- the table in memory -/
def RootsAt (w : World) : Prop := 0 < w.heap.size ∧ ∀ i < 64, w.cell? ⟨0, i, none⟩ = some (.int .u32 (u (rootsW.getD i 0)))
theorem RootsAt.below {w w' : World} {B : Nat} (h : RootsAt w) (k : Below B w w') (hB : 0 < B) : RootsAt w' :=
  ⟨Nat.lt_of_lt_of_le h.1 k.size, fun i hi => by rw [← h.2 i hi]; exact World.cell?_of_block (w := w) (k.block 0 hB)⟩
/-- what stands behind the schedule -/
structure BvSt (w : World) (G V : Nat) (h m v : List (BitVec 32)) (wr : World) : Prop where
  hb : Blk wr G 102 (wcells h)
  hr : Blk wr (G + 1) 102 (wcells (List.replicate 8 0))
  hm : Blk wr (G + 1 + 1) 116 (wcells m)
  hv : Blk wr V 102 (wcells v)
  k : Below w.heap.size w wr
  e : w.heap.size = G
  lt : G + 1 + 1 < V
section
variable {w wr : World} {G V : Nat} {h m v : List (BitVec 32)}
theorem BvSt.drew (x : BvSt w G V h m v wr) : BvSt w G V h m v wr.drew := ⟨x.hb, x.hr, x.hm, x.hv, x.k.drew, x.e, x.lt⟩
theorem BvSt.drewN (x : BvSt w G V h m v wr) (n : Nat) : BvSt w G V h m v (wr.drewN n) := ⟨x.hb, x.hr, x.hm, x.hv, x.k.dN n, x.e, x.lt⟩
end

theorem right_q (x : BitVec 32) (k : Nat) (hk : k ≤ 32) (w : World) (n : Nat) :
    Calls Tryd.prog 73 #[.int .u32 (u x), .int .i64 k] (w.drewN n) fun e w'' => e = .returned (.int .u32 (u (rotr x k))) ∧ ∃ m, w'' = w.drewN m :=
  (right_any x k hk _).mono fun _ _ ⟨he, m, hm⟩ => ⟨he, n + m, by rw [hm, World.drewN_drewN]⟩
theorem right_q2 (x : BitVec 32) (w : World) (n : Nat) :
    Calls Tryd.prog 73 #[.int .u32 (u x), .int .i64 2] (w.drewN n) fun e w'' => e = .returned (.int .u32 (u (rotr x 2))) ∧ ∃ m, w'' = w.drewN m := right_q x 2 (by decide) w n
theorem right_q6 (x : BitVec 32) (w : World) (n : Nat) :
    Calls Tryd.prog 73 #[.int .u32 (u x), .int .i64 6] (w.drewN n) fun e w'' => e = .returned (.int .u32 (u (rotr x 6))) ∧ ∃ m, w'' = w.drewN m := right_q x 6 (by decide) w n
theorem right_q11 (x : BitVec 32) (w : World) (n : Nat) :
    Calls Tryd.prog 73 #[.int .u32 (u x), .int .i64 11] (w.drewN n) fun e w'' => e = .returned (.int .u32 (u (rotr x 11))) ∧ ∃ m, w'' = w.drewN m := right_q x 11 (by decide) w n
theorem right_q13 (x : BitVec 32) (w : World) (n : Nat) :
    Calls Tryd.prog 73 #[.int .u32 (u x), .int .i64 13] (w.drewN n) fun e w'' => e = .returned (.int .u32 (u (rotr x 13))) ∧ ∃ m, w'' = w.drewN m := right_q x 13 (by decide) w n
theorem right_q22 (x : BitVec 32) (w : World) (n : Nat) :
    Calls Tryd.prog 73 #[.int .u32 (u x), .int .i64 22] (w.drewN n) fun e w'' => e = .returned (.int .u32 (u (rotr x 22))) ∧ ∃ m, w'' = w.drewN m := right_q x 22 (by decide) w n
theorem right_q25 (x : BitVec 32) (w : World) (n : Nat) :
    Calls Tryd.prog 73 #[.int .u32 (u x), .int .i64 25] (w.drewN n) fun e w'' => e = .returned (.int .u32 (u (rotr x 25))) ∧ ∃ m, w'' = w.drewN m := right_q x 25 (by decide) w n
theorem u_not (x : BitVec 32) : bits .xor .u32 4294967295 (u x) = u (~~~ x) := by
  have h := u_xor (BitVec.allOnes 32) x
  rw [show u (BitVec.allOnes 32) = 4294967295 from rfl, ← BitVec.not_def] at h
  exact h
theorem u_not' (x : BitVec 32) : bits .xor .u32 (if IntKind.u32.signed = true then -1 else IntKind.u32.max) (u x) = u (~~~ x) := u_not x
def addTo (x v : H8) (j : Nat) : List (BitVec 32) := (List.range 8).map fun i => if i < j then x.l.getD i 0 + v.l.getD i 0 else x.l.getD i 0
theorem addTo_len (x v : H8) (j : Nat) : (addTo x v j).length = 8 := by simp [addTo]
theorem addTo_get (x v : H8) (j : Nat) (h : j < 8) : (wcells (addTo x v j))[j]? = some (.int .u32 (u (x.l.getD j 0))) := by
  rw [wcells_get _ _ (by rw [addTo_len]; exact h)]
  simp [addTo]
theorem addTo_set (x v : H8) (j : Nat) (h : j < 8) : (addTo x v j).set j (x.l.getD j 0 + v.l.getD j 0) = addTo x v (j + 1) := by
  have : j = 0 ∨ j = 1 ∨ j = 2 ∨ j = 3 ∨ j = 4 ∨ j = 5 ∨ j = 6 ∨ j = 7 := by omega
  rcases this with rfl | rfl | rfl | rfl | rfl | rfl | rfl | rfl <;> rfl
theorem l_get (v : H8) (j : Nat) (h : j < 8) : (wcells v.l)[j]? = some (.int .u32 (u (v.l.getD j 0))) := by
  have hl : j < v.l.length := h
  rw [wcells_get _ _ hl]
  simp [List.getD, hl]
theorem result_cell {P : Program} {w : World} {fn : Func} {p : Tmp} {ty : TypeId} {tmps : Array Value} {q : Addr} {v : Value} (h : fn.results = #[.cell p ty]) (hp : tmps.getD p undef = .pointer (some q)) (hl : (loadVar ty q).run P w = .ok v w) :
    (results fn tmps).run P w = .ok v w := by
  simp only [results, h]
  rw [Array.getD_eq_getD_getElem?] at hp
  simp [Sem.run_bind, Result.andThen, asAddr, hp, hl]
theorem words_size (x : H8) : (Tryd.prog.info? 102).map (·.size) = some (wcells x.l).size := rfl
theorem words_one (x : H8) : (wcells x.l).all (·.oneCell') = true := by simp [wcells, H8.l, Value.oneCell']
section
variable {w wr : World} {G V : Nat} {h m v : List (BitVec 32)}
theorem BvSt.row (x : BvSt w G V h m v wr) (v' : List (BitVec 32)) : BvSt w G V h m v' (wr.setRow V (wcells v')) := by
  have hv := x.hv
  have hlt := x.lt
  refine ⟨(setRow_other wr V G _ (by omega)).trans x.hb, (setRow_other wr V (G + 1) _ (by omega)).trans x.hr, (setRow_other wr V (G + 1 + 1) _ (by omega)).trans x.hm, setRow_heap wr V _ _ _ _ hv, below_setRow x.k (by have := x.e; omega) _, x.e, x.lt⟩
theorem BvSt.setH (x : BvSt w G V h m v wr) (i : Nat) (y : BitVec 32) : BvSt w G V (h.set i y) m v (wr.setCell ⟨G, i, none⟩ (.int .u32 (u y))) := by
  have hlt := x.lt
  refine ⟨?_, x.hr.far (p := ⟨G, i, none⟩) (by simp) _, x.hm.far (p := ⟨G, i, none⟩) (by simp; omega) _, x.hv.far (p := ⟨G, i, none⟩) (by simp; omega) _, below_at x.k (by have := x.e; omega) _ _, x.e, x.lt⟩
  have := x.hb.set_ i (.int .u32 (u y))
  rwa [wcells_set] at this
theorem BvSt.cells {y : H8} (x : BvSt w G V h m y.l wr) : wr.cell? ⟨V, 0, none⟩ = some (.int .u32 (u y.a)) ∧ wr.cell? ⟨V, 1, none⟩ = some (.int .u32 (u y.b)) ∧ wr.cell? ⟨V, 2, none⟩ = some (.int .u32 (u y.c)) ∧ wr.cell? ⟨V, 3, none⟩ = some (.int .u32 (u y.d)) ∧
    wr.cell? ⟨V, 4, none⟩ = some (.int .u32 (u y.e)) ∧ wr.cell? ⟨V, 5, none⟩ = some (.int .u32 (u y.f)) ∧ wr.cell? ⟨V, 6, none⟩ = some (.int .u32 (u y.g)) ∧ wr.cell? ⟨V, 7, none⟩ = some (.int .u32 (u y.h)) :=
  ⟨x.hv.cell 0, x.hv.cell 1, x.hv.cell 2, x.hv.cell 3, x.hv.cell 4, x.hv.cell 5, x.hv.cell 6, x.hv.cell 7⟩
end

set_option maxRecDepth 100000 in
set_option maxHeartbeats 4000000 in
theorem behind_any (s : List UInt8) (hs : s.length = 64) (x : H8) (w : World) (hR : RootsAt w) :
    Calls Tryd.prog 67 #[x.val, .string (bstr s)] w fun e w' => e = .returned (x.behind s).val ∧ Below w.heap.size w w' := by
  have hxe : x.val = .agg #[.int .u32 (u x.a), .int .u32 (u x.b), .int .u32 (u x.c), .int .u32 (u x.d), .int .u32 (u x.e), .int .u32 (u x.f), .int .u32 (u x.g), .int .u32 (u x.h)] := rfl
  rw [hxe]
  go_enter Tryd.func67, Tryd.ntmps67
  go_wp2_with fail
  obtain ⟨G, hG⟩ : ∃ g, w.heap.size = g := ⟨_, rfl⟩
  obtain ⟨h, hh⟩ : ∃ h, x.l = h := ⟨_, rfl⟩
  obtain ⟨w0, hw0⟩ : ∃ y, ((w.alloc (.cells (wcells x.l) 102)).alloc (.cells (wcells (List.replicate 8 0)) 102)).alloc (.cells (wcells (List.replicate 64 0)) 116) = y := ⟨_, rfl⟩
  have st0 : BhSt w G h (List.replicate 64 0) w0 := by
    rw [← hw0, ← hh]
    refine ⟨?_, ?_, blk_at (by simp; omega), (((Below.refl _ _).alloc (Nat.le_refl _) _).alloc (by simp) _).alloc (by simp; omega) _, hG⟩
    · exact ((blk_at hG).alloc _).alloc _
    · exact (blk_at (by simp; omega)).alloc _
  go_loopw [19] (fun i wr => ∃ t : Nat, t ≤ 64 ∧ i = .int .i64 t ∧ BhSt w G h (schedW s t ++ List.replicate (64 - t) 0) wr) (fun i _ => 64 - (intOf i).toNat)
  case atStart =>
    refine ⟨0, by omega, rfl, ?_⟩
    rw [← hw0] at st0
    exact st0
  case round =>
    obtain ⟨t, ht, rfl, st⟩ := hrel
    rw [hG]
    by_cases hlt : t < 64
    · by_cases h16 : t < 16
      · have q1 : decide ((t : Int) < 64) = true := decide_eq_true (by omega)
        have q2 : decide ((t : Int) < 16) = true := decide_eq_true (by omega)
        obtain ⟨wo, rfl⟩ : ∃ wo : World, wo = wr := ⟨_, rfl⟩
        go_wp2_with fail
        go_loopw [24] (fun i wr => ∃ j : Nat, j ≤ 4 ∧ i = .int .i64 j ∧ BhSt w G h (schedW s t ++ joinW s (4 * t) j :: List.replicate (63 - t) 0) wr) (fun i _ => 4 - (intOf i).toNat)
        case atStart => exact ⟨0, by omega, rfl, by
          rw [show 64 - t = (63 - t) + 1 by omega, List.replicate_succ] at st
          exact st⟩
        case round =>
          obtain ⟨j, hj, rfl, st⟩ := hrel
          by_cases hlt2 : j < 4
          · have q3 : decide ((j : Int) < 4) = true := decide_eq_true (by omega)
            have hget : (wcells (schedW s t ++ joinW s (4 * t) j :: List.replicate (63 - t) 0))[t]? = some (.int .u32 (u (joinW s (4 * t) j))) := by
              rw [wcells_get _ _ (by simp [schedW_len])]
              simp [schedW_len]
            have c0 := st.hm.cell t
            rw [hget] at c0
            have f0 := st.hm.frozen t
            have hb : 4 * t + j < s.length := by omega
            have gb : s.getD (4 * t + j) 0 = s[4 * t + j] := by simp [hb]
            have e1 := u_shlw (joinW s (4 * t) j) 8
            have e2 := u_byte (s[4 * t + j])
            have e3 := u_or (joinW s (4 * t) j <<< 8) (byteW s[4 * t + j])
            have e4 := u_mod (byteW s[4 * t + j])
            simp only [Int.reducePow] at e1
            have hT0 : (0 : Int) ≤ t := by omega
            have hT1 : (t : Int) < 64 := by omega
            have hJ0 : (0 : Int) ≤ 4 * (t : Int) + j := by omega
            have hJ1 : 4 * (t : Int) + j < 64 := by omega
            have w1 : IntKind.i64.wrap (4 * (t : Int)) = 4 * (t : Int) := IntWalk.i64_in _ ⟨by omega, by omega⟩
            have w2 : IntKind.i64.wrap (4 * (t : Int) + j) = 4 * (t : Int) + j := IntWalk.i64_in _ ⟨by omega, by omega⟩
            have hJ2 : (4 * (t : Int) + j).toNat = 4 * t + j := by omega
            have hset := (st.set t (joinW s (4 * t) (j + 1))).drew
            have hsm := set_mid (schedW s t) (List.replicate (63 - t) 0) (joinW s (4 * t) j) (joinW s (4 * t) (j + 1))
            rw [schedW_len] at hsm
            rw [hsm] at hset
            have hjn : joinW s (4 * t) (j + 1) = (joinW s (4 * t) j <<< 8) ||| byteW s[4 * t + j] := by rw [joinW, gb]
            rw [hjn] at hset
            have HSET := Lib.hid hset
            have HJN := Lib.hid hjn
            clear hset hsm hjn hget gb st
            go_wp2_with fail
            go_region_law (fail)
            all_goals
              go_wp2
              go_round
              case rel => exact ⟨j + 1, by omega, by go_num, by rw [HJN.out]; first | exact HSET.out | (rw [e3]; exact HSET.out)⟩
              case measure => simp [intOf]; omega
          · obtain rfl : j = 4 := by omega
            have hsc : schedW s (t + 1) = schedW s t ++ [joinW s (4 * t) 4] := by rw [schedW, if_pos h16]
            have st' : BhSt w G h (schedW s (t + 1) ++ List.replicate (64 - (t + 1)) 0) wr := by
              rw [hsc, List.append_assoc, show 64 - (t + 1) = 63 - t by omega]
              exact st
            have ST := Lib.hid st'
            clear st st' hsc
            go_wp2
            go_round
            case rel => exact ⟨t + 1, by omega, by go_num, ST.out⟩
            case measure => simp [intOf]; omega
      · have q1 : decide ((t : Int) < 64) = true := decide_eq_true (by omega)
        have q2 : decide ((t : Int) < 16) = false := decide_eq_false (by omega)
        have hsc : schedW s (t + 1) = schedW s t ++ [nextW (schedW s t) t] := by rw [schedW, if_neg h16]
        have hlen := schedW_len s t
        have get : ∀ m, m < t → (wcells (schedW s t ++ List.replicate (64 - t) 0))[m]? = some (.int .u32 (u ((schedW s t).getD m 0))) := by
          intro m hm
          rw [wcells_get _ _ (by simp [schedW_len]; omega)]
          simp [hlen, hm]
        obtain ⟨p2, hp2⟩ : ∃ x, (schedW s t).getD (t - 2) 0 = x := ⟨_, rfl⟩
        obtain ⟨p7, hp7⟩ : ∃ x, (schedW s t).getD (t - 7) 0 = x := ⟨_, rfl⟩
        obtain ⟨p15, hp15⟩ : ∃ x, (schedW s t).getD (t - 15) 0 = x := ⟨_, rfl⟩
        obtain ⟨p16, hp16⟩ : ∃ x, (schedW s t).getD (t - 16) 0 = x := ⟨_, rfl⟩
        have c2 := st.hm.cell (t - 2)
        have c15 := st.hm.cell (t - 15)
        rw [get _ (by omega), hp2] at c2
        rw [get _ (by omega), hp15] at c15
        have gt : (wcells (schedW s t ++ List.replicate (64 - t) 0))[t]? = some (.int .u32 (u 0)) := by
          rw [wcells_get _ _ (by simp [schedW_len]; omega)]
          simp [hlen]
        have hnx : nextW (schedW s t) t = ((rotr p2 17 ^^^ rotr p2 19) ^^^ (p2 >>> 10)) + p7 + ((rotr p15 7 ^^^ rotr p15 18) ^^^ (p15 >>> 3)) + p16 := by
          unfold nextW
          rw [hp2, hp7, hp15, hp16]
        have hT0 : (0 : Int) ≤ t := by omega
        have hT1 : (t : Int) < 64 := by omega
        have w2 : IntKind.i64.wrap ((t : Int) - 2) = (t : Int) - 2 := IntWalk.i64_in _ ⟨by omega, by omega⟩
        have w7 : IntKind.i64.wrap ((t : Int) - 7) = (t : Int) - 7 := IntWalk.i64_in _ ⟨by omega, by omega⟩
        have w15 : IntKind.i64.wrap ((t : Int) - 15) = (t : Int) - 15 := IntWalk.i64_in _ ⟨by omega, by omega⟩
        have w16 : IntKind.i64.wrap ((t : Int) - 16) = (t : Int) - 16 := IntWalk.i64_in _ ⟨by omega, by omega⟩
        have a2 : (0 : Int) ≤ (t : Int) - 2 := by omega
        have a7 : (0 : Int) ≤ (t : Int) - 7 := by omega
        have a15 : (0 : Int) ≤ (t : Int) - 15 := by omega
        have a16 : (0 : Int) ≤ (t : Int) - 16 := by omega
        have d7 : (7 : Int) ≤ t := by omega
        have d16 : (16 : Int) ≤ t := by omega
        have b2 : (t : Int) - 2 < 64 := by omega
        have b7 : (t : Int) - 7 < 64 := by omega
        have b15 : (t : Int) - 15 < 64 := by omega
        have b16 : (t : Int) - 16 < 64 := by omega
        have n2 : ((t : Int) - 2).toNat = t - 2 := by omega
        have n7 : ((t : Int) - 7).toNat = t - 7 := by omega
        have n15 : ((t : Int) - 15).toNat = t - 15 := by omega
        have n16 : ((t : Int) - 16).toNat = t - 16 := by omega
        have g7 := get (t - 7) (by omega)
        have g16 := get (t - 16) (by omega)
        rw [hp7] at g7
        rw [hp16] at g16
        have G7 := Lib.hid g7
        have G16 := Lib.hid g16
        have GT := Lib.hid gt
        have HNX := Lib.hid hnx
        have HSC := Lib.hid hsc
        have hst := st
        clear gt get hlen hp2 hp7 hp15 hp16 g7 g16 hnx hsc
        go_wp2_with fail
        go_quiet (fail)
        have st0 := hst.drewN nq
        obtain ⟨v0, hv0⟩ : ∃ x, wr.drewN nq = x := ⟨_, rfl⟩
        rw [hv0] at st0 ⊢
        clear hv0 c2 c15 hst st
        have k3 := u_shr p15 3
        have k10 := u_shr p2 10
        simp only [Int.reducePow] at k3 k10
        have l15 := u_lo p15
        have l2 := u_lo p2
        have x1 := u_xor (rotr p15 7) (rotr p15 18)
        have x2 := u_xor (rotr p15 7 ^^^ rotr p15 18) (p15 >>> 3)
        have x3 := u_xor (rotr p2 17) (rotr p2 19)
        have x4 := u_xor (rotr p2 17 ^^^ rotr p2 19) (p2 >>> 10)
        go_wp2_with fail
        refine (right_any p15 7 (by decide) v0).mono ?_
        rintro e v1 ⟨rfl, m1, hm1⟩
        have st1 := st0.drewN m1
        rw [← hm1] at st1
        clear hm1 st0
        go_wp2_with fail
        refine (right_any p15 18 (by decide) v1).mono ?_
        rintro e v2 ⟨rfl, m2, hm2⟩
        have st2 := st1.drewN m2
        rw [← hm2] at st2
        clear hm2 st1
        go_wp2_with fail
        refine (right_any p2 17 (by decide) v2).mono ?_
        rintro e v3 ⟨rfl, m3, hm3⟩
        have st3 := st2.drewN m3
        rw [← hm3] at st3
        clear hm3 st2
        go_wp2_with fail
        refine (right_any p2 19 (by decide) v3).mono ?_
        rintro e v4 ⟨rfl, m4, hm4⟩
        have st4 := st3.drewN m4
        rw [← hm4] at st4
        clear hm4 st3
        have c7 := st4.hm.cell (t - 7)
        have c16 := st4.hm.cell (t - 16)
        have ct := st4.hm.cell t
        have f0 := st4.hm.frozen t
        rw [G7.out] at c7
        rw [G16.out] at c16
        rw [GT.out] at ct
        have s1 := u_add ((rotr p2 17 ^^^ rotr p2 19) ^^^ (p2 >>> 10)) p7
        have s2 := u_add (((rotr p2 17 ^^^ rotr p2 19) ^^^ (p2 >>> 10)) + p7) ((rotr p15 7 ^^^ rotr p15 18) ^^^ (p15 >>> 3))
        have s3 := u_add ((((rotr p2 17 ^^^ rotr p2 19) ^^^ (p2 >>> 10)) + p7) + ((rotr p15 7 ^^^ rotr p15 18) ^^^ (p15 >>> 3))) p16
        have hset := (st4.set t (nextW (schedW s t) t)).drew
        have hsm := set_mid (schedW s t) (List.replicate (63 - t) 0) 0 (nextW (schedW s t) t)
        rw [schedW_len] at hsm
        rw [show 64 - t = (63 - t) + 1 by omega, List.replicate_succ, hsm] at hset
        have hfin : BhSt w G h (schedW s (t + 1) ++ List.replicate (64 - (t + 1)) 0) (v4.setCell ⟨G + 1 + 1, t, none⟩ (.int .u32 (u (nextW (schedW s t) t)))).drew := by
          rw [HSC.out, List.append_assoc, show 64 - (t + 1) = 63 - t by omega]
          exact hset
        rw [HNX.out] at hfin
        have HF := Lib.hid hfin
        clear hfin hset hsm
        go_wp2_with fail
        go_region_law (fail)
        all_goals
          go_wp2
          go_round
          case rel => exact ⟨t + 1, by omega, by go_num, HF.out⟩
          case measure => simp [intOf]; omega
    · have h64 : t = 64 := by omega
      have q1 : decide ((t : Int) < 64) = false := decide_eq_false (by omega)
      have st1 : BhSt w G h (schedW s 64) wr := by
        rw [h64] at st
        simpa using st
      obtain ⟨m, hm⟩ : ∃ m, schedW s 64 = m := ⟨_, rfl⟩
      rw [hm] at st1
      have lm : m.length = 64 := by rw [← hm, schedW_len]
      clear st h64 hw0 st0 w0
      subst hh
      have HM := Lib.hid hm
      clear hm
      obtain ⟨V, hV⟩ : ∃ V, wr.heap.size = V := ⟨_, rfl⟩
      have hVl : G + 1 + 1 < V := by rw [← hV]; exact st1.hm.lt
      have hbx := st1.hb
      have st2 : BvSt w G V x.l m x.l ((wr.alloc (.cells (wcells (List.replicate 8 0)) 102)).setRow V (wcells x.l)) :=
        BvSt.row (v := List.replicate 8 0) ⟨st1.hb.alloc _, st1.hr.alloc _, st1.hm.alloc _, blk_at hV, st1.k.alloc (by have := st1.e; omega) _, st1.e, hVl⟩ x.l
      have ST2 := Lib.hid st2
      have hsz : (wcells x.l).size = 8 := rfl
      clear st2
      go_upto_region 17 with (first | (refine wpList_load_row rfl 102 _ rfl G rfl 102 (wcells x.l) (0, 0) _ hbx Tryd.underlying102 rfl rfl ?_) | (refine wpList_store_row rfl 102 _ _ rfl V (wcells x.l) rfl rfl 102 (wcells (List.replicate 8 0)) (blk_at hV) rfl rfl (words_one x) ?_))
      have st3 := ST2.out
      obtain ⟨w5, hw5⟩ : ∃ y, (wr.alloc (.cells (wcells (List.replicate 8 0)) 102)).setRow V (wcells x.l) = y := ⟨_, rfl⟩
      rw [hw5] at st3
      clear hbx hsz st1 lm
      go_wp2_with fail
      go_loopw [83] (fun i wv => ∃ r : Nat, r ≤ 64 ∧ i = .int .i64 r ∧ BvSt w G V x.l m (x.rounds m r).l wv) (fun i _ => 64 - (intOf i).toNat)
      case atStart =>
        refine ⟨0, by omega, rfl, ?_⟩
        rw [← hw5] at st3
        exact st3
      case round =>
        clear hw5 st3 ST2 q1 hlt
        obtain ⟨r, hr, rfl, st⟩ := hrel
        by_cases hlt : r < 64
        · have q1 : decide ((r : Int) < 64) = true := decide_eq_true (by omega)
          obtain ⟨v, hv⟩ : ∃ v, x.rounds m r = v := ⟨_, rfl⟩
          rw [hv] at st
          obtain ⟨c0, c1, c2, c3, c4, c5, c6, c7⟩ := st.cells
          have hst := st
          go_wp2_with fail
          go_quiet (fail)
          have st0 := hst.drewN nq
          obtain ⟨v0, hv0⟩ : ∃ y, wr.drewN nq = y := ⟨_, rfl⟩
          rw [hv0] at st0 ⊢
          clear hv0 c0 c1 c2 c3 c4 c5 c6 c7 hst st
          obtain ⟨k, hk⟩ : ∃ k, rootsW.getD r 0 = k := ⟨_, rfl⟩
          obtain ⟨y, hy⟩ : ∃ y, m.getD r 0 = y := ⟨_, rfl⟩
          have hr0 : (0 : Int) ≤ r := by omega
          have hr1 : (r : Int) < 64 := by omega
          have hml : m.length = 64 := by rw [← HM.out, schedW_len]
          have gm : (wcells m)[r]? = some (.int .u32 (u y)) := by
            rw [wcells_get _ _ (by omega), ← hy]
            simp [show r < m.length by omega]
          have GM := Lib.hid gm
          have HK := Lib.hid hk
          have HY := Lib.hid hy
          clear gm hk hy hml
          obtain ⟨c0, c1, c2, c3, c4, c5, c6, c7⟩ := st0.cells
          have cm := st0.hm.cell r
          rw [GM.out] at cm
          have cr := (hR.below st0.k hR.1).2 r hlt
          rw [HK.out] at cr
          have x1 := u_xor (rotr v.e 6) (rotr v.e 11)
          have x2 := u_xor (rotr v.e 6 ^^^ rotr v.e 11) (rotr v.e 25)
          have x3 := u_xor (v.e &&& v.f) (~~~ v.e &&& v.g)
          have a1 := u_and v.e v.f
          have a2 := u_and (~~~ v.e) v.g
          have n1 := u_not' v.e
          have s1 := u_add v.h ((rotr v.e 6 ^^^ rotr v.e 11) ^^^ rotr v.e 25)
          have t1 := u_add' v.h ((rotr v.e 6 ^^^ rotr v.e 11) ^^^ rotr v.e 25)
          have s2 := u_add (v.h + ((rotr v.e 6 ^^^ rotr v.e 11) ^^^ rotr v.e 25)) ((v.e &&& v.f) ^^^ (~~~ v.e &&& v.g))
          have t2 := u_add' (v.h + ((rotr v.e 6 ^^^ rotr v.e 11) ^^^ rotr v.e 25)) ((v.e &&& v.f) ^^^ (~~~ v.e &&& v.g))
          have s3 := u_add (v.h + ((rotr v.e 6 ^^^ rotr v.e 11) ^^^ rotr v.e 25) + ((v.e &&& v.f) ^^^ (~~~ v.e &&& v.g))) k
          have t3 := u_add' (v.h + ((rotr v.e 6 ^^^ rotr v.e 11) ^^^ rotr v.e 25) + ((v.e &&& v.f) ^^^ (~~~ v.e &&& v.g))) k
          have s4 := u_add (v.h + ((rotr v.e 6 ^^^ rotr v.e 11) ^^^ rotr v.e 25) + ((v.e &&& v.f) ^^^ (~~~ v.e &&& v.g)) + k) y
          have t4 := u_add' (v.h + ((rotr v.e 6 ^^^ rotr v.e 11) ^^^ rotr v.e 25) + ((v.e &&& v.f) ^^^ (~~~ v.e &&& v.g)) + k) y
          have l6 := u_lo v.e
          go_upto_region 21 with fail
          go_quiet ((go_at_call 73; with_reducible first | exact right_q6 _ _ _ | exact right_q11 _ _ _ | exact right_q25 _ _ _))
          have st1 := st0.drewN nq
          obtain ⟨v1, hv1⟩ : ∃ y, v0.drewN nq = y := ⟨_, rfl⟩
          rw [hv1] at st1 ⊢
          have ht1 : v.h + ((rotr v.e 6 ^^^ rotr v.e 11) ^^^ rotr v.e 25) + ((v.e &&& v.f) ^^^ (~~~ v.e &&& v.g)) + k + y = v.t1 k y := rfl
          rw [ht1]
          clear ht1 hv1 c0 c1 c2 c3 c4 c5 c6 c7 cm cr st0 x1 x2 x3 a1 a2 n1 s1 s2 s3 s4 t1 t2 t3 t4 l6
          obtain ⟨p, hp⟩ : ∃ p, v.t1 k y = p := ⟨_, rfl⟩
          rw [hp]
          obtain ⟨c0, c1, c2, c3, c4, c5, c6, c7⟩ := st1.cells
          have x1 := u_xor (rotr v.a 2) (rotr v.a 13)
          have x2 := u_xor (rotr v.a 2 ^^^ rotr v.a 13) (rotr v.a 22)
          have a1 := u_and v.a v.b
          have a2 := u_and v.a v.c
          have a3 := u_and v.b v.c
          have x3 := u_xor (v.a &&& v.b) (v.a &&& v.c)
          have x4 := u_xor ((v.a &&& v.b) ^^^ (v.a &&& v.c)) (v.b &&& v.c)
          have s1 := u_add ((rotr v.a 2 ^^^ rotr v.a 13) ^^^ rotr v.a 22) (((v.a &&& v.b) ^^^ (v.a &&& v.c)) ^^^ (v.b &&& v.c))
          have t1 := u_add' ((rotr v.a 2 ^^^ rotr v.a 13) ^^^ rotr v.a 22) (((v.a &&& v.b) ^^^ (v.a &&& v.c)) ^^^ (v.b &&& v.c))
          go_upto_region 22 with fail
          go_quiet ((go_at_call 73; with_reducible first | exact right_q2 _ _ _ | exact right_q13 _ _ _ | exact right_q22 _ _ _))
          have st2 := st1.drewN nq
          obtain ⟨v2, hv2⟩ : ∃ y, v1.drewN nq = y := ⟨_, rfl⟩
          rw [hv2] at st2 ⊢
          have ht2 : ((rotr v.a 2 ^^^ rotr v.a 13) ^^^ rotr v.a 22) + (((v.a &&& v.b) ^^^ (v.a &&& v.c)) ^^^ (v.b &&& v.c)) = v.t2 := rfl
          rw [ht2]
          clear ht2 hv2 c0 c1 c2 c3 c4 c5 c6 c7 st1 x1 x2 x3 x4 a1 a2 a3 s1 t1
          obtain ⟨z, hz⟩ : ∃ z, v.t2 = z := ⟨_, rfl⟩
          rw [hz]
          obtain ⟨c0, c1, c2, c3, c4, c5, c6, c7⟩ := st2.cells
          have s1 := u_add p z
          have s2 := u_add v.d p
          have s1' := u_add' p z
          have s2' := u_add' v.d p
          have hvv := st2.hv
          have hnx : x.rounds m (r + 1) = ⟨p + z, v.a, v.b, v.c, v.d + p, v.e, v.f, v.g⟩ := by
            rw [H8.rounds, hv, HK.out, HY.out, H8.round, hp, hz]
          have st4 : BvSt w G V x.l m (x.rounds m (r + 1)).l (v2.setRow V (wcells (⟨p + z, v.a, v.b, v.c, v.d + p, v.e, v.f, v.g⟩ : H8).l)) := by
            rw [hnx]
            exact st2.row _
          have ST4 := Lib.hid st4
          clear st4 hnx hp hz hv
          go_upto_region 24 with (refine wpList_store_row rfl 102 _ _ rfl V (wcells (⟨p + z, v.a, v.b, v.c, v.d + p, v.e, v.f, v.g⟩ : H8).l) rfl rfl 102 _ hvv rfl rfl (words_one _) ?_)
          go_wp2
          go_round
          case rel => exact ⟨r + 1, by omega, by go_num, ST4.out⟩
          case measure => simp [intOf]; omega
        · have h64 : r = 64 := by omega
          have q1 : decide ((r : Int) < 64) = false := decide_eq_false (by omega)
          obtain ⟨v, hv⟩ : ∃ v, x.rounds m 64 = v := ⟨_, rfl⟩
          have st1 : BvSt w G V (addTo x v 0) m v.l wr := by
            rw [h64, hv] at st
            exact st
          have hfin : x.behind s = x.add v := by rw [H8.behind, HM.out, hv]
          have HF := Lib.hid hfin
          clear st hv h64 hfin
          obtain ⟨wo, hwo⟩ : ∃ wo : World, wo = wr := ⟨_, rfl⟩
          go_wp2_with fail
          go_loopw [163] (fun i wv => ∃ j : Nat, j ≤ 8 ∧ i = .int .i64 j ∧ BvSt w G V (addTo x v j) m v.l wv) (fun i _ => 8 - (intOf i).toNat)
          case atStart => exact ⟨0, by omega, rfl, st1⟩
          case round =>
            clear st1
            obtain ⟨j, hj, rfl, st⟩ := hrel
            by_cases hlt2 : j < 8
            · have q3 : decide ((j : Int) < 8) = true := decide_eq_true (by omega)
              have c0 := st.hb.cell j
              rw [addTo_get _ _ _ hlt2] at c0
              have f0 := st.hb.frozen j
              have c1 := st.hv.cell j
              rw [l_get _ _ hlt2] at c1
              have hset := (st.setH j (x.l.getD j 0 + v.l.getD j 0)).drew
              rw [addTo_set _ _ _ hlt2] at hset
              have HSET := Lib.hid hset
              clear hset st
              have e1 := u_add (x.l.getD j 0) (v.l.getD j 0)
              have e2 := u_add' (x.l.getD j 0) (v.l.getD j 0)
              obtain ⟨xa, hxa⟩ : ∃ y, x.l.getD j 0 = y := ⟨_, rfl⟩
              obtain ⟨va, hva⟩ : ∃ y, v.l.getD j 0 = y := ⟨_, rfl⟩
              rw [hxa] at c0 e1 e2 HSET
              rw [hva] at c1 e1 e2 HSET
              have hJ0 : (0 : Int) ≤ j := by omega
              have hJ1 : (j : Int) < 8 := by omega
              clear hxa hva
              go_wp2_with fail
              go_region_law (fail)
              all_goals
                go_wp2
                go_round
                case rel => exact ⟨j + 1, by omega, by go_num, HSET.out⟩
                case measure => simp [intOf]; omega
            · have h8 : j = 8 := by omega
              have q3 : decide ((j : Int) < 8) = false := decide_eq_false (by omega)
              have st8 : BvSt w G V (x.add v).l m v.l wr := by
                rw [h8] at st
                exact st
              have hb8 := st8.hb
              have hr8 := st8.hr
              have hk8 := st8.k
              clear st h8
              go_wp2_with (first | (refine wpList_load_row rfl 102 _ rfl G rfl 102 (wcells (x.add v).l) (0, 0) _ hb8 Tryd.underlying102 rfl rfl ?_) | (refine wpList_store_row rfl 102 _ _ rfl (G + 1) (wcells (x.add v).l) rfl rfl 102 _ hr8 rfl rfl (words_one _) ?_))
              have hld := run_loadVar_row (P := Tryd.prog) (wr.setRow (G + 1) (wcells (x.add v).l)) (G + 1) 102 102 (wcells (x.add v).l) (0, 0) _ (setRow_heap wr (G + 1) _ _ _ _ hr8) Tryd.underlying102 rfl rfl
              rw [HF.out]
              refine bodyPost_ret (v := (x.add v).val) ?_ rfl ⟨rfl, below_setRow hk8 (by omega) _⟩
              exact result_cell rfl rfl hld

end Go.Proofs.YtcamcjcmhjldpaaDoor
