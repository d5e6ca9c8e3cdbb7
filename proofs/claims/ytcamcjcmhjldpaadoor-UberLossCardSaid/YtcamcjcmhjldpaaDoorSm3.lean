/- Package sum: begin, New, Write: their contracts. -/
import Derived.Test.YtcamcjcmhjldpaaDoorSm2
import Derived.Test.YtcamcjcmhjldpaaDoorBl2
namespace Go.Proofs.YtcamcjcmhjldpaaDoor
open Go.RowKit
set_option maxRecDepth 100000
set_option linter.unusedSimpArgs false
set_option linter.unnecessarySimpa false
set_option linter.unusedVariables false

def H8.begin0 : H8 := ⟨0x6a09e667, 0xbb67ae85, 0x3c6ef372, 0xa54ff53a, 0x510e527f, 0x9b05688c, 0x1f83d9ab, 0x5be0cd19⟩
/-- a writer -/
structure Sw where
  h : H8
  rest : List UInt8
  n : Nat
def Sw.cells (d : Sw) : Array Value := #[.int .u32 (u d.h.a), .int .u32 (u d.h.b), .int .u32 (u d.h.c), .int .u32 (u d.h.d), .int .u32 (u d.h.e), .int .u32 (u d.h.f), .int .u32 (u d.h.g), .int .u32 (u d.h.h), .string (bstr d.rest), .int .i64 d.n]
def Sw.new : Sw := ⟨H8.begin0, [], 0⟩
def H8.feed : Nat → H8 → List UInt8 → H8
  | 0, h, _ => h
  | k + 1, h, s => H8.feed k (h.behind (s.take 64)) (s.drop 64)
def Sw.write (d : Sw) (s : List UInt8) : Sw := ⟨H8.feed ((d.rest ++ s).length / 64) d.h (d.rest ++ s), (d.rest ++ s).drop ((d.rest ++ s).length / 64 * 64), d.n + s.length⟩

set_option maxRecDepth 100000 in
set_option maxHeartbeats 1000000 in
theorem begin_any (w : World) : Calls Tryd.prog 66 #[] w fun e w' => e = .returned H8.begin0.val ∧ Below w.heap.size w w' := by
  go_enter Tryd.func66, Tryd.ntmps66
  have hb : Blk (w.alloc (.cells (wcells (List.replicate 8 0)) 102)) w.heap.size 102 (wcells (List.replicate 8 0)) := Blk.new _ _ _
  go_wp2_with (refine wpList_store_row rfl 102 _ _ rfl w.heap.size (wcells H8.begin0.l) rfl rfl 102 _ hb rfl rfl (words_one _) ?_)
  refine bodyPost_ret (v := H8.begin0.val) ?_ rfl ⟨rfl, below_setRow ((Below.refl _ _).alloc (Nat.le_refl _) _) (Nat.le_refl _) _⟩
  exact result_cell rfl rfl (run_loadVar_row (P := Tryd.prog) _ w.heap.size 102 102 (wcells H8.begin0.l) (0, 0) _ (setRow_heap _ _ _ _ _ _ hb) Tryd.underlying102 rfl rfl)

set_option maxRecDepth 100000 in
set_option maxHeartbeats 1000000 in
theorem new_sum (w : World) : Calls Tryd.prog 52 #[] w fun e w' => ∃ g, e = .returned (.pointer (some ⟨g, 0, none⟩)) ∧ Blk w' g 105 Sw.new.cells ∧ Below w.heap.size w w' ∧ w.heap.size ≤ g := by
  go_enter Tryd.func52, Tryd.ntmps52
  go_wp2_with fail
  refine (begin_any _).mono ?_
  rintro e w1 ⟨rfl, hb1⟩
  have hs1 := hb1.size
  have hv : H8.begin0.val = .agg #[.int .u32 (u H8.begin0.a), .int .u32 (u H8.begin0.b), .int .u32 (u H8.begin0.c), .int .u32 (u H8.begin0.d), .int .u32 (u H8.begin0.e), .int .u32 (u H8.begin0.f), .int .u32 (u H8.begin0.g), .int .u32 (u H8.begin0.h)] := rfl
  rw [hv]
  go_wp2
  go_ret
  exact ⟨_, rfl, Blk.new _ _ _, hb1.alloc hs1 _, hs1⟩

theorem RootsAt.keep {w w' : World} {B : Nat} {S : Nat → Prop} (h : RootsAt w) (k : Keep B S w w') (hB : 0 < B) (hs : ¬ S 0) : RootsAt w' :=
  ⟨Nat.lt_of_lt_of_le h.1 k.size, fun i hi => by rw [← h.2 i hi]; exact k.cell hB hs⟩
theorem RootsAt.drew {w : World} (h : RootsAt w) : RootsAt w.drew := h
theorem Sw.words {w : World} {g : Nat} {h h' : H8} {r : List UInt8} {n : Nat} (b : Blk w g 105 (Sw.cells ⟨h, r, n⟩)) :
    Blk ((((((((w.setCell ⟨g, 0, none⟩ (.int .u32 (u h'.a))).setCell ⟨g, 1, none⟩ (.int .u32 (u h'.b))).setCell ⟨g, 2, none⟩ (.int .u32 (u h'.c))).setCell ⟨g, 3, none⟩ (.int .u32 (u h'.d))).setCell ⟨g, 4, none⟩ (.int .u32 (u h'.e))).setCell ⟨g, 5, none⟩ (.int .u32 (u h'.f))).setCell ⟨g, 6, none⟩ (.int .u32 (u h'.g))).setCell ⟨g, 7, none⟩ (.int .u32 (u h'.h))) g 105 (Sw.cells ⟨h', r, n⟩) := by
  have := (((((((b.set_ 0 (.int .u32 (u h'.a))).set_ 1 (.int .u32 (u h'.b))).set_ 2 (.int .u32 (u h'.c))).set_ 3 (.int .u32 (u h'.d))).set_ 4 (.int .u32 (u h'.e))).set_ 5 (.int .u32 (u h'.f))).set_ 6 (.int .u32 (u h'.g))).set_ 7 (.int .u32 (u h'.h))
  simpa [Sw.cells] using this
theorem feed_len (q : List UInt8) (h : 64 ≤ q.length) : q.length / 64 = (q.drop 64).length / 64 + 1 := by simp; omega
theorem behind_to (s : List UInt8) (hs : s.length = 64) (x y : H8) (hxy : x.behind s = y) (w : World) (hR : RootsAt w) :
    Calls Tryd.prog 67 #[.agg #[.int .u32 (u x.a), .int .u32 (u x.b), .int .u32 (u x.c), .int .u32 (u x.d), .int .u32 (u x.e), .int .u32 (u x.f), .int .u32 (u x.g), .int .u32 (u x.h)], .string (bstr s)] w fun e w' =>
      e = .returned (.agg #[.int .u32 (u y.a), .int .u32 (u y.b), .int .u32 (u y.c), .int .u32 (u y.d), .int .u32 (u y.e), .int .u32 (u y.f), .int .u32 (u y.g), .int .u32 (u y.h)]) ∧ Below w.heap.size w w' := by
  subst hxy
  exact behind_any s hs x w hR
def slen : Value → Nat
  | .string s => s.size
  | _ => 0
theorem slen_bstr (q : List UInt8) : slen (.string (bstr q)) = q.length := by simp [slen, bstr, ByteArray.size]

set_option maxRecDepth 100000 in
set_option maxHeartbeats 2000000 in
theorem write_sum (g : Nat) (d : Sw) (s : List UInt8) (w : World) (hR : RootsAt w) (hg : Blk w g 105 d.cells) (hg0 : g ≠ 0) (hN : d.n + s.length < 4611686018427387904) (hr : d.rest.length ≤ 64) :
    Calls Tryd.prog 53 #[.pointer (some ⟨g, 0, none⟩), .string (bstr s)] w fun e w' => e = .returned (.tuple #[]) ∧ Blk w' g 105 (d.write s).cells ∧ Keep w.heap.size (· = g) w w' := by
  obtain ⟨h, r, n⟩ := d
  have hgl := hg.lt
  have k8 := hg.cell 8
  have k9 := hg.cell 9
  simp [Sw.cells] at k8 k9
  have f9 := hg.frozen 9
  have hN0 : (0 : Int) ≤ n := by omega
  have hsz : (bstr s).size = s.length := by simp [bstr, ByteArray.size]
  have hNb : (n : Int) + s.length < 4611686018427387904 := by simp at hN; omega
  have hwn : IntKind.i64.wrap ((n : Int) + s.length) = (n : Int) + s.length := IntWalk.i64_in _ ⟨by omega, by omega⟩
  go_enter Tryd.func53, Tryd.ntmps53
  go_upto_region 2 with fail
  obtain ⟨w1, hw1⟩ : ∃ y, w.setCell ⟨g, 9, none⟩ (.int .i64 ((n : Int) + s.length)) = y := ⟨_, rfl⟩
  have hg1 : Blk w1 g 105 (Sw.cells ⟨h, r, n + s.length⟩) := by
    rw [← hw1]
    simpa [Sw.cells] using hg.set_ 9 (.int .i64 ((n : Int) + s.length))
  have hk1 : Keep w.heap.size (· = g) w w1 := by
    rw [← hw1]
    exact (Keep.refl _ _ _).set1 9 _
  rw [hw1]
  clear hw1 k8 k9 f9
  have k8 := hg1.cell 8
  simp [Sw.cells] at k8
  have hcat : ¬ 9223372036854775807 < r.length + s.length := by simp at hr; omega
  go_wp2_with fail
  obtain ⟨N, hNe⟩ : ∃ y, n + s.length = y := ⟨_, rfl⟩
  have hR1 : RootsAt w1 := hR.keep hk1 hR.1 (fun e => hg0 e.symm)
  have hgw : g < w1.heap.size := hg1.lt
  rw [hNe] at hg1
  obtain ⟨Q, hQ⟩ : ∃ Q, r ++ s = Q := ⟨_, rfl⟩
  have hQl : Q.length ≤ 9223372036854775807 := by rw [← hQ, List.length_append]; omega
  have hwr : (⟨h, r, n⟩ : Sw).write s = ⟨H8.feed (Q.length / 64) h Q, Q.drop (Q.length / 64 * 64), N⟩ := by
    simp only [Sw.write, hQ, hNe]
  obtain ⟨HH, hHH⟩ : ∃ y, H8.feed (Q.length / 64) h Q = y := ⟨_, rfl⟩
  obtain ⟨RR, hRR⟩ : ∃ y, Q.drop (Q.length / 64 * 64) = y := ⟨_, rfl⟩
  rw [hHH, hRR] at hwr
  have HW := Lib.hid hwr
  rw [hQ]
  have HHH := Lib.hid hHH
  have HRR := Lib.hid hRR
  have HG0 := Lib.hid hg0
  clear hwr hQ hHH hRR hNe hcat k8 hwn hsz hN hNb hN0 hg hg0 hgl hr
  go_loopw [1] (fun i wv => ∃ h' q, i = .string (bstr q) ∧ q.length ≤ 9223372036854775807 ∧ H8.feed (q.length / 64) h' q = HH ∧ q.drop (q.length / 64 * 64) = RR ∧ Blk wv g 105 (Sw.cells ⟨h', r, N⟩) ∧ Keep w1.heap.size (· = g) w1 wv) (fun i _ => slen i)
  case atStart => exact ⟨h, Q, rfl, hQl, HHH.out, HRR.out, hg1, Keep.refl _ _ _⟩
  case round =>
    obtain ⟨h', q, rfl, hql, hf, hd, hb, hk⟩ := hrel
    have F := Lib.hid hf
    have D := Lib.hid hd
    clear hf hd
    by_cases h64 : 64 ≤ q.length
    · have q1 : decide ((q.length : Int) ≥ 64) = true := decide_eq_true (by omega)
      have L64 := Lib.hid (show (q.take 64).length = 64 by simp; omega)
      have h65 : (64 : Int) ≤ q.length := by omega
      have hRw : RootsAt wr.drew := (hR1.keep hk (by omega) (fun e => HG0.out e.symm)).drew
      obtain ⟨hn, hhn⟩ : ∃ y, h'.behind (q.take 64) = y := ⟨_, rfl⟩
      have F2 := F.out
      rw [feed_len q h64, H8.feed, hhn] at F2
      have D2 := D.out
      rw [feed_len q h64, Nat.add_mul, Nat.one_mul, Nat.add_comm, ← List.drop_drop] at D2
      have HB := Lib.hid hhn
      have F3 := Lib.hid F2
      have D3 := Lib.hid D2
      clear hhn F2 D2 F D
      have c0 := hb.cell 0
      have c1 := hb.cell 1
      have c2 := hb.cell 2
      have c3 := hb.cell 3
      have c4 := hb.cell 4
      have c5 := hb.cell 5
      have c6 := hb.cell 6
      have c7 := hb.cell 7
      simp [Sw.cells] at c0 c1 c2 c3 c4 c5 c6 c7
      go_wp2_with fail
      go_region_law (first
        | (go_simp; go_at_call 67; refine (behind_to (q.take 64) L64.out h' hn HB.out wr.drew hRw).mono ?_; rintro e w2 ⟨rfl, hb2⟩; have hg2 := (hb.drew).below hb2 hb.lt; have d0 := hg2.cell 0; have d1 := hg2.cell 1; have d2 := hg2.cell 2; have d3 := hg2.cell 3; have d4 := hg2.cell 4; have d5 := hg2.cell 5; have d6 := hg2.cell 6; have d7 := hg2.cell 7; simp [Sw.cells] at d0 d1 d2 d3 d4 d5 d6 d7; have f0 := hg2.frozen 0; have f1 := hg2.frozen 1; have f2 := hg2.frozen 2; have f3 := hg2.frozen 3; have f4 := hg2.frozen 4; have f5 := hg2.frozen 5; have f6 := hg2.frozen 6; have f7 := hg2.frozen 7; dsimp only))
      all_goals
        have hset := Sw.words (h' := hn) hg2
        have hkk : Keep w1.heap.size (· = g) w1 w2 := hk.trans ((Keep.of_below (S := (· = g)) hb2.fromDrew).mono hk.size (fun _ _ h => h))
        have hks := (((((((hkk.set1 0 (.int .u32 (u hn.a))).set1 1 (.int .u32 (u hn.b))).set1 2 (.int .u32 (u hn.c))).set1 3 (.int .u32 (u hn.d))).set1 4 (.int .u32 (u hn.e))).set1 5 (.int .u32 (u hn.f))).set1 6 (.int .u32 (u hn.g))).set1 7 (.int .u32 (u hn.h))
        go_wp2
        go_round
        case rel =>
          refine ⟨_, _, _, _, _, _, _, _, _, _, _, _, _, _, _, _, ?_, rfl⟩
          exact ⟨hn, q.drop 64, rfl, by simp; omega, F3.out, D3.out, hset, hks⟩
        case measure =>
          show slen (.string (bstr (q.drop 64))) < slen (.string (bstr q))
          simp only [slen_bstr, List.length_drop]
          omega
    · have q1 : decide ((q.length : Int) ≥ 64) = false := decide_eq_false (by omega)
      have hz : q.length / 64 = 0 := by omega
      have F2 := F.out
      have D2 := D.out
      rw [hz] at F2 D2
      rw [Nat.zero_mul, List.drop_zero] at D2
      rw [H8.feed] at F2
      subst F2 D2
      have hset := hb.set_ 8 (.string (bstr q))
      have f8 := hb.frozen 8
      have c8 := hb.cell 8
      simp [Sw.cells] at c8
      go_wp2
      go_end0
      refine ⟨rfl, ?_, hk1.trans ((hk.set1 8 _).mono hk1.size (fun _ _ h => h))⟩
      rw [HW.out]
      exact hset

end Go.Proofs.YtcamcjcmhjldpaaDoor
