/- The reference of package sum: times: its contract. -/
import Derived.Test.YtppckmfaidpliaaDoorRs4
namespace Go.Proofs.YtppckmfaidpliaaDoor
open Go.RowKit
set_option linter.unusedSimpArgs false
set_option linter.unnecessarySimpa false
set_option linter.unusedVariables false

theorem natV_get (l : List Nat) (i : Nat) (h : i < l.length) : (natV l).toArray[i]? = some (.int .i64 (l.getD i 0 : Nat)) := by
  simp [natV, h, List.getD]
theorem natV_set (l : List Nat) (i x : Nat) : (natV l).toArray.setIfInBounds i (.int .i64 (x : Nat)) = (natV (l.set i x)).toArray := by simp [natV, List.map_set]
theorem cell_lt {w : World} {g j : Nat} {v : Value} (h : w.cell? ⟨g, j, none⟩ = some v) : g < w.heap.size := by
  refine Nat.lt_of_not_le fun e => ?_
  have : w.heap[g]? = none := by rw [Array.getElem?_eq_none]; exact e
  simp [World.cell?, this] at h

set_option maxHeartbeats 4000000 in
theorem times_any (a b : List Nat) (va vb : Value) (ha0 : 0 < a.length) (hb0 : 0 < b.length) (ha : a.length ≤ 12) (hb : b.length ≤ 12) (la : All 65535 a) (lb : All 65535 b) (w : World) (h1 : NumsAt w va a) (h2 : NumsAt w vb b) :
    Calls Tryd.prog 29 #[va, vb] w fun e w' => e = .returned (.slice (some ⟨w.heap.size, 0, none⟩) (a.length + b.length) (a.length + b.length)) ∧ Blk w' w.heap.size 3 (natV (timesL a b)).toArray ∧ Below w.heap.size w w' := by
  obtain ⟨g, c, rfl, hA⟩ := h1
  obtain ⟨g', c', rfl, hB⟩ := h2
  have hg := cell_lt (hA 0 ha0)
  have hg' := cell_lt (hB 0 hb0)
  have HA := Lib.hid hA
  have HB := Lib.hid hB
  clear hA hB
  have hw0 : IntKind.i64.wrap ((a.length : Int) + b.length) = ((a.length + b.length : Nat) : Int) := by rw [IntWalk.i64_in _ ⟨by omega, by omega⟩]; omega
  have hmk := run_make_ints (a.length + b.length) (by omega) w
  obtain ⟨L, hL⟩ : ∃ L, a.length + b.length = L := ⟨_, rfl⟩
  rw [hL] at hw0 hmk ⊢
  have hw1 : (a.length : Int) + b.length = L := by omega
  obtain ⟨G, hG⟩ : ∃ G, w.heap.size = G := ⟨_, rfl⟩
  have hst : Blk (w.alloc (.cells (natV (List.replicate L 0)).toArray 3)) G 3 (natV (mulOut a b 0)).toArray := by rw [mulOut, hL]; exact blk_at hG
  have hbe : Below w.heap.size w (w.alloc (.cells (natV (List.replicate L 0)).toArray 3)) := (Below.refl _ _).alloc (Nat.le_refl _) _
  go_enter Tryd.func29, Tryd.ntmps29
  go_wp2_with fail
  go_loopw [6] (fun i wr => ∃ k : Nat, k ≤ a.length ∧ i = .int .i64 k ∧ Blk wr G 3 (natV (mulOut a b k)).toArray ∧ Below w.heap.size w wr) (fun i _ => a.length - (intOf i).toNat)
  case atStart => exact ⟨0, by omega, rfl, hst, hbe⟩
  case round =>
    clear hst hbe hmk
    obtain ⟨k, hk, rfl, hd, hbl⟩ := hrel
    by_cases hlt : k < a.length
    · have q1 : decide ((k : Int) < a.length) = true := decide_eq_true (by omega)
      have hMk : 131072 * 2 ^ k ≤ 536870912 := by
        have : 2 ^ k ≤ 2 ^ 12 := Nat.pow_le_pow_right (by decide) (by omega)
        have h12 : (2 : Nat) ^ 12 = 4096 := by decide
        omega
      obtain ⟨o, ho⟩ : ∃ o, mulOut a b k = o := ⟨_, rfl⟩
      have hol : o.length = L := by rw [← ho, mulOut_len, hL]
      have hall : All 536870912 o := by rw [← ho]; exact (mulOut_all la lb k).mono hMk
      obtain ⟨y, hy⟩ : ∃ y, a.getD k 0 = y := ⟨_, rfl⟩
      have hyl : y ≤ 65535 := by rw [← hy]; exact la k
      have hin := mulIn_all k (by decide : 131072 ≤ 536870912) hyl lb hall
      have hnx : mulOut a b (k + 1) = (mulIn y b k o b.length).1.set (k + b.length) ((mulIn y b k o b.length).1.getD (k + b.length) 0 + (mulIn y b k o b.length).2) := by rw [mulOut, ho, hy]
      rw [ho] at hd
      have HO := Lib.hid hnx
      have cA := HA.out k hlt
      rw [hy] at cA
      have CA := Lib.hid cA
      clear hnx ho hy cA hMk hall
      have hk0 : (0 : Int) ≤ k := by omega
      go_wp2_with fail
      go_loopw [7, 8] (fun cc j wr => ∃ q : Nat, q ≤ b.length ∧ j = .int .i64 q ∧ cc = .int .i64 ((mulIn y b k o q).2 : Nat) ∧ Blk wr G 3 (natV (mulIn y b k o q).1).toArray ∧ Below w.heap.size w wr) (fun _ j _ => b.length - (intOf j).toNat)
      case atStart => exact ⟨0, by omega, rfl, rfl, hd, hbl⟩
      case round =>
        clear hd hbl
        obtain ⟨q, hq, rfl, rfl, hd, hbl⟩ := hrel
        obtain ⟨h1, h2⟩ := hin q
        have hil := mulIn_len y b k o q
        have hsu : (mulIn y b k o (q + 1)) = ((mulIn y b k o q).1.set (k + q) (((mulIn y b k o q).1.getD (k + q) 0 + y * b.getD q 0 + (mulIn y b k o q).2) % 65536), ((mulIn y b k o q).1.getD (k + q) 0 + y * b.getD q 0 + (mulIn y b k o q).2) / 65536) := rfl
        by_cases hlq : q < b.length
        · have q2 : decide ((q : Int) < b.length) = true := decide_eq_true (by omega)
          obtain ⟨⟨s, r⟩, hsr⟩ : ∃ s, mulIn y b k o q = s := ⟨_, rfl⟩
          rw [hsr] at h1 h2 hil hsu hd ⊢
          simp only at h1 h2 hil hsu hd ⊢
          obtain ⟨x, hx⟩ : ∃ x, s.getD (k + q) 0 = x := ⟨_, rfl⟩
          obtain ⟨z, hz⟩ : ∃ z, b.getD q 0 = z := ⟨_, rfl⟩
          have hxl : x ≤ 536870912 := by rw [← hx]; exact h1 _
          have hzl : z ≤ 65535 := by rw [← hz]; exact lb q
          obtain ⟨p, hp⟩ : ∃ p, y * z = p := ⟨_, rfl⟩
          have hpl : p ≤ 65535 * 65535 := by rw [← hp]; exact Nat.mul_le_mul hyl hzl
          have hpi : (y : Int) * z = p := by rw [← hp]; simp
          obtain ⟨n, hn⟩ : ∃ n, x + p + r = n := ⟨_, rfl⟩
          rw [hx, hz, hp, hn] at hsu
          have e0 : IntKind.i64.wrap ((y : Int) * z) = p := by rw [hpi, IntWalk.i64_in _ ⟨by omega, by omega⟩]
          have e1 : IntKind.i64.wrap ((x : Int) + p) = x + p := IntWalk.i64_in _ ⟨by omega, by omega⟩
          have e2 : IntKind.i64.wrap ((x : Int) + p + r) = n := by rw [IntWalk.i64_in _ ⟨by omega, by omega⟩]; omega
          have e3 : IntKind.i64.wrap ((k : Int) + q) = k + q := IntWalk.i64_in _ ⟨by omega, by omega⟩
          have e4 : (0 : Int) ≤ (k : Int) + q := by omega
          have e5 : (k : Int) + q < L := by omega
          have e6 : ((k : Int) + q).toNat = k + q := by omega
          have hq0 : (0 : Int) ≤ q := by omega
          have cs := hd.cell (k + q)
          rw [natV_get _ _ (by omega), hx] at cs
          have fs := hd.frozen (k + q)
          have cb := HB.out q hlq
          rw [← hbl.cell (p := ⟨g', q, none⟩) hg', hz] at cb
          have ca := CA.out
          rw [← hbl.cell (p := ⟨g, k, none⟩) hg] at ca
          have hset := hd.set_ (k + q) (.int .i64 ((n % 65536 : Nat)))
          rw [natV_set] at hset
          have SU := Lib.hid hsu
          have HS := Lib.hid hset
          have HD := Lib.hid hd
          have hnl : n ≤ 5368709120 := by omega
          have e7 : IntKind.i64.wrap ((n : Int) / 65536) = (n : Int) / 65536 := IntWalk.i64_in _ ⟨by omega, by omega⟩
          clear hsu hset hn hp hpi hx hz hsr
          go_wp2_with fail
          go_quiet (fail)
          have hm0 : ((n : Int)).tmod 65536 = ((n % 65536 : Nat) : Int) := by rw [Int.tmod_eq_emod_of_nonneg (by omega)]; omega
          have hm1 : ((n : Int)).tdiv 65536 = ((n / 65536 : Nat) : Int) := by rw [Int.tdiv_eq_ediv_of_nonneg (by omega)]; omega
          have hdq := (HD.out).drewN nq
          obtain ⟨w2, hw2⟩ : ∃ y, wr.drewN nq = y := ⟨_, rfl⟩
          have hb2 : Below w.heap.size w w2 := by rw [← hw2]; exact hbl.dN nq
          rw [hw2] at hdq ⊢
          clear hw2 cb ca cs fs
          have cs := hdq.cell (k + q)
          have fs := hdq.frozen (k + q)
          rw [natV_get _ _ (by omega)] at cs
          have hset := hdq.set_ (k + q) (.int .i64 ((n % 65536 : Nat)))
          rw [natV_set] at hset
          have HS2 := Lib.hid hset
          clear hset HS HD hd hdq
          have hb3 := below_at hb2 (g := G) (by omega) (k + q) (.int .i64 ((n % 65536 : Nat)))
          have HB3 := Lib.hid hb3
          clear hb3
          go_wp2
          go_round
          case rel => exact ⟨q + 1, by omega, by go_num, by rw [SU.out]; first | rfl | (simp; exact e7), by rw [SU.out]; first | exact HS2.out | simpa using HS2.out, by first | exact HB3.out | simpa using HB3.out⟩
          case measure => simp [intOf] <;> omega
        · have hqe : q = b.length := by omega
          have q2 : decide ((q : Int) < b.length) = false := decide_eq_false (by omega)
          rw [hqe] at h1 h2 hil hd
          rw [hqe]
          obtain ⟨⟨s, r⟩, hsr⟩ : ∃ s, mulIn y b k o b.length = s := ⟨_, rfl⟩
          rw [hsr] at h1 h2 hil hd ⊢
          simp only at h1 h2 hil hd ⊢
          have hn2 := HO.out
          rw [hsr] at hn2
          simp only at hn2
          obtain ⟨x, hx⟩ : ∃ x, s.getD (k + b.length) 0 = x := ⟨_, rfl⟩
          have hxl : x ≤ 536870912 := by rw [← hx]; exact h1 _
          have cs := hd.cell (k + b.length)
          rw [natV_get _ _ (by omega), hx] at cs
          have fs := hd.frozen (k + b.length)
          have hset := hd.set_ (k + b.length) (.int .i64 ((x + r : Nat)))
          rw [natV_set] at hset
          rw [hx] at hn2
          rw [← hn2] at hset
          have e1 : IntKind.i64.wrap ((x : Int) + r) = x + r := IntWalk.i64_in _ ⟨by omega, by omega⟩
          have e3 : IntKind.i64.wrap ((k : Int) + b.length) = k + b.length := IntWalk.i64_in _ ⟨by omega, by omega⟩
          have e4 : (0 : Int) ≤ (k : Int) + b.length := by omega
          have e5 : (k : Int) + b.length < L := by omega
          have e6 : ((k : Int) + b.length).toNat = k + b.length := by omega
          have q3 : decide ((b.length : Int) < b.length) = false := by simp
          have hb3 := below_at hbl (g := G) (by omega) (k + b.length) (.int .i64 ((x + r : Nat)))
          have HS := Lib.hid hset
          have HB3 := Lib.hid hb3
          clear hset hb3 hn2 hx hsr hd
          go_wp2
          go_round
          case rel => exact ⟨k + 1, by omega, by go_num, by first | exact HS.out | simpa using HS.out, by first | exact HB3.out | simpa using HB3.out⟩
          case measure => simp [intOf] <;> omega
    · have q1 : decide ((k : Int) < a.length) = false := decide_eq_false (by omega)
      have hkl : mulOut a b k = timesL a b := by rw [timesL, show k = a.length by omega]
      rw [hkl] at hd
      go_wp2
      subst hG
      go_ret
      exact ⟨rfl, hd, hbl⟩
end Go.Proofs.YtppckmfaidpliaaDoor
