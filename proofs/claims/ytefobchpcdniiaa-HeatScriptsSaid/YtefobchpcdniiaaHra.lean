/- The reference of package heat: counts in memory; Worth, find, Value: contracts. -/
import Derived.Test.YtefobchpcdniiaaHh
namespace Go.Proofs.Ytefobchpcdniiaa
open Go Go.RowKit Go.Maps
set_option linter.unusedSimpArgs false
set_option linter.unnecessarySimpa false
set_option linter.unusedVariables false

/-- a count's cells -/
def cnV (c : Cn) : List Value := [.string (bstr c.key), .int .i64 c.n, .int .i64 c.tick]
def cnsV (L : List Cn) : List Value := L.flatMap cnV
theorem cnsV_snoc (L : List Cn) (c : Cn) : cnsV (L ++ [c]) = cnsV L ++ cnV c := by simp [cnsV]
theorem cnsV_len (L : List Cn) : (cnsV L).length = L.length * 3 := by
  induction L with
  | nil => rfl
  | cons c L ih => simp [cnsV, cnV] at ih ⊢; omega
theorem cnsV_get : ∀ (l : List Cn) (i : Nat) (h : i < l.length), (cnsV l)[i * 3]? = some (.string (bstr l[i].key)) ∧ (cnsV l)[i * 3 + 1]? = some (.int .i64 l[i].n) ∧ (cnsV l)[i * 3 + 2]? = some (.int .i64 l[i].tick)
  | a :: l, 0, _ => by simp [cnsV, cnV]
  | a :: l, i + 1, h => by
    have := cnsV_get l i (by simpa using h)
    have e : cnsV (a :: l) = .string (bstr a.key) :: .int .i64 a.n :: .int .i64 a.tick :: cnsV l := rfl
    rw [e, show (i + 1) * 3 = i * 3 + 1 + 1 + 1 by omega]
    simpa using this
/-- the reference's counts: the struct in g, its row -/
def RfAt (w : World) (g : Nat) (v : Value) (L : List Cn) : Prop := Blk w g 29 #[v] ∧ w.ownsRow 0 56 3 v L.length (cnsV L) ∧ ∀ c ∈ L, c.ok
theorem RfAt.form {w : World} {g : Nat} {v : Value} {L : List Cn} (h : RfAt w g v L) : ∃ A c, v = .slice A L.length c := by
  rcases h.2.1.2 with ⟨rfl, e⟩ | ⟨g, cap, cur, rfl, _⟩
  · exact ⟨_, _, by rw [e]⟩
  · exact ⟨_, _, rfl⟩
theorem RfAt.moved {w w' : World} {g : Nat} {v : Value} {L : List Cn} (h : RfAt w g v L) (hb : ∀ k, k = g ∨ v.ownBlock = some k → w'.heap[k]? = w.heap[k]?) : RfAt w' g v L :=
  ⟨(hb g (.inl rfl)).trans h.1, row_moved h.2.1 (fun k e => hb k (.inr e)), h.2.2⟩
theorem RfAt.lt {w : World} {g k : Nat} {v : Value} {L : List Cn} (h : RfAt w g v L) (hk : k = g ∨ v.ownBlock = some k) : k < w.heap.size := by
  rcases hk with rfl | hk
  · exact h.1.lt
  · exact (h.2.1.lt k hk).2
theorem RfAt.below {w w' : World} {g : Nat} {v : Value} {L : List Cn} (h : RfAt w g v L) (b : Below w.heap.size w w') : RfAt w' g v L := h.moved (fun k e => b.block k (h.lt e))
theorem RfAt.keep {w w' : World} {B g : Nat} {S : Nat → Prop} {v : Value} {L : List Cn} (h : RfAt w g v L) (hk : Keep B S w w') (hS : ∀ k, k = g ∨ v.ownBlock = some k → k < B ∧ ¬ S k) : RfAt w' g v L := h.moved (fun k e => hk.block k (hS k e).1 (hS k e).2)
theorem RfAt.ne {w : World} {g : Nat} {v : Value} {L : List Cn} (h : RfAt w g v L) : v.ownBlock ≠ some g := row_ne h.2.1 h.1 (by decide)
/-- the row is there, where the list has a count -/
theorem RfAt.row {w : World} {g : Nat} {v : Value} {L : List Cn} (h : RfAt w g v L) (h0 : 0 < L.length) : ∃ b c, v = .slice (some ⟨b, 0, none⟩) L.length c ∧ w.ownsRow 0 56 3 (.slice (some ⟨b, 0, none⟩) L.length c) L.length (cnsV L) := by
  have := h.2.1
  rcases this.2 with ⟨rfl, e⟩ | ⟨g, cap, cur, rfl, _⟩
  · omega
  · exact ⟨_, _, rfl, this⟩

theorem half_go (n : Int) (h : 0 ≤ n) (j : Nat) : n / 2 ^ j / 2 = n / 2 ^ (j + 1) := (half_step n j h).symm
set_option maxHeartbeats 2000000 in
theorem rworth_any (c : Cn) (now : Int) (hc : c.ok) (hw : (Lit.int .i64 now).wf = true) (w : World) :
    Calls Try.prog 23 #[.agg #[.string (bstr c.key), .int .i64 c.n, .int .i64 c.tick], .int .i64 now] w fun e w' => e = .returned (.int .i64 (worthH c.n c.tick now)) ∧ Below w.heap.size w w' := by
  obtain ⟨key, n, tick⟩ := c
  obtain ⟨hn, hn1, ht, _⟩ := hc
  simp only at hn hn1 ht ⊢
  have ht := bounds_i64 ht
  have hw := bounds_i64 hw
  by_cases h1 : now ≤ tick
  · go_enter Try.func23, Try.ntmps23
    go_wp2
    go_ret
    refine ⟨?_, (Below.refl _ _).alloc (Nat.le_refl _) _⟩
    simp [worthH, h1]
  · obtain ⟨p, hp⟩ : ∃ p : Nat, now - tick = p := ⟨(now - tick).toNat, by omega⟩
    have e1 : IntKind.u64.wrap (IntKind.u64.wrap now - IntKind.u64.wrap tick) = p := by simp only [IntKind.wrap_u64]; omega
    have e2 : (now % 18446744073709551616 - tick % 18446744073709551616) % 18446744073709551616 = p := by omega
    have hp1 : p < 18446744073709551616 := by omega
    go_enter Try.func23, Try.ntmps23
    go_wp2_with fail
    obtain ⟨w0, hw0⟩ : ∃ x, w.alloc (.cells #[.string (bstr key), .int .i64 n, .int .i64 tick] 56) = x := ⟨_, rfl⟩
    have bx : Below w.heap.size w w0 := by rw [← hw0]; exact (Below.refl _ _).alloc (Nat.le_refl _) _
    rw [hw0]
    clear hw0
    go_loopw [5, 7] (fun x i wr => ∃ j : Nat, j ≤ p ∧ j ≤ 30 ∧ i = .int .u64 j ∧ x = .int .i64 (n / 2 ^ j) ∧ wr = w0) (fun _ i _ => 30 - (intOf i).toNat)
    case atStart => exact ⟨0, by omega, by omega, rfl, by simp, rfl⟩
    case round =>
      obtain ⟨j, hj, hj2, rfl, rfl, rfl⟩ := hrel
      have hx := half_go n hn j
      have hx1 : 0 ≤ n / 2 ^ j := Int.ediv_nonneg hn (Int.le_of_lt (by exact_mod_cast Nat.pow_pos (by decide : 0 < 2)))
      have hx2 : n / 2 ^ j ≤ n := Int.ediv_le_self _ hn
      have hwo : worthH n tick now = if (p : Int) < 30 then n / 2 ^ p else 0 := by unfold worthH; rw [if_neg (by omega), hp]; rfl
      obtain ⟨x, hxe⟩ : ∃ x, n / 2 ^ j = x := ⟨_, rfl⟩
      rw [hxe] at hx hx1 hx2 ⊢
      by_cases hlt : j < p
      · have q1 : decide ((j : Int) < (p : Int)) = true := decide_eq_true (by omega)
        by_cases h30 : j < 30
        · have q2 : decide ((j : Int) < 30) = true := decide_eq_true (by omega)
          have HX := Lib.hid hx
          clear hx hxe hwo e1 e2 hp
          go_wp2
          go_roundw
          case rel => exact ⟨j + 1, by omega, by omega, by go_num, by rw [← HX.out], by simp⟩
          case measure => simp [intOf]; omega
        · have q2 : decide ((j : Int) < 30) = false := decide_eq_false (by omega)
          have q3 : decide ((30 : Int) ≤ (p : Int)) = true := decide_eq_true (by omega)
          rw [if_neg (by omega)] at hwo
          have HW := Lib.hid hwo
          clear hx hxe hwo e1 e2 hp
          go_wp2
          go_ret
          exact ⟨by rw [HW.out]; rfl, bx⟩
      · have q1 : decide ((j : Int) < (p : Int)) = false := decide_eq_false (by omega)
        obtain rfl : j = p := by omega
        by_cases h30 : j < 30
        · have q3 : decide ((30 : Int) ≤ (j : Int)) = false := decide_eq_false (by omega)
          rw [if_pos (by omega), hxe] at hwo
          have HW := Lib.hid hwo
          clear hx hxe hwo e1 e2 hp
          go_wp2
          go_ret
          exact ⟨by rw [HW.out]; rfl, bx⟩
        · have q3 : decide ((30 : Int) ≤ (j : Int)) = true := decide_eq_true (by omega)
          rw [if_neg (by omega)] at hwo
          have HW := Lib.hid hwo
          clear hx hxe hwo e1 e2 hp
          go_wp2
          go_ret
          exact ⟨by rw [HW.out]; rfl, bx⟩
end Go.Proofs.Ytefobchpcdniiaa
