/- Nodes of a tree: what they are, may be, and how large; plain part, and the contracts of plain, may, entry, Size, Check of package node. -/
import Derived.Test.YtiodeeliidhbgaaSs
import Derived.Deep.QuietTactic
import Derived.BigQuiet
namespace Go.Proofs.Ytiodeeliidhbgaa
open Go Go.RowKit
set_option linter.unusedSimpArgs false
set_option linter.unnecessarySimpa false
set_option linter.unusedVariables false

structure Nd where
  leaf : Bool
  keys : List (List UInt8)
  vals : List (List UInt8)
deriving DecidableEq
def kyB (k : List UInt8) : Bool := decide (1 ≤ k.length) && decide (k.length ≤ 300)
def plB (k v : List UInt8) : Bool := kyB k && decide (v.length ≤ 120)
/-- what stands at a place may stand there -/
def okB (ks vs : List (List UInt8)) (i : Nat) : Bool := plB (ks.getD i []) (vs.getD i []) && (decide (i = 0) || Op.bytesLess (ks.getD (i - 1) []) (ks.getD i []))
def mayB (n : Nd) : Bool := decide (n.keys.length = n.vals.length) && decide (n.keys.length ≤ 255) && (List.range n.keys.length).all (okB n.keys n.vals)
theorem mayB_iff (n : Nd) : mayB n = true ↔ n.keys.length = n.vals.length ∧ n.keys.length ≤ 255 ∧ ∀ i, i < n.keys.length → okB n.keys n.vals i = true := by
  simp [mayB, and_assoc]
theorem may_bad {n : Nd} {i : Nat} (hi : i < n.keys.length) (h : okB n.keys n.vals i = false) : mayB n = false := by
  rw [← Bool.not_eq_true, mayB_iff]
  rintro ⟨_, _, h3⟩
  rw [h3 i hi] at h
  cases h
/-- an entry's bytes -/
def entN (ks vs : List (List UInt8)) (i : Nat) : Nat := 3 + (ks.getD i []).length + (vs.getD i []).length
/-- the first k entries' bytes -/
def sumN (ks vs : List (List UInt8)) : Nat → Nat
  | 0 => 0
  | k + 1 => sumN ks vs k + entN ks vs k
def sizeN (n : Nd) : Nat := if mayB n then 2 + sumN n.keys n.vals n.keys.length else 0
def checkN (n : Nd) : Int := if mayB n then (if 960 < sizeN n then 13 else 0) else 1
theorem ent_le {n : Nd} (h : mayB n = true) {i : Nat} (hi : i < n.keys.length) : entN n.keys n.vals i ≤ 423 ∧ 4 ≤ entN n.keys n.vals i := by
  have := ((mayB_iff n).1 h).2.2 i hi
  simp only [okB, plB, kyB, Bool.and_eq_true, decide_eq_true_eq] at this
  unfold entN
  omega
theorem sum_le {n : Nd} (h : mayB n = true) : ∀ k, k ≤ n.keys.length → sumN n.keys n.vals k ≤ 423 * k ∧ 4 * k ≤ sumN n.keys n.vals k
  | 0, _ => ⟨Nat.le_refl _, Nat.le_refl _⟩
  | k + 1, hk => by
    have := sum_le h k (by omega)
    have := ent_le h (i := k) (by omega)
    rw [sumN]
    omega
theorem size_le (n : Nd) : sizeN n ≤ 107867 := by
  unfold sizeN
  split
  · rename_i h
    have := sum_le h n.keys.length (Nat.le_refl _)
    have := ((mayB_iff n).1 h).2.1
    omega
  · omega

/-- a node's value: its struct, its two lists to be read -/
def NdV (w : World) (v : Value) (n : Nd) : Prop := ∃ vk vv, v = .agg #[.bool n.leaf, vk, vv] ∧ SsAt w vk n.keys ∧ SsAt w vv n.vals
theorem NdV.below {w w' : World} {v : Value} {n : Nd} (h : NdV w v n) (hb : Below w.heap.size w w') : NdV w' v n := by
  obtain ⟨vk, vv, rfl, h1, h2⟩ := h
  exact ⟨vk, vv, rfl, h1.below hb, h2.below hb⟩
theorem SsAt.form {w : World} {v : Value} {l : List (List UInt8)} (h : SsAt w v l) : ∃ A c, v = .slice A l.length c := by
  obtain ⟨A, c, rfl, _⟩ := h
  exact ⟨A, c, rfl⟩
/-- a text's cell -/
theorem SsAt.cell {w w' : World} {A : Option Addr} {n c : Nat} {l : List (List UInt8)} (h : SsAt w (.slice A n c) l) (hb : Below w.heap.size w w') {j : Nat} (hj : j < l.length) : ∃ ad : Addr, A = some ad ∧ w'.cell? (ad.add j) = some (.string (bstr (l.getD j []))) := by
  obtain ⟨A', c', e, hA⟩ := h
  cases e
  obtain ⟨ad, e, hc⟩ := hA j hj
  exact ⟨ad, e, by rw [hb.cell (acell_lt hc)]; exact hc⟩

set_option maxHeartbeats 1000000 in
theorem plain_any (k v : List UInt8) (w : World) : Calls Try.prog 53 #[.string (bstr k), .string (bstr v)] w fun e w' => e = .returned (.bool (plB k v)) ∧ w' = w := by
  have hk : (bstr k).size = k.length := by simp [bstr, ByteArray.size]
  have hv : (bstr v).size = v.length := by simp [bstr, ByteArray.size]
  by_cases h1 : k = []
  · subst h1
    go_enter Try.func53, Try.ntmps53
    go_wp2
    go_ret
    exact ⟨rfl, rfl⟩
  · have h0 : 0 < k.length := List.length_pos_iff.2 h1
    have q0 : (k != []) = true := bne_iff_ne.2 h1
    by_cases h2 : k.length ≤ 300
    · have q1 : decide ((k.length : Int) ≤ 300) = true := decide_eq_true (by omega)
      by_cases h3 : v.length ≤ 120
      · have q2 : decide ((v.length : Int) ≤ 120) = true := decide_eq_true (by omega)
        go_enter Try.func53, Try.ntmps53
        go_wp2
        go_ret
        refine ⟨ret_bool ?_, rfl⟩
        simp [plB, kyB, h2, h3, h1, show 1 ≤ k.length from h0]
      · have q2 : decide ((v.length : Int) ≤ 120) = false := decide_eq_false (by omega)
        go_enter Try.func53, Try.ntmps53
        go_wp2
        go_ret
        refine ⟨ret_bool ?_, rfl⟩
        simp [plB, kyB, h2, h3]
    · have q1 : decide ((k.length : Int) ≤ 300) = false := decide_eq_false (by omega)
      go_enter Try.func53, Try.ntmps53
      go_wp2
      go_ret
      refine ⟨ret_bool ?_, rfl⟩
      simp [plB, kyB, h2]

set_option maxHeartbeats 4000000 in
theorem may_any (v : Value) (n : Nd) (w : World) (h : NdV w v n) (hk : n.keys.length ≤ 1000000) (hv : n.vals.length ≤ 1000000) :
    Calls Try.prog 40 #[v] w fun e w' => e = .returned (.bool (mayB n)) ∧ Below w.heap.size w w' := by
  obtain ⟨vk, vv, rfl, h1, h2⟩ := h
  obtain ⟨A, c, rfl⟩ := h1.form
  obtain ⟨C, d, rfl⟩ := h2.form
  obtain ⟨leaf, ks, vs⟩ := n
  simp only at h1 h2 hk hv ⊢
  have H1 := Lib.hid h1
  have H2 := Lib.hid h2
  obtain ⟨w0, hw0⟩ : ∃ x, w.alloc (.cells #[.bool leaf, .slice A ks.length c, .slice C vs.length d] 30) = x := ⟨_, rfl⟩
  obtain ⟨G, hG⟩ : ∃ x, w.heap.size = x := ⟨_, rfl⟩
  have hb0 : Blk w0 G 30 #[.bool leaf, .slice A ks.length c, .slice C vs.length d] := by rw [← hw0, ← hG]; exact Blk.new _ _ _
  have k0 : Below w.heap.size w w0 := by rw [← hw0]; exact (Below.refl _ _).alloc (Nat.le_refl _) _
  have y1 := hb0.cell 1
  have y2 := hb0.cell 2
  simp at y1 y2
  have kG : Below G w w0 := hG ▸ k0
  clear h1 h2
  by_cases hl : ks.length = vs.length
  · obtain ⟨n, hn⟩ : ∃ n, ks.length = n := ⟨_, rfl⟩
    have hn2 : vs.length = n := by omega
    have HN := Lib.hid hn
    have HN2 := Lib.hid hn2
    by_cases h255 : n ≤ 255
    · have q0 : decide ((n : Int) > 255) = false := decide_eq_false (by omega)
      have hmay : mayB ⟨leaf, ks, vs⟩ = (List.range n).all (okB ks vs) := by
        unfold mayB
        simp only [hn, hn2, h255, decide_true, Bool.true_and]
      have HM := Lib.hid hmay
      rw [hn] at y1
      rw [hn2] at y2
      have HW0 := Lib.hid hw0
      have HG := Lib.hid hG
      rw [hn, hn2]
      rw [hn, hn2] at hw0
      clear hmay hn hn2 hl hb0
      go_enter Try.func40, Try.ntmps40
      go_wp2_with fail
      go_loop [21] (fun i => ∃ k : Nat, k ≤ n ∧ i = .int .i64 k ∧ Hid (∀ j, j < k → okB ks vs j = true)) (fun i => n - (intOf i).toNat)
      case atStart => exact ⟨0, Nat.zero_le _, rfl, Lib.hid (fun j hj => by omega)⟩
      case round =>
        obtain ⟨k, hkn, rfl, HA⟩ := hrel
        by_cases hlt : k < n
        · have q1 : decide ((k : Int) < n) = true := decide_eq_true (by omega)
          have T0 : (0 : Int) ≤ k := by omega
          have T1 : (k : Int) < n := by omega
          obtain ⟨ad, rfl, c1⟩ := H1.out.cell k0 (j := k) (by rw [HN.out]; exact hlt)
          obtain ⟨bd, rfl, c2⟩ := H2.out.cell k0 (j := k) (by rw [HN2.out]; exact hlt)
          have hok : okB ks vs k = (plB (ks.getD k []) (vs.getD k []) && (decide (k = 0) || Op.bytesLess (ks.getD (k - 1) []) (ks.getD k []))) := rfl
          obtain ⟨X, hX⟩ : ∃ y, ks.getD k [] = y := ⟨_, rfl⟩
          obtain ⟨Y, hY⟩ : ∃ y, vs.getD k [] = y := ⟨_, rfl⟩
          rw [hX] at c1 hok
          rw [hY] at c2 hok
          have HNO : okB ks vs k = false → Hid (mayB ⟨leaf, ks, vs⟩ = false) := fun e => Lib.hid (may_bad (n := ⟨leaf, ks, vs⟩) (by show k < ks.length; rw [HN.out]; exact hlt) e)
          have HNX : okB ks vs k = true → Hid (∀ j, j < k + 1 → okB ks vs j = true) := fun e => Lib.hid (fun j hj => by
            by_cases hjk : j = k
            · rw [hjk]; exact e
            · exact HA.out j (by omega))
          clear hX hY
          by_cases hp : plB X Y = true
          · by_cases hk0 : k = 0
            · have q2 : decide ((k : Int) > 0) = false := decide_eq_false (by omega)
              have q3 : ¬ 0 < k := by omega
              have q4 : ¬ (0 : Int) < k := by omega
              have HX := HNX (by rw [hok, hp, decide_eq_true hk0]; rfl)
              clear HNO HNX hok hk0
              go_wp2_with (go_at_call 53; refine (plain_any X Y _).mono ?_; rintro e w2 ⟨rfl, rfl⟩; rw [hp])
              go_round
              case rel => exact ⟨k + 1, by omega, by go_num, HX⟩
              case measure => simp [intOf]; omega
            · have q2 : decide ((k : Int) > 0) = true := decide_eq_true (by omega)
              have T2 : (0 : Int) ≤ k - 1 := by omega
              have T3 : (1 : Int) ≤ k := by omega
              have T4 : (k : Int) - 1 < n := by omega
              obtain ⟨ad', e', c3⟩ := H1.out.cell k0 (j := k - 1) (by rw [HN.out]; omega)
              cases e'
              have hnn : ((k : Int) - 1).toNat = k - 1 := by omega
              obtain ⟨Z, hZ⟩ : ∃ y, ks.getD (k - 1) [] = y := ⟨_, rfl⟩
              rw [hZ] at c3 hok
              clear hZ
              cases hls : Op.bytesLess Z X
              · have HX := HNO (by rw [hok, hp, hls, decide_eq_false hk0]; rfl)
                clear HNO HNX hok hk0
                go_wp2_with (go_at_call 53; refine (plain_any X Y _).mono ?_; rintro e w2 ⟨rfl, rfl⟩; rw [hp])
                go_ret
                exact ⟨by rw [HX.out]; rfl, by first | exact k0 | exact kG⟩
              · have HX := HNX (by rw [hok, hp, hls]; simp)
                clear HNO HNX hok hk0
                go_wp2_with (go_at_call 53; refine (plain_any X Y _).mono ?_; rintro e w2 ⟨rfl, rfl⟩; rw [hp])
                go_round
                case rel => exact ⟨k + 1, by omega, by go_num, HX⟩
                case measure => simp [intOf]; omega
          · have hp : plB X Y = false := by simpa using hp
            have HX := HNO (by rw [hok, hp]; rfl)
            clear HNO HNX hok
            go_wp2_with (go_at_call 53; refine (plain_any X Y _).mono ?_; rintro e w2 ⟨rfl, rfl⟩; rw [hp])
            go_ret
            exact ⟨by rw [HX.out]; rfl, by first | exact k0 | exact kG⟩
        · obtain rfl : k = n := by omega
          have q1 : decide ((k : Int) < k) = false := by simp
          have HX : Hid (mayB ⟨leaf, ks, vs⟩ = true) := Lib.hid (by rw [HM.out, List.all_eq_true]; intro j hj; exact HA.out j (List.mem_range.1 hj))
          go_wp2
          go_ret
          exact ⟨by rw [HX.out]; rfl, by first | exact k0 | exact kG⟩
    · have q0 : decide ((n : Int) > 255) = true := decide_eq_true (by omega)
      have HX : Hid (mayB ⟨leaf, ks, vs⟩ = false) := Lib.hid (by unfold mayB; simp only [hn, hn2, decide_eq_false h255, decide_true, Bool.and_false, Bool.false_and])
      rw [hn] at y1
      rw [hn2] at y2
      rw [hn, hn2]
      rw [hn, hn2] at hw0
      clear hn hn2 hl hb0
      go_enter Try.func40, Try.ntmps40
      go_wp2
      go_ret
      exact ⟨by rw [HX.out]; rfl, by first | exact k0 | exact kG⟩
  · have q0 : ((ks.length : Int) != vs.length) = true := bne_iff_ne.2 (by omega)
    have HX : Hid (mayB ⟨leaf, ks, vs⟩ = false) := Lib.hid (by unfold mayB; simp only [hl, decide_false, Bool.false_and])
    clear hb0 hl
    go_enter Try.func40, Try.ntmps40
    go_wp2
    go_ret
    exact ⟨by rw [HX.out]; rfl, by first | exact k0 | exact kG⟩
end Go.Proofs.Ytiodeeliidhbgaa
