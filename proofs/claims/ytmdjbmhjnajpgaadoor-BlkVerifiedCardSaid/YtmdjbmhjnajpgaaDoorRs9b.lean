/- Several texts in one. The reference of package sum: words in 64 bits: word, turn. The reference of package sum: digits, Hex. The reference of package sum: above. The reference of package sum: times: what it computes, and how great its digits get. The reference of package sum: times: its contract. The reference of package sum: primes: its contract at 64. The reference of package sum: root: what it computes. The reference of package sum: the cube roots of some primes. Written by wip/gen_roots.py. The reference of package sum: the cube roots of some primes. Written by wip/gen_roots.py. The reference of package sum: the cube roots of some primes. Written by wip/gen_roots.py. The reference of package sum: root: plain part, how great the digits get. The reference of package sum: root: its contract. Written by wip/gen_root.py. -/
import Derived.Test.YtmdjbmhjnajpgaaDoorSm5
import Derived.IntWalk
import Derived.Deep.DeepMust
namespace Go.Proofs.YtmdjbmhjnajpgaaDoor
open Go.RowKit
set_option linter.unusedSimpArgs false
set_option linter.unnecessarySimpa false
set_option linter.unusedVariables false

theorem w64 (x : BitVec 32) : BitVec.ofInt 64 (u x) = x.setWidth 64 := by
  apply BitVec.eq_of_toNat_eq
  have := x.isLt
  unfold u
  simp
theorem w64_wrap (x : BitVec 32) : IntKind.i64.wrap (((x.setWidth 64).toNat : Nat) : Int) = u x := by
  have := x.isLt
  have e : (x.setWidth 64).toNat = x.toNat := by rw [BitVec.toNat_setWidth]; omega
  rw [e, IntWalk.i64_in _ ⟨by omega, by omega⟩]
  rfl
theorem x_xor (x y : BitVec 32) : bits .xor .i64 (u x) (u y) = u (x ^^^ y) := by
  show IntKind.i64.wrap ((BitVec.ofInt 64 (u x) ^^^ BitVec.ofInt 64 (u y)).toNat : Int) = _
  rw [w64, w64, ← BitVec.setWidth_xor]; exact w64_wrap _
theorem x_and (x y : BitVec 32) : bits .and .i64 (u x) (u y) = u (x &&& y) := by
  show IntKind.i64.wrap ((BitVec.ofInt 64 (u x) &&& BitVec.ofInt 64 (u y)).toNat : Int) = _
  rw [w64, w64, ← BitVec.setWidth_and]; exact w64_wrap _
theorem x_or (x y : BitVec 32) : bits .or .i64 (u x) (u y) = u (x ||| y) := by
  show IntKind.i64.wrap ((BitVec.ofInt 64 (u x) ||| BitVec.ofInt 64 (u y)).toNat : Int) = _
  rw [w64, w64, ← BitVec.setWidth_or]; exact w64_wrap _
/-- two words without a bit in common -/
theorem x_not (x : BitVec 32) : 4294967295 - u x = u (~~~ x) := by
  have := x.isLt
  unfold u
  rw [BitVec.toNat_not]
  omega
/-- the reference's choice and majority are the program's -/
theorem ch_or (e f g : BitVec 32) : (e &&& f) ||| (~~~ e &&& g) = (e &&& f) ^^^ (~~~ e &&& g) := by
  apply BitVec.eq_of_getLsbD_eq
  intro i hi
  simp only [BitVec.getLsbD_or, BitVec.getLsbD_and, BitVec.getLsbD_xor, BitVec.getLsbD_not]
  cases e.getLsbD i <;> cases f.getLsbD i <;> cases g.getLsbD i <;> simp [hi]
theorem maj_or (a b c : BitVec 32) : ((a &&& b) ||| (a &&& c)) ||| (b &&& c) = ((a &&& b) ^^^ (a &&& c)) ^^^ (b &&& c) := by
  apply BitVec.eq_of_getLsbD_eq
  intro i hi
  simp only [BitVec.getLsbD_or, BitVec.getLsbD_and, BitVec.getLsbD_xor]
  cases a.getLsbD i <;> cases b.getLsbD i <;> cases c.getLsbD i <;> rfl

set_option maxHeartbeats 1000000 in
theorem word_to (n : Int) (x : BitVec 32) (h0 : 0 ≤ n) (h : n % 4294967296 = u x) (w : World) :
    Calls Tryd.prog 59 #[.int .i64 n] w fun e w' => e = .returned (.int .i64 (u x)) ∧ ∃ m, w' = w.drewN m := by
  have ht : n.tmod 4294967296 = u x := by rw [Int.tmod_eq_emod_of_nonneg h0, h]
  have hl := u_lo x
  have hh := u_hi x
  go_enter Tryd.func59, Tryd.ntmps59
  go_wp2
  go_ret
  exact ⟨rfl, 0, rfl⟩

set_option maxHeartbeats 1000000 in
theorem turn_any (x : BitVec 32) (k : Nat) (h2 : 2 ≤ k) (hk : k ≤ 32) (w : World) :
    Calls Tryd.prog 60 #[.int .i64 (u x), .int .i64 k] w fun e w' => e = .returned (.int .i64 (u (rotr x k))) ∧ ∃ m, w' = w.drewN m := by
  have h0 := u_lo x
  have h1 := u_hi x
  have e1 := u_shr x k
  have e2 := u_shl x (32 - k)
  have hp : (2 : Int) ^ (32 - k) ≤ 1073741824 := by
    have : (2 : Nat) ^ (32 - k) ≤ 1073741824 := Nat.pow_le_pow_right (n := 2) (j := 30) (by decide) (by omega)
    have h3 : ((2 ^ (32 - k) : Nat) : Int) ≤ 1073741824 := Int.ofNat_le.2 this
    rwa [Int.natCast_pow] at h3
  have hp0 : (0 : Int) < 2 ^ (32 - k) := by
    have : ((0 : Nat) : Int) < ((2 ^ (32 - k) : Nat) : Int) := Int.ofNat_lt.2 (Nat.pow_pos (by decide))
    rwa [Int.natCast_pow] at this
  have hm0 : 0 ≤ u x * (2 : Int) ^ (32 - k) := Int.mul_nonneg h0 (Int.le_of_lt hp0)
  have hm1 : u x * (2 : Int) ^ (32 - k) ≤ 4294967296 * 1073741824 := Int.mul_le_mul (Int.le_of_lt h1) hp (Int.le_of_lt hp0) (by decide)
  have e5 : IntKind.i64.wrap (u x * (2 : Int) ^ (32 - k)) = u x * (2 : Int) ^ (32 - k) := IntWalk.i64_in _ ⟨by omega, by omega⟩
  have e6 : (u x * (2 : Int) ^ (32 - k)).tmod 4294967296 = u (x <<< (32 - k)) := by rw [Int.tmod_eq_emod_of_nonneg hm0, e2]
  have e3 := x_or (x >>> k) (x <<< (32 - k))
  have e4 : ((32 : Int) - k).toNat = 32 - k := by omega
  have e7 : (k : Int) % 18446744073709551616 = k := by omega
  have e8 : ((32 : Int) - k) % 18446744073709551616 = 32 - k := by omega
  have e9 : IntKind.i64.wrap ((32 : Int) - k) = 32 - k := IntWalk.i64_in _ ⟨by omega, by omega⟩
  go_enter Tryd.func60, Tryd.ntmps60
  go_wp2
  go_ret
  exact ⟨rfl, 0, rfl⟩
end Go.Proofs.YtmdjbmhjnajpgaaDoor
namespace Go.Proofs.YtmdjbmhjnajpgaaDoor
open Go.RowKit
set_option linter.unusedSimpArgs false
set_option linter.unnecessarySimpa false
set_option linter.unusedVariables false

/-- cells of numbers -/
def natV (l : List Nat) : List Value := l.map fun z => Value.int .i64 (z : Nat)
def digL (n : Nat) : Nat → List Nat
  | 0 => []
  | k + 1 => digL n k ++ [n / 65536 ^ k % 65536]
theorem digL_len (n : Nat) : ∀ k, (digL n k).length = k
  | 0 => rfl
  | k + 1 => by rw [digL, List.length_append, digL_len n k]; rfl
theorem int_info : (Tryd.prog.info? 3).map (fun i => (i.zero, i.size, i.bytes)) = some (some (.int .i64 0), 1, 8) := by kernel_rfl

set_option maxHeartbeats 1000000 in
theorem digits_any (n many : Nat) (hn : n < 4611686018427387904) (hm : many ≤ 100) (w : World) :
    Calls Tryd.prog 56 #[.int .i64 n, .int .i64 many] w fun e w' => ∃ v, e = .returned v ∧ w'.ownsRow w.heap.size 3 1 v many (natV (digL n many)) ∧ Below w.heap.size w w' := by
  go_enter Tryd.func56, Tryd.ntmps56
  go_wp2_with fail
  go_loopw [0, 5, 6] (fun z v i wr => ∃ k : Nat, k ≤ many ∧ i = .int .i64 k ∧ z = .int .i64 (n / 65536 ^ k : Nat) ∧ wr.ownsRow w.heap.size 3 1 v k (natV (digL n k)) ∧ Below w.heap.size w wr) (fun _ _ i _ => many - (intOf i).toNat)
  case atStart => exact ⟨0, by omega, rfl, by simp, World.ownsRow_nil _ _ _ _, Below.refl _ _⟩
  case round =>
    obtain ⟨k, hk, rfl, rfl, hown, hbl⟩ := hrel
    have hp2 : n / 65536 ^ k ≤ n := Nat.div_le_self _ _
    obtain ⟨p, hpe⟩ : ∃ p, n / 65536 ^ k = p := ⟨_, rfl⟩
    rw [hpe] at hp2 ⊢
    have HP := Lib.hid hpe
    clear hpe
    by_cases hlt : k < many
    · have hsz := hbl.size
      go_wp2_with (at_builtin; refine wpList_app (P := Tryd.prog) _ rfl _ _ 80 rfl w.heap.size 3 (.int .i64 0) 1 8 Tryd.underlying80 int_info rfl (by decide) _ k _ rfl hown _ rfl rfl ?c1 ?c2 ?c3 hsz ?_)
      case c1 => intro u hu; simp at hu; subst hu; rfl
      case c2 => unfold maxLen; omega
      case c3 => omega
      intro v' w1 hown1 _ hb1
      have e1 : natV (digL n k) ++ [Value.int .i64 ((p : Int) % 65536)] = natV (digL n (k + 1)) := by
        rw [digL, HP.out]
        simp [natV]
      rw [e1] at hown1
      clear e1
      go_wp2
      go_roundw
      case rel => exact ⟨k + 1, by omega, by go_num, by rw [Nat.pow_succ, ← Nat.div_div_eq_div_mul, HP.out]; go_num, hown1, hbl.trans hb1⟩
      case measure => simp [intOf]; omega
    · obtain rfl : k = many := by omega
      go_wp2
      go_ret
      exact ⟨_, rfl, hown, hbl⟩
end Go.Proofs.YtmdjbmhjnajpgaaDoor
namespace Go.Proofs.YtmdjbmhjnajpgaaDoor
open Go.RowKit
set_option linter.unusedSimpArgs false
set_option linter.unnecessarySimpa false
set_option linter.unusedVariables false

/-- a slice of these numbers, to be read -/
def NumsAt (w : World) (v : Value) (l : List Nat) : Prop := ∃ g c, v = .slice (some ⟨g, 0, none⟩) l.length c ∧ ∀ j, j < l.length → w.cell? ⟨g, j, none⟩ = some (.int .i64 (l.getD j 0 : Nat))
def aboveN (a b : List Nat) : Nat → Bool
  | 0 => false
  | i + 1 => if a.getD i 0 ≠ b.getD i 0 then decide (b.getD i 0 < a.getD i 0) else aboveN a b i

set_option maxHeartbeats 2000000 in
theorem above_any (a b : List Nat) (va vb : Value) (ha : a.length ≤ 1000) (hb : b.length ≤ 1000) (w : World) (h1 : NumsAt w va a) (h2 : NumsAt w vb b) :
    Calls Tryd.prog 58 #[va, vb] w fun e w' => e = .returned (.bool (aboveN a b (max a.length b.length))) ∧ w' = w := by
  obtain ⟨g, c, rfl, hA⟩ := h1
  obtain ⟨g', c', rfl, hB⟩ := h2
  have HA := Lib.hid hA
  have HB := Lib.hid hB
  clear hA hB
  obtain ⟨m, hm⟩ : ∃ m, max a.length b.length = m := ⟨_, rfl⟩
  have hml : m ≤ 1000 := by omega
  have hmx : (if (a.length : Int) < b.length then (b.length : Int) else a.length) = m := by split <;> omega
  have hmx2 : max (a.length : Int) (b.length : Int) = m := by omega
  rw [hm]
  have HM := Lib.hid hm
  clear hm
  go_enter Tryd.func58, Tryd.ntmps58
  go_wp2_with fail
  go_loopw [5] (fun i wr => ∃ k : Nat, ∃ z : Int, k ≤ m ∧ z = (k : Int) - 1 ∧ i = .int .i64 z ∧ aboveN a b k = aboveN a b m ∧ wr = w) (fun i _ => (intOf i + 1).toNat)
  case atStart => exact ⟨m, _, Nat.le_refl _, rfl, by go_num, rfl, rfl⟩
  case round =>
    obtain ⟨k, z, hk, hz, rfl, hR, rfl⟩ := hrel
    have HR := Lib.hid hR
    clear hR
    cases k with
    | zero =>
      obtain rfl : z = -1 := by omega
      clear hz
      have hR2 : aboveN a b m = false := by rw [← HR.out]; rfl
      have HR2 := Lib.hid hR2
      clear hR2
      go_wp2
      go_ret
      exact ⟨by rw [HR2.out]; first | rfl | (simp [Int.ofNat_lt]; done) | simp, rfl⟩
    | succ j =>
      obtain rfl : z = (j : Int) := by omega
      clear hz
      have hj0 : (0 : Int) ≤ j := by omega
      have q1 : decide ((j : Int) ≥ 0) = true := decide_eq_true (by omega)
      obtain ⟨X, hX⟩ : ∃ X, a.getD j 0 = X := ⟨_, rfl⟩
      obtain ⟨Y, hY⟩ : ∃ Y, b.getD j 0 = Y := ⟨_, rfl⟩
      have HX := Lib.hid hX
      have HY := Lib.hid hY
      by_cases ja : j < a.length
      · have q2 : decide ((j : Int) < a.length) = true := decide_eq_true (by omega)
        have cA := HA.out j ja
        rw [hX] at cA
        by_cases jb : j < b.length
        · have q3 : decide ((j : Int) < b.length) = true := decide_eq_true (by omega)
          have cB := HB.out j jb
          rw [hY] at cB
          clear hX hY
          by_cases hne : (X : Int) = Y
          · have q4 : ((X : Int) != Y) = false := bne_eq_false_iff_eq.2 hne
            have hR2 : aboveN a b j = aboveN a b m := by rw [← HR.out, aboveN, HX.out, HY.out, if_neg (by omega)]
            have HR2 := Lib.hid hR2
            clear hR2
            go_wp2
            go_round
            case rel => exact ⟨j, (j : Int) - 1, by omega, rfl, by go_num, HR2.out, by first | rfl | trivial⟩
            case measure => simp [intOf] <;> omega
          · have q4 : ((X : Int) != Y) = true := bne_iff_ne.2 hne
            have hR2 : aboveN a b m = decide ((Y : Int) < X) := by
              rw [← HR.out, aboveN, HX.out, HY.out, if_pos (by omega)]
              exact decide_eq_decide.2 (by omega)
            have HR2 := Lib.hid hR2
            clear hR2
            go_wp2
            go_ret
            exact ⟨by rw [HR2.out]; first | rfl | (simp [Int.ofNat_lt]; done) | simp, rfl⟩
        · have q3 : decide ((j : Int) < b.length) = false := decide_eq_false (by omega)
          obtain rfl : Y = 0 := by rw [← hY]; simp [List.getD, Nat.le_of_not_lt jb]
          clear hX hY
          by_cases hne : (X : Int) = 0
          · have q4 : ((X : Int) != 0) = false := bne_eq_false_iff_eq.2 hne
            have hR2 : aboveN a b j = aboveN a b m := by rw [← HR.out, aboveN, HX.out, HY.out, if_neg (by omega)]
            have HR2 := Lib.hid hR2
            clear hR2
            go_wp2
            go_round
            case rel => exact ⟨j, (j : Int) - 1, by omega, rfl, by go_num, HR2.out, by first | rfl | trivial⟩
            case measure => simp [intOf] <;> omega
          · have q4 : ((X : Int) != 0) = true := bne_iff_ne.2 hne
            have hR2 : aboveN a b m = decide ((0 : Int) < X) := by
              rw [← HR.out, aboveN, HX.out, HY.out, if_pos (by omega)]
              exact decide_eq_decide.2 (by omega)
            have HR2 := Lib.hid hR2
            clear hR2
            go_wp2
            go_ret
            exact ⟨by rw [HR2.out]; first | rfl | (simp [Int.ofNat_lt]; done) | simp, rfl⟩
      · have q2 : decide ((j : Int) < a.length) = false := decide_eq_false (by omega)
        obtain rfl : X = 0 := by rw [← hX]; simp [List.getD, Nat.le_of_not_lt ja]
        by_cases jb : j < b.length
        · have q3 : decide ((j : Int) < b.length) = true := decide_eq_true (by omega)
          have cB := HB.out j jb
          rw [hY] at cB
          clear hX hY
          by_cases hne : (0 : Int) = Y
          · have q4 : ((0 : Int) != Y) = false := bne_eq_false_iff_eq.2 hne
            have hR2 : aboveN a b j = aboveN a b m := by rw [← HR.out, aboveN, HX.out, HY.out, if_neg (by omega)]
            have HR2 := Lib.hid hR2
            clear hR2
            go_wp2
            go_round
            case rel => exact ⟨j, (j : Int) - 1, by omega, rfl, by go_num, HR2.out, by first | rfl | trivial⟩
            case measure => simp [intOf] <;> omega
          · have q4 : ((0 : Int) != Y) = true := bne_iff_ne.2 hne
            have hR2 : aboveN a b m = decide ((Y : Int) < 0) := by
              rw [← HR.out, aboveN, HX.out, HY.out, if_pos (by omega)]
              exact decide_eq_decide.2 (by omega)
            have HR2 := Lib.hid hR2
            clear hR2
            go_wp2
            go_ret
            exact ⟨by rw [HR2.out]; first | rfl | (simp [Int.ofNat_lt]; done) | simp, rfl⟩
        · exact absurd HM.out (by omega)
end Go.Proofs.YtmdjbmhjnajpgaaDoor
namespace Go.Proofs.YtmdjbmhjnajpgaaDoor
open Go.RowKit
set_option linter.unusedSimpArgs false
set_option linter.unnecessarySimpa false
set_option linter.unusedVariables false

/-- one digit times a number, added from place i on: j digits are done; the digits, and what is carried -/
def mulIn (ai : Nat) (b : List Nat) (i : Nat) (o : List Nat) : Nat → List Nat × Nat
  | 0 => (o, 0)
  | j + 1 => ((mulIn ai b i o j).1.set (i + j) (((mulIn ai b i o j).1.getD (i + j) 0 + ai * b.getD j 0 + (mulIn ai b i o j).2) % 65536), ((mulIn ai b i o j).1.getD (i + j) 0 + ai * b.getD j 0 + (mulIn ai b i o j).2) / 65536)
def mulOut (a b : List Nat) : Nat → List Nat
  | 0 => List.replicate (a.length + b.length) 0
  | i + 1 => (mulIn (a.getD i 0) b i (mulOut a b i) b.length).1.set (i + b.length) ((mulIn (a.getD i 0) b i (mulOut a b i) b.length).1.getD (i + b.length) 0 + (mulIn (a.getD i 0) b i (mulOut a b i) b.length).2)
def timesL (a b : List Nat) : List Nat := mulOut a b a.length
theorem mulIn_len (ai : Nat) (b : List Nat) (i : Nat) (o : List Nat) : ∀ j, (mulIn ai b i o j).1.length = o.length
  | 0 => rfl
  | j + 1 => by rw [mulIn, List.length_set, mulIn_len ai b i o j]
theorem mulOut_len (a b : List Nat) : ∀ i, (mulOut a b i).length = a.length + b.length
  | 0 => by simp [mulOut]
  | i + 1 => by rw [mulOut, List.length_set, mulIn_len, mulOut_len a b i]
def All (M : Nat) (l : List Nat) : Prop := ∀ k, l.getD k 0 ≤ M
theorem All.set {M : Nat} {l : List Nat} (h : All M l) (k x : Nat) (hx : x ≤ M) : All M (l.set k x) := by
  intro j
  have := h j
  simp only [List.getD_eq_getElem?_getD, List.getElem?_set] at this ⊢
  split
  · split <;> simp [hx]
  · exact this
theorem All.mono {M M' : Nat} {l : List Nat} (h : All M l) (hm : M ≤ M') : All M' l := fun k => Nat.le_trans (h k) hm
theorem mulIn_all {M ai : Nat} {b o : List Nat} (i : Nat) (hM : 131072 ≤ M) (ha : ai ≤ 65535) (hb : All 65535 b) (ho : All M o) : ∀ j, All M (mulIn ai b i o j).1 ∧ (mulIn ai b i o j).2 ≤ M
  | 0 => ⟨ho, Nat.zero_le _⟩
  | j + 1 => by
    obtain ⟨h1, h2⟩ := mulIn_all i hM ha hb ho j
    have hp : ai * b.getD j 0 ≤ 65535 * 65535 := Nat.mul_le_mul ha (hb j)
    have hx := h1 (i + j)
    rw [mulIn]
    refine ⟨h1.set _ _ (by omega), ?_⟩
    show (_ + _ + _) / 65536 ≤ M
    omega
theorem mulOut_all {a b : List Nat} (ha : All 65535 a) (hb : All 65535 b) : ∀ i, All (131072 * 2 ^ i) (mulOut a b i)
  | 0 => fun k => by
    unfold mulOut
    simp only [List.getD_eq_getElem?_getD, List.getElem?_replicate]
    split <;> simp
  | i + 1 => by
    have h := mulOut_all ha hb i
    have hM : 131072 ≤ 131072 * 2 ^ i := Nat.le_mul_of_pos_right _ (Nat.pow_pos (by decide))
    obtain ⟨h1, h2⟩ := mulIn_all i hM (ha i) hb h b.length
    have hx := h1 (i + b.length)
    have hp : 131072 * 2 ^ (i + 1) = 131072 * 2 ^ i + 131072 * 2 ^ i := by rw [Nat.pow_succ]; omega
    rw [mulOut]
    exact (h1.mono (by omega)).set _ _ (by omega)
theorem natV_zero (n : Nat) : madeCells #[Value.int .i64 0] n = (natV (List.replicate n 0)).toArray := by
  apply Array.ext'
  have h := toList_madeCells_one (.int .i64 0) n
  rw [h]
  simp [natV]
theorem run_make_ints (n : Nat) (hn : n ≤ 4096) (w : World) :
    (Instr.makeSlice 80 (.int .i64 n) (.int .i64 n)).run Tryd.prog w = .ok (.slice (some ⟨w.heap.size, 0, none⟩) n n) (w.alloc (.cells (natV (List.replicate n 0)).toArray 3)) := by
  obtain ⟨i0, h1, h2, h3, h4⟩ := info_parts int_info
  have hr := run_make (P := Tryd.prog) w 80 3 i0 _ Tryd.underlying80 h1 h2 .i64 .i64 n n (by omega) (Int.le_refl _) (by rw [h4]; omega) (by omega)
  rw [hr]
  simp only [Int.toNat_natCast, h3, Nat.mul_one]
  rw [show (Value.int .i64 0).cells = #[Value.int .i64 0] from rfl, natV_zero]
end Go.Proofs.YtmdjbmhjnajpgaaDoor
namespace Go.Proofs.YtmdjbmhjnajpgaaDoor
open Go.RowKit
set_option linter.unusedSimpArgs false
set_option linter.unnecessarySimpa false
set_option linter.unusedVariables false

theorem natV_get (l : List Nat) (i : Nat) (h : i < l.length) : (natV l).toArray[i]? = some (.int .i64 (l.getD i 0 : Nat)) := by
  simp [natV, h, List.getD]
theorem natV_set (l : List Nat) (i x : Nat) : (natV l).toArray.setIfInBounds i (.int .i64 (x : Nat)) = (natV (l.set i x)).toArray := by simp [natV, List.map_set]
theorem cell_lt {w : World} {g j : Nat} {v : Value} (h : w.cell? ⟨g, j, none⟩ = some v) : g < w.heap.size := by
  refine Nat.lt_of_not_le fun e => ?_
  have : w.heap[g]? = none := by rw [Array.getElem?_eq_none]; exact e
  simp [World.cell?, this] at h

set_option maxHeartbeats 4000000 in
theorem times_any (a b : List Nat) (va vb : Value) (ha0 : 0 < a.length) (hb0 : 0 < b.length) (ha : a.length ≤ 12) (hb : b.length ≤ 12) (la : All 65535 a) (lb : All 65535 b) (w : World) (h1 : NumsAt w va a) (h2 : NumsAt w vb b) :
    Calls Tryd.prog 57 #[va, vb] w fun e w' => e = .returned (.slice (some ⟨w.heap.size, 0, none⟩) (a.length + b.length) (a.length + b.length)) ∧ Blk w' w.heap.size 3 (natV (timesL a b)).toArray ∧ Below w.heap.size w w' := by
  obtain ⟨g, c, rfl, hA⟩ := h1
  obtain ⟨g', c', rfl, hB⟩ := h2
  have hg := cell_lt (hA 0 ha0)
  have hg' := cell_lt (hB 0 hb0)
  have HA := Lib.hid hA
  have HB := Lib.hid hB
  clear hA hB
  have hw0 : IntKind.i64.wrap ((a.length : Int) + b.length) = ((a.length + b.length : Nat) : Int) := by rw [IntWalk.i64_in _ ⟨by omega, by omega⟩]; omega
  have hmk := run_make_ints (a.length + b.length) (by omega) w
  obtain ⟨L, hL⟩ : ∃ L, a.length + b.length = L := ⟨_, rfl⟩
  rw [hL] at hw0 hmk ⊢
  have hw1 : (a.length : Int) + b.length = L := by omega
  obtain ⟨G, hG⟩ : ∃ G, w.heap.size = G := ⟨_, rfl⟩
  have hst : Blk (w.alloc (.cells (natV (List.replicate L 0)).toArray 3)) G 3 (natV (mulOut a b 0)).toArray := by rw [mulOut, hL]; exact blk_at hG
  have hbe : Below w.heap.size w (w.alloc (.cells (natV (List.replicate L 0)).toArray 3)) := (Below.refl _ _).alloc (Nat.le_refl _) _
  go_enter Tryd.func57, Tryd.ntmps57
  go_wp2_with fail
  go_loopw [6] (fun i wr => ∃ k : Nat, k ≤ a.length ∧ i = .int .i64 k ∧ Blk wr G 3 (natV (mulOut a b k)).toArray ∧ Below w.heap.size w wr) (fun i _ => a.length - (intOf i).toNat)
  case atStart => exact ⟨0, by omega, rfl, hst, hbe⟩
  case round =>
    clear hst hbe hmk
    obtain ⟨k, hk, rfl, hd, hbl⟩ := hrel
    by_cases hlt : k < a.length
    · have q1 : decide ((k : Int) < a.length) = true := decide_eq_true (by omega)
      have hMk : 131072 * 2 ^ k ≤ 536870912 := by
        have : 2 ^ k ≤ 2 ^ 12 := Nat.pow_le_pow_right (by decide) (by omega)
        have h12 : (2 : Nat) ^ 12 = 4096 := by decide
        omega
      obtain ⟨o, ho⟩ : ∃ o, mulOut a b k = o := ⟨_, rfl⟩
      have hol : o.length = L := by rw [← ho, mulOut_len, hL]
      have hall : All 536870912 o := by rw [← ho]; exact (mulOut_all la lb k).mono hMk
      obtain ⟨y, hy⟩ : ∃ y, a.getD k 0 = y := ⟨_, rfl⟩
      have hyl : y ≤ 65535 := by rw [← hy]; exact la k
      have hin := mulIn_all k (by decide : 131072 ≤ 536870912) hyl lb hall
      have hnx : mulOut a b (k + 1) = (mulIn y b k o b.length).1.set (k + b.length) ((mulIn y b k o b.length).1.getD (k + b.length) 0 + (mulIn y b k o b.length).2) := by rw [mulOut, ho, hy]
      rw [ho] at hd
      have HO := Lib.hid hnx
      have cA := HA.out k hlt
      rw [hy] at cA
      have CA := Lib.hid cA
      clear hnx ho hy cA hMk hall
      have hk0 : (0 : Int) ≤ k := by omega
      go_wp2_with fail
      go_loopw [7, 8] (fun cc j wr => ∃ q : Nat, q ≤ b.length ∧ j = .int .i64 q ∧ cc = .int .i64 ((mulIn y b k o q).2 : Nat) ∧ Blk wr G 3 (natV (mulIn y b k o q).1).toArray ∧ Below w.heap.size w wr) (fun _ j _ => b.length - (intOf j).toNat)
      case atStart => exact ⟨0, by omega, rfl, rfl, hd, hbl⟩
      case round =>
        clear hd hbl
        obtain ⟨q, hq, rfl, rfl, hd, hbl⟩ := hrel
        obtain ⟨h1, h2⟩ := hin q
        have hil := mulIn_len y b k o q
        have hsu : (mulIn y b k o (q + 1)) = ((mulIn y b k o q).1.set (k + q) (((mulIn y b k o q).1.getD (k + q) 0 + y * b.getD q 0 + (mulIn y b k o q).2) % 65536), ((mulIn y b k o q).1.getD (k + q) 0 + y * b.getD q 0 + (mulIn y b k o q).2) / 65536) := rfl
        by_cases hlq : q < b.length
        · have q2 : decide ((q : Int) < b.length) = true := decide_eq_true (by omega)
          obtain ⟨⟨s, r⟩, hsr⟩ : ∃ s, mulIn y b k o q = s := ⟨_, rfl⟩
          rw [hsr] at h1 h2 hil hsu hd ⊢
          simp only at h1 h2 hil hsu hd ⊢
          obtain ⟨x, hx⟩ : ∃ x, s.getD (k + q) 0 = x := ⟨_, rfl⟩
          obtain ⟨z, hz⟩ : ∃ z, b.getD q 0 = z := ⟨_, rfl⟩
          have hxl : x ≤ 536870912 := by rw [← hx]; exact h1 _
          have hzl : z ≤ 65535 := by rw [← hz]; exact lb q
          obtain ⟨p, hp⟩ : ∃ p, y * z = p := ⟨_, rfl⟩
          have hpl : p ≤ 65535 * 65535 := by rw [← hp]; exact Nat.mul_le_mul hyl hzl
          have hpi : (y : Int) * z = p := by rw [← hp]; simp
          obtain ⟨n, hn⟩ : ∃ n, x + p + r = n := ⟨_, rfl⟩
          rw [hx, hz, hp, hn] at hsu
          have e0 : IntKind.i64.wrap ((y : Int) * z) = p := by rw [hpi, IntWalk.i64_in _ ⟨by omega, by omega⟩]
          have e1 : IntKind.i64.wrap ((x : Int) + p) = x + p := IntWalk.i64_in _ ⟨by omega, by omega⟩
          have e2 : IntKind.i64.wrap ((x : Int) + p + r) = n := by rw [IntWalk.i64_in _ ⟨by omega, by omega⟩]; omega
          have e3 : IntKind.i64.wrap ((k : Int) + q) = k + q := IntWalk.i64_in _ ⟨by omega, by omega⟩
          have e4 : (0 : Int) ≤ (k : Int) + q := by omega
          have e5 : (k : Int) + q < L := by omega
          have e6 : ((k : Int) + q).toNat = k + q := by omega
          have hq0 : (0 : Int) ≤ q := by omega
          have cs := hd.cell (k + q)
          rw [natV_get _ _ (by omega), hx] at cs
          have fs := hd.frozen (k + q)
          have cb := HB.out q hlq
          rw [← hbl.cell (p := ⟨g', q, none⟩) hg', hz] at cb
          have ca := CA.out
          rw [← hbl.cell (p := ⟨g, k, none⟩) hg] at ca
          have hset := hd.set_ (k + q) (.int .i64 ((n % 65536 : Nat)))
          rw [natV_set] at hset
          have SU := Lib.hid hsu
          have HS := Lib.hid hset
          have HD := Lib.hid hd
          have hnl : n ≤ 5368709120 := by omega
          have e7 : IntKind.i64.wrap ((n : Int) / 65536) = (n : Int) / 65536 := IntWalk.i64_in _ ⟨by omega, by omega⟩
          clear hsu hset hn hp hpi hx hz hsr
          go_wp2_with fail
          go_quiet (fail)
          have hm0 : ((n : Int)).tmod 65536 = ((n % 65536 : Nat) : Int) := by rw [Int.tmod_eq_emod_of_nonneg (by omega)]; omega
          have hm1 : ((n : Int)).tdiv 65536 = ((n / 65536 : Nat) : Int) := by rw [Int.tdiv_eq_ediv_of_nonneg (by omega)]; omega
          have hdq := (HD.out).drewN nq
          obtain ⟨w2, hw2⟩ : ∃ y, wr.drewN nq = y := ⟨_, rfl⟩
          have hb2 : Below w.heap.size w w2 := by rw [← hw2]; exact hbl.dN nq
          rw [hw2] at hdq ⊢
          clear hw2 cb ca cs fs
          have cs := hdq.cell (k + q)
          have fs := hdq.frozen (k + q)
          rw [natV_get _ _ (by omega)] at cs
          have hset := hdq.set_ (k + q) (.int .i64 ((n % 65536 : Nat)))
          rw [natV_set] at hset
          have HS2 := Lib.hid hset
          clear hset HS HD hd hdq
          have hb3 := below_at hb2 (g := G) (by omega) (k + q) (.int .i64 ((n % 65536 : Nat)))
          have HB3 := Lib.hid hb3
          clear hb3
          go_wp2
          go_round
          case rel => exact ⟨q + 1, by omega, by go_num, by rw [SU.out]; first | rfl | (simp; exact e7), by rw [SU.out]; first | exact HS2.out | simpa using HS2.out, by first | exact HB3.out | simpa using HB3.out⟩
          case measure => simp [intOf] <;> omega
        · have hqe : q = b.length := by omega
          have q2 : decide ((q : Int) < b.length) = false := decide_eq_false (by omega)
          rw [hqe] at h1 h2 hil hd
          rw [hqe]
          obtain ⟨⟨s, r⟩, hsr⟩ : ∃ s, mulIn y b k o b.length = s := ⟨_, rfl⟩
          rw [hsr] at h1 h2 hil hd ⊢
          simp only at h1 h2 hil hd ⊢
          have hn2 := HO.out
          rw [hsr] at hn2
          simp only at hn2
          obtain ⟨x, hx⟩ : ∃ x, s.getD (k + b.length) 0 = x := ⟨_, rfl⟩
          have hxl : x ≤ 536870912 := by rw [← hx]; exact h1 _
          have cs := hd.cell (k + b.length)
          rw [natV_get _ _ (by omega), hx] at cs
          have fs := hd.frozen (k + b.length)
          have hset := hd.set_ (k + b.length) (.int .i64 ((x + r : Nat)))
          rw [natV_set] at hset
          rw [hx] at hn2
          rw [← hn2] at hset
          have e1 : IntKind.i64.wrap ((x : Int) + r) = x + r := IntWalk.i64_in _ ⟨by omega, by omega⟩
          have e3 : IntKind.i64.wrap ((k : Int) + b.length) = k + b.length := IntWalk.i64_in _ ⟨by omega, by omega⟩
          have e4 : (0 : Int) ≤ (k : Int) + b.length := by omega
          have e5 : (k : Int) + b.length < L := by omega
          have e6 : ((k : Int) + b.length).toNat = k + b.length := by omega
          have q3 : decide ((b.length : Int) < b.length) = false := by simp
          have hb3 := below_at hbl (g := G) (by omega) (k + b.length) (.int .i64 ((x + r : Nat)))
          have HS := Lib.hid hset
          have HB3 := Lib.hid hb3
          clear hset hb3 hn2 hx hsr hd
          go_wp2
          go_round
          case rel => exact ⟨k + 1, by omega, by go_num, by first | exact HS.out | simpa using HS.out, by first | exact HB3.out | simpa using HB3.out⟩
          case measure => simp [intOf] <;> omega
    · have q1 : decide ((k : Int) < a.length) = false := decide_eq_false (by omega)
      have hkl : mulOut a b k = timesL a b := by rw [timesL, show k = a.length by omega]
      rw [hkl] at hd
      go_wp2
      subst hG
      go_ret
      exact ⟨rfl, hd, hbl⟩
end Go.Proofs.YtmdjbmhjnajpgaaDoor
namespace Go.Proofs.YtmdjbmhjnajpgaaDoor
open Go.RowKit
set_option linter.unusedSimpArgs false
set_option linter.unnecessarySimpa false
set_option linter.unusedVariables false

def prStep (out : List Nat) (i : Nat) : List Nat := if out.all (fun d => (2 + i) % d != 0) then out ++ [2 + i] else out
def prL (s : Nat) : List Nat := (List.range s).foldl prStep []
theorem prL_succ (s : Nat) : prL (s + 1) = prStep (prL s) s := by
  unfold prL
  rw [List.range_succ, List.foldl_append]
  rfl
theorem prL_mono (s : Nat) : (prL s).length ≤ (prL (s + 1)).length := by
  rw [prL_succ]
  unfold prStep
  split <;> simp
theorem prL_le : ∀ {s t : Nat}, s ≤ t → (prL s).length ≤ (prL t).length := by
  intro s t h
  induction h with
  | refl => exact Nat.le_refl _
  | step _ ih => exact Nat.le_trans ih (prL_mono _)
theorem pr309 : (prL 309).length = 63 := by decide +kernel
theorem pr310 : (prL 310).length = 64 := by decide +kernel
theorem prL_pos (s : Nat) : ∀ d ∈ prL s, 2 ≤ d ∧ d < 2 + s := by
  induction s with
  | zero => intro d h; simp [prL] at h
  | succ s ih =>
    intro d h
    rw [prL_succ, prStep] at h
    split at h
    · rcases List.mem_append.1 h with h | h
      · have := ih d h; omega
      · simp at h; omega
    · have := ih d h; omega
theorem own_read {w : World} {base n : Nat} {v : Value} {l : List Nat} (h : w.ownsRow base 3 1 v n (natV l)) :
    ∃ A c, v = .slice A n c ∧ ∀ j, j < n → ∃ ad : Addr, A = some ad ∧ w.cell? (ad.add j) = some (.int .i64 (l.getD j 0 : Nat)) := by
  have hl : l.length = n := by have := h.1; simpa [natV] using this
  have h0 := h
  rcases h.2 with ⟨rfl, hn⟩ | ⟨g, cap, cur, rfl, hg, hc, hr⟩
  · exact ⟨none, 0, by rw [hn], fun j hj => by omega⟩
  · refine ⟨some ⟨g, 0, none⟩, cap, rfl, fun j hj => ⟨_, rfl, ?_⟩⟩
    have : (⟨g, 0, none⟩ : Addr).add j = ⟨g, j, none⟩ := by unfold Addr.add; split <;> simp_all
    rw [this, World.ownsRow.cellAt h0 j (by omega)]
    simp [natV, List.getD, show j < l.length by omega]

set_option maxHeartbeats 4000000 in
theorem primes_any (w : World) : Calls Tryd.prog 43 #[.int .i64 64] w fun e w' => ∃ v, e = .returned v ∧ w'.ownsRow w.heap.size 3 1 v 64 (natV (prL 310)) ∧ Below w.heap.size w w' := by
  go_enter Tryd.func43, Tryd.ntmps43
  go_wp2_with fail
  go_loopw [3, 4] (fun v i wr => ∃ s : Nat, s ≤ 310 ∧ i = .int .i64 ((2 + s : Nat)) ∧ wr.ownsRow w.heap.size 3 1 v (prL s).length (natV (prL s)) ∧ Below w.heap.size w wr) (fun _ i _ => 312 - (intOf i).toNat)
  case atStart => exact ⟨0, by omega, rfl, World.ownsRow_nil _ _ _ _, Below.refl _ _⟩
  case round =>
    obtain ⟨s, hs, rfl, hown, hbl⟩ := hrel
    obtain ⟨A, c, rfl, hrd⟩ := own_read hown
    by_cases hlt : s < 310
    · have hle : (prL s).length ≤ 63 := by rw [← pr309]; exact prL_le (by omega)
      have hpos := prL_pos s
      have hnx := prL_succ s
      have HOWN := Lib.hid hown
      have HNX := Lib.hid hnx
      have HRD := Lib.hid hrd
      have HPOS := Lib.hid hpos
      clear hown hnx hrd hpos
      obtain ⟨l, hl⟩ : ∃ l, prL s = l := ⟨_, rfl⟩
      rw [hl] at hle HOWN HNX HRD HPOS ⊢
      obtain ⟨n, hn⟩ : ∃ n, l.length = n := ⟨_, rfl⟩
      rw [hn] at hle HOWN HRD ⊢
      clear hl
      obtain ⟨kk, hkk⟩ : ∃ kk : Nat, 2 + s = kk := ⟨_, rfl⟩
      have hkl : kk < 312 := by omega
      rw [hkk] at HPOS ⊢
      have HKK := Lib.hid hkk
      clear hkk
      have q1 : decide ((n : Int) < 64) = true := decide_eq_true (by omega)
      obtain ⟨wo, hwo⟩ : ∃ wo : World, wo = wr := ⟨_, rfl⟩
      go_wp2_with fail
      go_loopw [5, 6] (fun b i wv => ∃ q : Nat, q ≤ n ∧ i = .int .i64 q ∧ b = .bool ((l.take q).all (fun d => kk % d != 0)) ∧ wv = wo) (fun _ i _ => n - (intOf i).toNat)
      case atStart => exact ⟨0, by omega, rfl, by simp, hwo.symm⟩
      case round =>
        obtain ⟨q, hq, rfl, rfl, hwv⟩ := hrel
        have HWO := Lib.hid hwo
        rw [hwv]
        clear hwo hwv
        by_cases hlq : q < n
        · have q2 : decide ((q : Int) < n) = true := decide_eq_true (by omega)
          have hqn : q < l.length := by omega
          obtain ⟨ad, rfl, cd⟩ := HRD.out q hlq
          rw [← HWO.out] at cd
          obtain ⟨d, hd⟩ : ∃ d, l.getD q 0 = d := ⟨_, rfl⟩
          have hdl : l[q] = d := by rw [← hd]; simp [List.getD, hqn]
          have hdp := HPOS.out d (by rw [← hdl]; exact List.getElem_mem hqn)
          rw [hd] at cd
          have htk : (l.take (q + 1)).all (fun d => kk % d != 0) = ((l.take q).all (fun d => kk % d != 0) && (kk % d != 0)) := by
            rw [List.take_succ_eq_append_getElem hqn, List.all_append, hdl]
            simp
          have HTK := Lib.hid htk
          obtain ⟨b, hb⟩ : ∃ b, (l.take q).all (fun d => kk % d != 0) = b := ⟨_, rfl⟩
          obtain ⟨r, hr⟩ : ∃ r, kk % d = r := ⟨_, rfl⟩
          have hdn : (d : Int) ≠ 0 := by omega
          have hm : ((kk : Int)).tmod d = (r : Int) := by rw [Int.tmod_eq_emod_of_nonneg (by omega), ← hr]; simp
          rw [hb, hr] at htk
          rw [hb]
          have HT2 := Lib.hid htk
          have q0 : (0 : Int) ≤ q := by omega
          have hrb : r ≤ 1000 := by rw [← hr]; exact Nat.le_trans (Nat.mod_le _ _) (by omega)
          clear htk hb hr hd hdl
          cases b
          · go_wp2
            go_round
            case rel => exact ⟨q + 1, by omega, by go_num, by rw [HT2.out]; rfl, by first | rfl | trivial⟩
            case measure => simp [intOf] <;> omega
          · by_cases hr0 : r = 0
            · have hm2 : (((kk : Nat) : Int)).tmod d = 0 := by rw [hm, hr0]; rfl
              clear hm
              go_wp2
              go_round
              case rel => exact ⟨q + 1, by omega, by go_num, by rw [HT2.out, hr0]; rfl, by first | rfl | trivial⟩
              case measure => simp [intOf] <;> omega
            · have hr1 : ((r : Int) != 0) = true := bne_iff_ne.2 (by omega)
              have hr2 : (r != 0) = true := bne_iff_ne.2 hr0
              have HR2 := Lib.hid hr2
              clear hr2
              go_wp2
              go_round
              case rel => exact ⟨q + 1, by omega, by go_num, by rw [HT2.out, HR2.out]; rfl, by first | rfl | trivial⟩
              case measure => simp [intOf] <;> omega
        · have q2 : decide ((q : Int) < n) = false := decide_eq_false (by omega)
          have hqt : l.take q = l := List.take_of_length_le (by omega)
          rw [hqt]
          have hown := HOWN.out
          have hb2 := hbl
          rw [← HWO.out] at hown hb2
          have hstep : prL (s + 1) = if l.all (fun d => kk % d != 0) then l ++ [kk] else l := by rw [HNX.out, prStep, HKK.out]
          have hk1 : ((kk : Int) + 1) = ((2 + (s + 1) : Nat) : Int) := by rw [← HKK.out]; omega
          obtain ⟨b, hb⟩ : ∃ b, l.all (fun d => kk % d != 0) = b := ⟨_, rfl⟩
          rw [hb] at hstep ⊢
          have HS := Lib.hid hstep
          have HK1 := Lib.hid hk1
          clear hstep hb hk1 hqt
          have hsz := hb2.size
          cases b
          · have hfin : wo.ownsRow w.heap.size 3 1 (.slice A n c) (prL (s + 1)).length (natV (prL (s + 1))) := by
              rw [HS.out, if_neg (by decide), hn]
              exact hown
            have HF := Lib.hid hfin
            clear hfin hown
            go_wp2
            go_round
            case rel => exact ⟨s + 1, by omega, by rw [← HK1.out], HF.out, hb2⟩
            case measure => simp [intOf] <;> omega
          · have hn8 : n + 1 ≤ maxLen := by unfold maxLen; omega
            have hn9 : (n + 1) * 8 ≤ 140737488355328 := by omega
            go_wp2_with (at_builtin; go_must (refine wpList_app (P := Tryd.prog) _ rfl _ _ 80 rfl w.heap.size 3 (.int .i64 0) 1 8 Tryd.underlying80 int_info rfl (by decide) _ n _ rfl hown _ rfl rfl ?c1 hn8 hn9 hsz ?_))
            case c1 => first | rfl | (intro u hu; simp at hu; subst hu; rfl)
            intro v' w1 hown1 _ hb1
            have hfin : w1.ownsRow w.heap.size 3 1 v' (prL (s + 1)).length (natV (prL (s + 1))) := by
              rw [HS.out]
              simp only [if_true, List.length_append, hn]
              simpa [natV] using hown1
            have HF := Lib.hid hfin
            have hb3 := hb2.trans hb1
            clear hfin hown1 hown
            go_wp2
            go_roundw
            case rel => exact ⟨s + 1, by omega, by rw [← HK1.out], HF.out, hb3⟩
            case measure => simp [intOf] <;> omega
    · obtain rfl : s = 310 := by omega
      have hrd2 := hrd
      rw [pr310] at hown ⊢
      go_wp2
      go_ret
      exact ⟨_, rfl, hown, hbl⟩
end Go.Proofs.YtmdjbmhjnajpgaaDoor
namespace Go.Proofs.YtmdjbmhjnajpgaaDoor

def goalL (p power : Nat) : List Nat := List.replicate (2 * power) 0 ++ digL p 2
def rootP (power y : Nat) : List Nat := if power = 3 then timesL (timesL (digL y 3) (digL y 3)) (digL y 3) else timesL (digL y 3) (digL y 3)
def rootStep (p power x bit : Nat) : Nat := if aboveN (rootP power (x + 2 ^ bit)) (goalL p power) (max (rootP power (x + 2 ^ bit)).length (goalL p power).length) then x else x + 2 ^ bit
def rootN (p power : Nat) : Nat → Nat
  | 0 => 0
  | s + 1 => rootStep p power (rootN p power s) (40 - s)
theorem roots_two : ((prL 310).take 8).map (fun p => rootN p 2 41 % 4294967296) = H8.begin0.l.map BitVec.toNat := by decide +kernel
theorem root3_2 : rootN 2 3 41 % 4294967296 = 0x428a2f98 := by decide +kernel
end Go.Proofs.YtmdjbmhjnajpgaaDoor
namespace Go.Proofs.YtmdjbmhjnajpgaaDoor
theorem cube_2 : rootN 2 3 41 % 4294967296 = 0x428a2f98 := by decide +kernel
theorem cube_3 : rootN 3 3 41 % 4294967296 = 0x71374491 := by decide +kernel
theorem cube_5 : rootN 5 3 41 % 4294967296 = 0xb5c0fbcf := by decide +kernel
theorem cube_7 : rootN 7 3 41 % 4294967296 = 0xe9b5dba5 := by decide +kernel
theorem cube_11 : rootN 11 3 41 % 4294967296 = 0x3956c25b := by decide +kernel
theorem cube_13 : rootN 13 3 41 % 4294967296 = 0x59f111f1 := by decide +kernel
theorem cube_17 : rootN 17 3 41 % 4294967296 = 0x923f82a4 := by decide +kernel
theorem cube_19 : rootN 19 3 41 % 4294967296 = 0xab1c5ed5 := by decide +kernel
theorem cube_23 : rootN 23 3 41 % 4294967296 = 0xd807aa98 := by decide +kernel
theorem cube_29 : rootN 29 3 41 % 4294967296 = 0x12835b01 := by decide +kernel
theorem cube_31 : rootN 31 3 41 % 4294967296 = 0x243185be := by decide +kernel
theorem cube_37 : rootN 37 3 41 % 4294967296 = 0x550c7dc3 := by decide +kernel
theorem cube_41 : rootN 41 3 41 % 4294967296 = 0x72be5d74 := by decide +kernel
theorem cube_43 : rootN 43 3 41 % 4294967296 = 0x80deb1fe := by decide +kernel
theorem cube_47 : rootN 47 3 41 % 4294967296 = 0x9bdc06a7 := by decide +kernel
theorem cube_53 : rootN 53 3 41 % 4294967296 = 0xc19bf174 := by decide +kernel
theorem cube_59 : rootN 59 3 41 % 4294967296 = 0xe49b69c1 := by decide +kernel
theorem cube_61 : rootN 61 3 41 % 4294967296 = 0xefbe4786 := by decide +kernel
theorem cube_67 : rootN 67 3 41 % 4294967296 = 0x0fc19dc6 := by decide +kernel
theorem cube_71 : rootN 71 3 41 % 4294967296 = 0x240ca1cc := by decide +kernel
theorem cube_73 : rootN 73 3 41 % 4294967296 = 0x2de92c6f := by decide +kernel
theorem cube_79 : rootN 79 3 41 % 4294967296 = 0x4a7484aa := by decide +kernel
end Go.Proofs.YtmdjbmhjnajpgaaDoor
namespace Go.Proofs.YtmdjbmhjnajpgaaDoor
theorem cube_83 : rootN 83 3 41 % 4294967296 = 0x5cb0a9dc := by decide +kernel
theorem cube_89 : rootN 89 3 41 % 4294967296 = 0x76f988da := by decide +kernel
theorem cube_97 : rootN 97 3 41 % 4294967296 = 0x983e5152 := by decide +kernel
theorem cube_101 : rootN 101 3 41 % 4294967296 = 0xa831c66d := by decide +kernel
theorem cube_103 : rootN 103 3 41 % 4294967296 = 0xb00327c8 := by decide +kernel
theorem cube_107 : rootN 107 3 41 % 4294967296 = 0xbf597fc7 := by decide +kernel
theorem cube_109 : rootN 109 3 41 % 4294967296 = 0xc6e00bf3 := by decide +kernel
theorem cube_113 : rootN 113 3 41 % 4294967296 = 0xd5a79147 := by decide +kernel
theorem cube_127 : rootN 127 3 41 % 4294967296 = 0x06ca6351 := by decide +kernel
theorem cube_131 : rootN 131 3 41 % 4294967296 = 0x14292967 := by decide +kernel
theorem cube_137 : rootN 137 3 41 % 4294967296 = 0x27b70a85 := by decide +kernel
theorem cube_139 : rootN 139 3 41 % 4294967296 = 0x2e1b2138 := by decide +kernel
theorem cube_149 : rootN 149 3 41 % 4294967296 = 0x4d2c6dfc := by decide +kernel
theorem cube_151 : rootN 151 3 41 % 4294967296 = 0x53380d13 := by decide +kernel
theorem cube_157 : rootN 157 3 41 % 4294967296 = 0x650a7354 := by decide +kernel
theorem cube_163 : rootN 163 3 41 % 4294967296 = 0x766a0abb := by decide +kernel
theorem cube_167 : rootN 167 3 41 % 4294967296 = 0x81c2c92e := by decide +kernel
theorem cube_173 : rootN 173 3 41 % 4294967296 = 0x92722c85 := by decide +kernel
theorem cube_179 : rootN 179 3 41 % 4294967296 = 0xa2bfe8a1 := by decide +kernel
theorem cube_181 : rootN 181 3 41 % 4294967296 = 0xa81a664b := by decide +kernel
theorem cube_191 : rootN 191 3 41 % 4294967296 = 0xc24b8b70 := by decide +kernel
theorem cube_193 : rootN 193 3 41 % 4294967296 = 0xc76c51a3 := by decide +kernel
end Go.Proofs.YtmdjbmhjnajpgaaDoor
namespace Go.Proofs.YtmdjbmhjnajpgaaDoor
theorem cube_197 : rootN 197 3 41 % 4294967296 = 0xd192e819 := by decide +kernel
theorem cube_199 : rootN 199 3 41 % 4294967296 = 0xd6990624 := by decide +kernel
theorem cube_211 : rootN 211 3 41 % 4294967296 = 0xf40e3585 := by decide +kernel
theorem cube_223 : rootN 223 3 41 % 4294967296 = 0x106aa070 := by decide +kernel
theorem cube_227 : rootN 227 3 41 % 4294967296 = 0x19a4c116 := by decide +kernel
theorem cube_229 : rootN 229 3 41 % 4294967296 = 0x1e376c08 := by decide +kernel
theorem cube_233 : rootN 233 3 41 % 4294967296 = 0x2748774c := by decide +kernel
theorem cube_239 : rootN 239 3 41 % 4294967296 = 0x34b0bcb5 := by decide +kernel
theorem cube_241 : rootN 241 3 41 % 4294967296 = 0x391c0cb3 := by decide +kernel
theorem cube_251 : rootN 251 3 41 % 4294967296 = 0x4ed8aa4a := by decide +kernel
theorem cube_257 : rootN 257 3 41 % 4294967296 = 0x5b9cca4f := by decide +kernel
theorem cube_263 : rootN 263 3 41 % 4294967296 = 0x682e6ff3 := by decide +kernel
theorem cube_269 : rootN 269 3 41 % 4294967296 = 0x748f82ee := by decide +kernel
theorem cube_271 : rootN 271 3 41 % 4294967296 = 0x78a5636f := by decide +kernel
theorem cube_277 : rootN 277 3 41 % 4294967296 = 0x84c87814 := by decide +kernel
theorem cube_281 : rootN 281 3 41 % 4294967296 = 0x8cc70208 := by decide +kernel
theorem cube_283 : rootN 283 3 41 % 4294967296 = 0x90befffa := by decide +kernel
theorem cube_293 : rootN 293 3 41 % 4294967296 = 0xa4506ceb := by decide +kernel
theorem cube_307 : rootN 307 3 41 % 4294967296 = 0xbef9a3f7 := by decide +kernel
theorem cube_311 : rootN 311 3 41 % 4294967296 = 0xc67178f2 := by decide +kernel
end Go.Proofs.YtmdjbmhjnajpgaaDoor
namespace Go.Proofs.YtmdjbmhjnajpgaaDoor
open Go.RowKit
set_option linter.unusedSimpArgs false
set_option linter.unnecessarySimpa false
set_option linter.unusedVariables false

theorem getD_set_ne (l : List Nat) (i k x : Nat) (h : i ≠ k) : (l.set i x).getD k 0 = l.getD k 0 := by
  simp only [List.getD_eq_getElem?_getD, List.getElem?_set, if_neg h]
theorem mulIn_far (ai : Nat) (b : List Nat) (i : Nat) (o : List Nat) (k : Nat) : ∀ j, i + j ≤ k → (mulIn ai b i o j).1.getD k 0 = o.getD k 0
  | 0, _ => rfl
  | j + 1, h => by rw [mulIn, getD_set_ne _ _ _ _ (by omega), mulIn_far ai b i o k j (by omega)]
theorem mulIn_dig {ai : Nat} {b o : List Nat} (i : Nat) (ha : ai ≤ 65535) (hb : All 65535 b) (ho : All 65535 o) : ∀ j, All 65535 (mulIn ai b i o j).1 ∧ (mulIn ai b i o j).2 ≤ 65535
  | 0 => ⟨ho, Nat.zero_le _⟩
  | j + 1 => by
    obtain ⟨h1, h2⟩ := mulIn_dig i ha hb ho j
    have hp : ai * b.getD j 0 ≤ 65535 * 65535 := Nat.mul_le_mul ha (hb j)
    have hx := h1 (i + j)
    rw [mulIn]
    refine ⟨h1.set _ _ (by omega), ?_⟩
    show (_ + _ + _) / 65536 ≤ 65535
    omega
theorem mulOut_dig {a b : List Nat} (ha : All 65535 a) (hb : All 65535 b) : ∀ i, All 65535 (mulOut a b i) ∧ ∀ k, i + b.length ≤ k → (mulOut a b i).getD k 0 = 0
  | 0 => by
    have h : ∀ k, (mulOut a b 0).getD k 0 = 0 := fun k => by
      unfold mulOut
      simp only [List.getD_eq_getElem?_getD, List.getElem?_replicate]
      split <;> simp
    exact ⟨fun k => by rw [h]; omega, fun k _ => h k⟩
  | i + 1 => by
    obtain ⟨h1, h2⟩ := mulOut_dig ha hb i
    obtain ⟨h3, h4⟩ := mulIn_dig i (ha i) hb h1 b.length
    rw [mulOut]
    refine ⟨h3.set _ _ ?_, fun k hk => ?_⟩
    · rw [mulIn_far _ _ _ _ _ _ (Nat.le_refl _), h2 _ (Nat.le_refl _)]; omega
    · rw [getD_set_ne _ _ _ _ (by omega), mulIn_far _ _ _ _ _ _ (by omega), h2 _ (by omega)]
theorem timesL_dig {a b : List Nat} (ha : All 65535 a) (hb : All 65535 b) : All 65535 (timesL a b) := (mulOut_dig ha hb _).1
theorem timesL_len (a b : List Nat) : (timesL a b).length = a.length + b.length := mulOut_len a b _
theorem digL_dig (n : Nat) : ∀ k, All 65535 (digL n k)
  | 0 => fun k => by simp [digL]
  | m + 1 => fun k => by
    have h := digL_dig n m k
    have hx : n / 65536 ^ m % 65536 ≤ 65535 := by omega
    rw [digL]
    simp only [List.getD_eq_getElem?_getD, List.getElem?_append] at h ⊢
    split
    · exact h
    · rw [List.getElem?_singleton]
      split <;> simp [hx]
theorem rootN_lt (p power : Nat) : ∀ s, s ≤ 41 → rootN p power s ≤ 2 ^ 41 - 2 ^ (41 - s)
  | 0, _ => by simp [rootN]
  | s + 1, h => by
    have ih := rootN_lt p power s (by omega)
    have e1 : 41 - s = (40 - s) + 1 := by omega
    have e2 : 41 - (s + 1) = 40 - s := by omega
    have h2 : 2 ^ (40 - s + 1) ≤ 2 ^ 41 := Nat.pow_le_pow_right (by decide) (by omega)
    rw [e1] at ih
    rw [e2, rootN, rootStep]
    rw [Nat.pow_succ] at ih h2
    split <;> omega
theorem bthen {w w1 w2 : World} (h : Below w.heap.size w w1) (k : Below w1.heap.size w1 w2) : Below w.heap.size w w2 :=
  h.trans ((Keep.of_below (S := fun _ => False) k).mono (S' := fun _ => False) h.size (fun _ _ h => h)).below
/-- own rows and fresh blocks, to be read -/
theorem nums_own {w : World} {base n : Nat} {v : Value} {l : List Nat} (h : w.ownsRow base 3 1 v n (natV l)) (hn : 0 < n) : NumsAt w v l := by
  have hl : l.length = n := by have := h.1; simpa [natV] using this
  have h0 := h
  rcases h.2 with ⟨rfl, hn⟩ | ⟨g, cap, cur, rfl, hg, hc, hr⟩
  · omega
  · refine ⟨g, cap, by rw [hl], fun j hj => ?_⟩
    rw [World.ownsRow.cellAt h0 j (by omega)]
    simp [natV, List.getD, hj]
theorem nums_blk {w : World} {g n : Nat} {l : List Nat} (h : Blk w g 3 (natV l).toArray) (hn : l.length = n) : NumsAt w (.slice (some ⟨g, 0, none⟩) n n) l :=
  ⟨g, n, by rw [hn], fun j hj => by rw [h.cell j, natV_get l j hj]⟩
theorem NumsAt.below {w w' : World} {B : Nat} {v : Value} {l : List Nat} (h : NumsAt w v l) (hb : Below B w w') (hl : 0 < l.length) (hB : ∀ g n c, v = .slice (some ⟨g, 0, none⟩) n c → g < B) : NumsAt w' v l := by
  obtain ⟨g, c, rfl, hA⟩ := h
  exact ⟨g, c, rfl, fun j hj => by rw [hb.cell (p := ⟨g, j, none⟩) (hB g _ c rfl)]; exact hA j hj⟩
theorem NumsAt.all {w w' : World} {v : Value} {l : List Nat} (h : NumsAt w v l) (hb : Below w.heap.size w w') : NumsAt w' v l := by
  obtain ⟨g, c, rfl, hA⟩ := h
  exact ⟨g, c, rfl, fun j hj => by rw [hb.cell (p := ⟨g, j, none⟩) (cell_lt (hA j hj))]; exact hA j hj⟩
end Go.Proofs.YtmdjbmhjnajpgaaDoor
namespace Go.Proofs.YtmdjbmhjnajpgaaDoor
open Go.RowKit
set_option linter.unusedSimpArgs false
set_option linter.unnecessarySimpa false
set_option linter.unusedVariables false

theorem natV_one (l : List Nat) : ∀ v ∈ natV l, v.oneCell' = true := by
  intro v h
  simp only [natV, List.mem_map] at h
  obtain ⟨z, _, rfl⟩ := h
  rfl
theorem row_ints (w : World) (n : Nat) (hn : n ≤ 4096) : (w.alloc (.cells (natV (List.replicate n 0)).toArray 3)).ownsRow w.heap.size 3 1 (.slice (some ⟨w.heap.size, 0, none⟩) n n) n (natV (List.replicate n 0)) := by
  have := World.ownsRow_lit (w := w) (base := w.heap.size) (e := 3) (size := 1) (natV (List.replicate n 0)).toArray n (Nat.le_refl _) (by unfold maxLen; omega) (by simp [natV])
  simpa using this
theorem goal_natV (p power : Nat) : natV (List.replicate (2 * power) 0) ++ natV (digL p 2) = natV (goalL p power) := by simp [natV, goalL]

set_option maxRecDepth 100000 in
set_option maxHeartbeats 4000000 in
theorem root2_any (p : Nat) (hp : p ≤ 1000) (w : World) :
    Calls Tryd.prog 44 #[.int .i64 p, .int .i64 2] w fun e w' => e = .returned (.int .i64 (rootN p 2 41 % 4294967296 : Nat)) ∧ Below w.heap.size w w' := by
  have hmk : (Instr.makeSlice 80 (.int .i64 4) (.int .i64 4)).run Tryd.prog w = .ok (.slice (some ⟨w.heap.size, 0, none⟩) 4 4) (w.alloc (.cells (natV (List.replicate 4 0)).toArray 3)) := run_make_ints 4 (by omega) w
  have hr0 := row_ints w 4 (by omega)
  obtain ⟨w0, hw0⟩ : ∃ x, w.alloc (.cells (natV (List.replicate 4 0)).toArray 3) = x := ⟨_, rfl⟩
  have hb0 : Below w.heap.size w w0 := by rw [← hw0]; exact (Below.refl _ _).alloc (Nat.le_refl _) _
  rw [hw0] at hmk hr0
  go_enter Tryd.func44, Tryd.ntmps44
  go_wp2_with fail
  refine (digits_any p 2 (by omega) (by omega) _).mono ?_
  rintro e w1 ⟨v, rfl, hown, hb1⟩
  have hr1 := row_below hr0 hb1
  have hb1' := bthen hb0 hb1
  have hs1 := hb1'.size
  obtain ⟨A, c, rfl, hrd⟩ := own_read hown
  obtain ⟨ad, rfl, _⟩ := hrd 0 (by omega)
  obtain ⟨i0, hi0, hz0, hz1, hz2⟩ := info_parts int_info
  go_wp2_with (at_builtin; refine wpList_append_own (P := Tryd.prog) _ rfl _ _ 80 rfl w.heap.size 3 i0 (.int .i64 0) 1 8 Tryd.underlying80 hi0 hz0 hz1 hz2 rfl (by decide) _ 4 _ rfl hr1 ad 2 c (natV (digL p 2)) rfl ?c0 ?c1 (natV_one _) (by unfold maxLen; omega) (by omega) hs1 ?_)
  case c0 => simp [natV, digL_len]
  case c1 =>
    intro j u hj
    have hj2 : j < 2 := by
      have : j < (natV (digL p 2)).length := by
        rw [List.getElem?_eq_some_iff] at hj
        exact hj.1
      simpa [natV, digL_len] using this
    obtain ⟨ad', h1, h2⟩ := hrd j hj2
    cases h1
    rw [h2, ← hj]
    simp [natV, List.getD, digL_len, hj2]
  intro G w2 hown2 hgr2 _
  replace hown2 : w2.ownsRow w.heap.size 3 1 G 6 (natV (goalL p 2)) := by rw [← goal_natV]; exact hown2
  have hgl : (goalL p 2).length = 6 := by simp [goalL, digL_len]
  have hb2 : Below w.heap.size w w2 := by
    refine hb1'.grown hgr2 hs1 ?_
    intro k hk
    exact (hr1.lt k hk).1
  have hN := nums_own hown2 (by omega)
  have HN := Lib.hid hN
  clear hN hown2 hgr2 hr1 hr0 hrd hown hmk hw0
  go_wp2_with fail
  go_loopw [6, 7] (fun x bit wr => ∃ s : Nat, ∃ z : Int, s ≤ 41 ∧ z = 40 - s ∧ bit = .int .i64 z ∧ x = .int .i64 (rootN p 2 s : Nat) ∧ Below w2.heap.size w2 wr) (fun _ bit _ => (intOf bit + 1).toNat)
  case atStart => exact ⟨0, 40, by omega, by omega, rfl, rfl, Below.refl _ _⟩
  case round =>
    obtain ⟨s, z, hs, hz, rfl, rfl, hbl⟩ := hrel
    have hlt := rootN_lt p 2 s hs
    obtain ⟨x, hx⟩ : ∃ x, rootN p 2 s = x := ⟨_, rfl⟩
    by_cases hl : s < 41
    · obtain ⟨b, hb⟩ : ∃ b, 40 - s = b := ⟨_, rfl⟩
      obtain rfl : z = (b : Int) := by omega
      have hnx : rootN p 2 (s + 1) = rootStep p 2 x b := by rw [rootN, hx, hb]
      rw [hx] at hlt ⊢
      have HNX := Lib.hid hnx
      have hxl : x ≤ 2199023255552 := Nat.le_trans hlt (Nat.le_trans (Nat.sub_le _ _) (by decide))
      have hp41 : 2 ^ b ≤ 1099511627776 := Nat.pow_le_pow_right (n := 2) (j := 40) (by decide) (by omega)
      have hpz : (2 : Int) ^ b = ((2 ^ b : Nat) : Int) := by rw [Int.natCast_pow]; rfl
      obtain ⟨y, hy⟩ : ∃ y, x + 2 ^ b = y := ⟨_, rfl⟩
      have hy2 := hy
      obtain ⟨pw, hpw⟩ : ∃ pw : Nat, 2 ^ b = pw := ⟨_, rfl⟩
      rw [hpw] at hp41 hpz hy2
      have hyl : y ≤ 3298534883328 := by omega
      have hmin : min b 64 = b := by omega
      have e1 : IntKind.i64.wrap ((2 : Int) ^ b) = (pw : Int) := by rw [hpz]; exact IntWalk.i64_in _ ⟨by omega, by omega⟩
      have e2 : IntKind.i64.wrap ((x : Int) + pw) = (y : Int) := by rw [IntWalk.i64_in _ ⟨by omega, by omega⟩]; omega
      have e3 : (b : Int) % 18446744073709551616 = b := by omega
      have e4 : decide ((b : Int) ≥ 0) = true := decide_eq_true (by omega)
      have e5 : (0 : Int) ≤ b := by omega
      have e6 : ((b : Int)).toNat = b := by omega
      have hst : rootStep p 2 x b = if aboveN (rootP 2 y) (goalL p 2) (max (rootP 2 y).length (goalL p 2).length) then x else y := by rw [rootStep, hy]
      have HST := Lib.hid hst
      have hz3 : (b : Int) - 1 = 40 - ((s + 1 : Nat) : Int) := by omega
      have HZ := Lib.hid hz3
      clear hz3 hz hnx hx hst hpz hlt hp41 hpw hy hy2 hb
      go_wp2_with fail
      refine (digits_any y 3 (by omega) (by omega) _).mono ?_
      rintro e w3 ⟨vd, rfl, hod, hb3⟩
      have hdl := digL_len y 3
      have hdd := digL_dig y 3
      obtain ⟨D, hD⟩ : ∃ D, digL y 3 = D := ⟨_, rfl⟩
      rw [hD] at hod hdl hdd
      have hND := nums_own hod (by omega)
      have hbl3 := bthen hbl hb3
      clear hod
      go_wp2_with fail
      refine (times_any D D vd vd (by omega) (by omega) (by omega) (by omega) hdd hdd w3 hND hND).mono ?_
      rintro e w4 ⟨rfl, hk4, hb4⟩
      have hbl4 := bthen hbl3 hb4
      have htl : (timesL D D).length = 6 := by rw [timesL_len, hdl]
      have htd := timesL_dig hdd hdd
      have hRP2 : timesL (digL y 3) (digL y 3) = timesL D D := by rw [hD]
      obtain ⟨T, hT⟩ : ∃ T, timesL D D = T := ⟨_, rfl⟩
      rw [hT] at htl htd hk4 hRP2
      have hNT : NumsAt w4 (.slice (some ⟨w3.heap.size, 0, none⟩) 6 6) T := nums_blk hk4 htl
      have hRP : rootP 2 y = T := by rw [rootP, if_neg (by decide), hRP2]
      have hg := HN.out.all hbl4
      have HRP := Lib.hid hRP
      clear hRP hRP2 hD hT hdd htd hbl hbl3
      go_wp2_with fail
      refine (above_any T (goalL p 2) _ _ (by omega) (by omega) _ hNT hg).mono ?_
      rintro e w9 ⟨rfl, rfl⟩
      obtain ⟨ab, hab⟩ : ∃ ab, aboveN T (goalL p 2) (max T.length (goalL p 2).length) = ab := ⟨_, rfl⟩
      have hfin : rootN p 2 (s + 1) = if ab then x else y := by rw [HNX.out, HST.out, HRP.out, hab]
      have HF := Lib.hid hfin
      rw [hab]
      clear hfin hab hg hNT hk4 hND
      cases ab
      · go_wp2
        go_round
        case rel => exact ⟨s + 1, (b : Int) - 1, by omega, HZ.out, by go_num, by rw [HF.out]; rfl, hbl4⟩
        case measure => simp [intOf] <;> omega
      · go_wp2
        go_round
        case rel => exact ⟨s + 1, (b : Int) - 1, by omega, HZ.out, by go_num, by rw [HF.out]; rfl, hbl4⟩
        case measure => simp [intOf] <;> omega
    · obtain rfl : s = 41 := by omega
      obtain rfl : z = -1 := by omega
      rw [hx]
      have hm : ((x : Int)).tmod 4294967296 = ((x % 4294967296 : Nat) : Int) := by rw [Int.tmod_eq_emod_of_nonneg (by omega)]; omega
      have hfb := bthen hb2 hbl
      have HX := Lib.hid hx
      clear hx hlt
      go_wp2
      go_ret
      exact ⟨by rw [HX.out, Int.natCast_emod]; rfl, hfb⟩

set_option maxRecDepth 100000 in
set_option maxHeartbeats 4000000 in
theorem root3_any (p : Nat) (hp : p ≤ 1000) (w : World) :
    Calls Tryd.prog 44 #[.int .i64 p, .int .i64 3] w fun e w' => e = .returned (.int .i64 (rootN p 3 41 % 4294967296 : Nat)) ∧ Below w.heap.size w w' := by
  have hmk : (Instr.makeSlice 80 (.int .i64 6) (.int .i64 6)).run Tryd.prog w = .ok (.slice (some ⟨w.heap.size, 0, none⟩) 6 6) (w.alloc (.cells (natV (List.replicate 6 0)).toArray 3)) := run_make_ints 6 (by omega) w
  have hr0 := row_ints w 6 (by omega)
  obtain ⟨w0, hw0⟩ : ∃ x, w.alloc (.cells (natV (List.replicate 6 0)).toArray 3) = x := ⟨_, rfl⟩
  have hb0 : Below w.heap.size w w0 := by rw [← hw0]; exact (Below.refl _ _).alloc (Nat.le_refl _) _
  rw [hw0] at hmk hr0
  go_enter Tryd.func44, Tryd.ntmps44
  go_wp2_with fail
  refine (digits_any p 2 (by omega) (by omega) _).mono ?_
  rintro e w1 ⟨v, rfl, hown, hb1⟩
  have hr1 := row_below hr0 hb1
  have hb1' := bthen hb0 hb1
  have hs1 := hb1'.size
  obtain ⟨A, c, rfl, hrd⟩ := own_read hown
  obtain ⟨ad, rfl, _⟩ := hrd 0 (by omega)
  obtain ⟨i0, hi0, hz0, hz1, hz2⟩ := info_parts int_info
  go_wp2_with (at_builtin; refine wpList_append_own (P := Tryd.prog) _ rfl _ _ 80 rfl w.heap.size 3 i0 (.int .i64 0) 1 8 Tryd.underlying80 hi0 hz0 hz1 hz2 rfl (by decide) _ 6 _ rfl hr1 ad 2 c (natV (digL p 2)) rfl ?c0 ?c1 (natV_one _) (by unfold maxLen; omega) (by omega) hs1 ?_)
  case c0 => simp [natV, digL_len]
  case c1 =>
    intro j u hj
    have hj2 : j < 2 := by
      have : j < (natV (digL p 2)).length := by
        rw [List.getElem?_eq_some_iff] at hj
        exact hj.1
      simpa [natV, digL_len] using this
    obtain ⟨ad', h1, h2⟩ := hrd j hj2
    cases h1
    rw [h2, ← hj]
    simp [natV, List.getD, digL_len, hj2]
  intro G w2 hown2 hgr2 _
  replace hown2 : w2.ownsRow w.heap.size 3 1 G 8 (natV (goalL p 3)) := by rw [← goal_natV]; exact hown2
  have hgl : (goalL p 3).length = 8 := by simp [goalL, digL_len]
  have hb2 : Below w.heap.size w w2 := by
    refine hb1'.grown hgr2 hs1 ?_
    intro k hk
    exact (hr1.lt k hk).1
  have hN := nums_own hown2 (by omega)
  have HN := Lib.hid hN
  clear hN hown2 hgr2 hr1 hr0 hrd hown hmk hw0
  go_wp2_with fail
  go_loopw [6, 7] (fun x bit wr => ∃ s : Nat, ∃ z : Int, s ≤ 41 ∧ z = 40 - s ∧ bit = .int .i64 z ∧ x = .int .i64 (rootN p 3 s : Nat) ∧ Below w2.heap.size w2 wr) (fun _ bit _ => (intOf bit + 1).toNat)
  case atStart => exact ⟨0, 40, by omega, by omega, rfl, rfl, Below.refl _ _⟩
  case round =>
    obtain ⟨s, z, hs, hz, rfl, rfl, hbl⟩ := hrel
    have hlt := rootN_lt p 3 s hs
    obtain ⟨x, hx⟩ : ∃ x, rootN p 3 s = x := ⟨_, rfl⟩
    by_cases hl : s < 41
    · obtain ⟨b, hb⟩ : ∃ b, 40 - s = b := ⟨_, rfl⟩
      obtain rfl : z = (b : Int) := by omega
      have hnx : rootN p 3 (s + 1) = rootStep p 3 x b := by rw [rootN, hx, hb]
      rw [hx] at hlt ⊢
      have HNX := Lib.hid hnx
      have hxl : x ≤ 2199023255552 := Nat.le_trans hlt (Nat.le_trans (Nat.sub_le _ _) (by decide))
      have hp41 : 2 ^ b ≤ 1099511627776 := Nat.pow_le_pow_right (n := 2) (j := 40) (by decide) (by omega)
      have hpz : (2 : Int) ^ b = ((2 ^ b : Nat) : Int) := by rw [Int.natCast_pow]; rfl
      obtain ⟨y, hy⟩ : ∃ y, x + 2 ^ b = y := ⟨_, rfl⟩
      have hy2 := hy
      obtain ⟨pw, hpw⟩ : ∃ pw : Nat, 2 ^ b = pw := ⟨_, rfl⟩
      rw [hpw] at hp41 hpz hy2
      have hyl : y ≤ 3298534883328 := by omega
      have hmin : min b 64 = b := by omega
      have e1 : IntKind.i64.wrap ((2 : Int) ^ b) = (pw : Int) := by rw [hpz]; exact IntWalk.i64_in _ ⟨by omega, by omega⟩
      have e2 : IntKind.i64.wrap ((x : Int) + pw) = (y : Int) := by rw [IntWalk.i64_in _ ⟨by omega, by omega⟩]; omega
      have e3 : (b : Int) % 18446744073709551616 = b := by omega
      have e4 : decide ((b : Int) ≥ 0) = true := decide_eq_true (by omega)
      have e5 : (0 : Int) ≤ b := by omega
      have e6 : ((b : Int)).toNat = b := by omega
      have hst : rootStep p 3 x b = if aboveN (rootP 3 y) (goalL p 3) (max (rootP 3 y).length (goalL p 3).length) then x else y := by rw [rootStep, hy]
      have HST := Lib.hid hst
      have hz3 : (b : Int) - 1 = 40 - ((s + 1 : Nat) : Int) := by omega
      have HZ := Lib.hid hz3
      clear hz3 hz hnx hx hst hpz hlt hp41 hpw hy hy2 hb
      go_wp2_with fail
      refine (digits_any y 3 (by omega) (by omega) _).mono ?_
      rintro e w3 ⟨vd, rfl, hod, hb3⟩
      have hdl := digL_len y 3
      have hdd := digL_dig y 3
      obtain ⟨D, hD⟩ : ∃ D, digL y 3 = D := ⟨_, rfl⟩
      rw [hD] at hod hdl hdd
      have hND := nums_own hod (by omega)
      have hbl3 := bthen hbl hb3
      clear hod
      go_wp2_with fail
      refine (times_any D D vd vd (by omega) (by omega) (by omega) (by omega) hdd hdd w3 hND hND).mono ?_
      rintro e w4 ⟨rfl, hk4, hb4⟩
      have hbl4 := bthen hbl3 hb4
      have htl : (timesL D D).length = 6 := by rw [timesL_len, hdl]
      have htd := timesL_dig hdd hdd
      have hRP2 : timesL (digL y 3) (digL y 3) = timesL D D := by rw [hD]
      obtain ⟨T, hT⟩ : ∃ T, timesL D D = T := ⟨_, rfl⟩
      rw [hT] at htl htd hk4 hRP2
      have hN4 : NumsAt w4 (.slice (some ⟨w3.heap.size, 0, none⟩) 6 6) T := nums_blk hk4 htl
      have hND4 := hND.all hb4
      go_wp2_with fail
      refine (times_any T D _ vd (by omega) (by omega) (by omega) (by omega) htd hdd w4 hN4 hND4).mono ?_
      rintro e w5 ⟨rfl, hk5, hb5⟩
      have hbl45 := bthen hbl4 hb5
      have htl5 : (timesL T D).length = 9 := by rw [timesL_len, hdl, htl]
      have hRP : rootP 3 y = timesL T D := by rw [rootP, if_pos rfl, hRP2, hD]
      obtain ⟨U, hU⟩ : ∃ U, timesL T D = U := ⟨_, rfl⟩
      rw [hU] at htl5 hk5 hRP
      have hNT : NumsAt w5 (.slice (some ⟨w4.heap.size, 0, none⟩) 9 9) U := nums_blk hk5 htl5
      have hg := HN.out.all hbl45
      have HRP := Lib.hid hRP
      clear hRP hRP2 hD hT hdd htd hbl hbl3
      go_wp2_with fail
      refine (above_any U (goalL p 3) _ _ (by omega) (by omega) _ hNT hg).mono ?_
      rintro e w9 ⟨rfl, rfl⟩
      obtain ⟨ab, hab⟩ : ∃ ab, aboveN U (goalL p 3) (max U.length (goalL p 3).length) = ab := ⟨_, rfl⟩
      have hfin : rootN p 3 (s + 1) = if ab then x else y := by rw [HNX.out, HST.out, HRP.out, hab]
      have HF := Lib.hid hfin
      rw [hab]
      clear hfin hab hg hNT hk4 hND
      cases ab
      · go_wp2
        go_round
        case rel => exact ⟨s + 1, (b : Int) - 1, by omega, HZ.out, by go_num, by rw [HF.out]; rfl, hbl45⟩
        case measure => simp [intOf] <;> omega
      · go_wp2
        go_round
        case rel => exact ⟨s + 1, (b : Int) - 1, by omega, HZ.out, by go_num, by rw [HF.out]; rfl, hbl45⟩
        case measure => simp [intOf] <;> omega
    · obtain rfl : s = 41 := by omega
      obtain rfl : z = -1 := by omega
      rw [hx]
      have hm : ((x : Int)).tmod 4294967296 = ((x % 4294967296 : Nat) : Int) := by rw [Int.tmod_eq_emod_of_nonneg (by omega)]; omega
      have hfb := bthen hb2 hbl
      have HX := Lib.hid hx
      clear hx hlt
      go_wp2
      go_ret
      exact ⟨by rw [HX.out, Int.natCast_emod]; rfl, hfb⟩
end Go.Proofs.YtmdjbmhjnajpgaaDoor
