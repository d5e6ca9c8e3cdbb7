/- The reference of package sum: one: its contract. -/
import Derived.Test.YtppckmfaidpliaaDoorRu
import Derived.Test.YtppckmfaidpliaaDoorStl
namespace Go.Proofs.YtppckmfaidpliaaDoor
open Go.RowKit
set_option linter.unusedSimpArgs false
set_option linter.unnecessarySimpa false
set_option linter.unusedVariables false

theorem run_byte (s : List UInt8) (k : Nat) (hk : k < s.length) (z : Int) (hz : z = k) (w : World) : (Instr.index 9 (.string (bstr s)) (.int .i64 z)).run Tryd.prog w = .ok (.int .u8 ((s.getD k 0).toNat : Int)) w := by
  subst hz
  simp [Instr.index, run_underlying Tryd.underlying9, asIntOf, go_sem, part, bstr, hk, List.getD]
theorem shr_to (x : BitVec 32) (k : Nat) (d : Int) (hd : (2 : Int) ^ k = d) : u x / d = u (x >>> k) := by rw [← hd]; exact u_shr x k
theorem sum4_mod (a b c d : BitVec 32) : (u a + u b + u c + u d) % 4294967296 = u (a + b + c + d) := by
  unfold u
  simp only [BitVec.toNat_add]
  omega
theorem sum5_mod (a b c d e : BitVec 32) : (u a + u b + u c + u d + u e) % 4294967296 = u (a + b + c + d + e) := by
  unfold u
  simp only [BitVec.toNat_add]
  omega
theorem row_up {w : World} {base base' : Nat} {e : TypeId} {size n : Nat} {v : Value} {xs : List Value} (h : w.ownsRow base e size v n xs) (hb : base' ≤ base) : w.ownsRow base' e size v n xs := by
  rcases h.2 with h0 | ⟨g, cap, cur, rfl, h1, h2⟩
  · exact ⟨h.1, .inl h0⟩
  · exact ⟨h.1, .inr ⟨g, cap, cur, rfl, Nat.le_trans hb h1, h2⟩⟩
/-- a slice of these eight words, to be read -/
def Words8 (w : World) (v : Value) (y : H8) : Prop := ∃ g c, v = .slice (some ⟨g, 0, none⟩) 8 c ∧ w.cell? ⟨g, 0, none⟩ = some (.int .i64 (u y.a)) ∧ w.cell? ⟨g, 1, none⟩ = some (.int .i64 (u y.b)) ∧ w.cell? ⟨g, 2, none⟩ = some (.int .i64 (u y.c)) ∧ w.cell? ⟨g, 3, none⟩ = some (.int .i64 (u y.d)) ∧
  w.cell? ⟨g, 4, none⟩ = some (.int .i64 (u y.e)) ∧ w.cell? ⟨g, 5, none⟩ = some (.int .i64 (u y.f)) ∧ w.cell? ⟨g, 6, none⟩ = some (.int .i64 (u y.g)) ∧ w.cell? ⟨g, 7, none⟩ = some (.int .i64 (u y.h))
theorem words8 {w : World} {v : Value} {y : H8} (h : WordsAt w v y.l) : Words8 w v y := by
  obtain ⟨g, c, rfl, hA⟩ := h
  exact ⟨g, c, rfl, hA 0 (show 0 < 8 by decide), hA 1 (show 1 < 8 by decide), hA 2 (show 2 < 8 by decide), hA 3 (show 3 < 8 by decide), hA 4 (show 4 < 8 by decide), hA 5 (show 5 < 8 by decide), hA 6 (show 6 < 8 by decide), hA 7 (show 7 < 8 by decide)⟩
theorem Words8.at {w : World} {v : Value} {y : H8} (h : Words8 w v y) : WordsAt w v y.l := by
  obtain ⟨g, c, rfl, h0, h1, h2, h3, h4, h5, h6, h7⟩ := h
  refine ⟨g, c, rfl, fun j hj => ?_⟩
  have : j < 8 := hj
  have : j = 0 ∨ j = 1 ∨ j = 2 ∨ j = 3 ∨ j = 4 ∨ j = 5 ∨ j = 6 ∨ j = 7 := by omega
  rcases this with rfl | rfl | rfl | rfl | rfl | rfl | rfl | rfl <;> assumption
theorem words8_blk {w : World} {g : Nat} {y : H8} (h : Blk w g 3 #[.int .i64 (u y.a), .int .i64 (u y.b), .int .i64 (u y.c), .int .i64 (u y.d), .int .i64 (u y.e), .int .i64 (u y.f), .int .i64 (u y.g), .int .i64 (u y.h)]) : Words8 w (.slice (some ⟨g, 0, none⟩) 8 8) y :=
  ⟨g, 8, rfl, h.cell 0, h.cell 1, h.cell 2, h.cell 3, h.cell 4, h.cell 5, h.cell 6, h.cell 7⟩
theorem add_l (x y : H8) : (x.add y).l = [x.a + y.a, x.b + y.b, x.c + y.c, x.d + y.d, x.e + y.e, x.f + y.f, x.g + y.g, x.h + y.h] := rfl
theorem add_take (x y : H8) (j : Nat) (hj : j < 8) : (x.add y).l.take (j + 1) = (x.add y).l.take j ++ [x.l.getD j 0 + y.l.getD j 0] := by
  have : j = 0 ∨ j = 1 ∨ j = 2 ∨ j = 3 ∨ j = 4 ∨ j = 5 ∨ j = 6 ∨ j = 7 := by omega
  rcases this with rfl | rfl | rfl | rfl | rfl | rfl | rfl | rfl <;> rfl
theorem drew_row {w : World} {base : Nat} {e : TypeId} {size n : Nat} {v : Value} {xs : List Value} (h : w.ownsRow base e size v n xs) : w.drew.ownsRow base e size v n xs := h
set_option maxRecDepth 100000 in
set_option maxHeartbeats 4000000 in
theorem one_any (x : H8) (s : List UInt8) (hs : s.length = 64) (hv kv : Value) (w : World) (h1 : WordsAt w hv x.l) (h2 : WordsAt w kv rootsW) :
    Calls Tryd.prog 21 #[hv, .string (bstr s), kv] w fun e w' => ∃ v, e = .returned v ∧ w'.ownsRow w.heap.size 3 1 v 8 (xv (x.behind s).l) ∧ Below w.heap.size w w' := by
  go_enter Tryd.func21, Tryd.ntmps21
  go_wp2_with fail
  go_loopw [7, 8] (fun v i wr => ∃ t : Nat, t ≤ 64 ∧ i = .int .i64 t ∧ wr.ownsRow w.heap.size 3 1 v t (xv (schedW s t)) ∧ Below w.heap.size w wr) (fun _ i _ => 64 - (intOf i).toNat)
  case atStart => exact ⟨0, by omega, rfl, World.ownsRow_nil _ _ _ _, Below.refl _ _⟩
  case round =>
    obtain ⟨t, ht, rfl, hown, hbl⟩ := hrel
    by_cases hlt : t < 64
    · have q1 : decide ((t : Int) < 64) = true := decide_eq_true (by omega)
      by_cases hl16 : t < 16
      · have q2 : decide ((t : Int) < 16) = true := decide_eq_true (by omega)
        have hnx : schedW s (t + 1) = schedW s t ++ [joinW s (4 * t) 4] := by rw [schedW, if_pos hl16]
        rw [join_to] at hnx
        have r0 := run_byte s (4 * t) (by omega) (4 * (t : Int)) (by omega)
        have r1 := run_byte s (4 * t + 1) (by omega) (4 * (t : Int) + 1) (by omega)
        have r2 := run_byte s (4 * t + 2) (by omega) (4 * (t : Int) + 2) (by omega)
        have r3 := run_byte s (4 * t + 3) (by omega) (4 * (t : Int) + 3) (by omega)
        obtain ⟨b0, h0⟩ : ∃ b, s.getD (4 * t) 0 = b := ⟨_, rfl⟩
        obtain ⟨b1, h1⟩ : ∃ b, s.getD (4 * t + 1) 0 = b := ⟨_, rfl⟩
        obtain ⟨b2, h2⟩ : ∃ b, s.getD (4 * t + 2) 0 = b := ⟨_, rfl⟩
        obtain ⟨b3, h3⟩ : ∃ b, s.getD (4 * t + 3) 0 = b := ⟨_, rfl⟩
        rw [h0, h1, h2, h3] at hnx
        rw [h0] at r0
        rw [h1] at r1
        rw [h2] at r2
        rw [h3] at r3
        have l0 := b0.toNat_lt
        have l1 := b1.toNat_lt
        have l2 := b2.toNat_lt
        have l3 := b3.toNat_lt
        have w0 : IntKind.i64.wrap (4 * (t : Int)) = 4 * t := IntWalk.i64_in _ ⟨by omega, by omega⟩
        have w1 : IntKind.i64.wrap (4 * (t : Int) + 1) = 4 * t + 1 := IntWalk.i64_in _ ⟨by omega, by omega⟩
        have w2 : IntKind.i64.wrap (4 * (t : Int) + 2) = 4 * t + 2 := IntWalk.i64_in _ ⟨by omega, by omega⟩
        have w3 : IntKind.i64.wrap (4 * (t : Int) + 3) = 4 * t + 3 := IntWalk.i64_in _ ⟨by omega, by omega⟩
        have v0 : IntKind.i64.wrap ((b0.toNat : Int) * 16777216) = b0.toNat * 16777216 := IntWalk.i64_in _ ⟨by omega, by omega⟩
        have v1 : IntKind.i64.wrap ((b1.toNat : Int) * 65536) = b1.toNat * 65536 := IntWalk.i64_in _ ⟨by omega, by omega⟩
        have v2 : IntKind.i64.wrap ((b2.toNat : Int) * 256) = b2.toNat * 256 := IntWalk.i64_in _ ⟨by omega, by omega⟩
        have v3 : IntKind.i64.wrap (b3.toNat : Int) = b3.toNat := IntWalk.i64_in _ ⟨by omega, by omega⟩
        have hjo := join_four b0 b1 b2 b3
        have HNX := Lib.hid hnx
        have y0 : IntKind.i64.wrap (b0.toNat : Int) = b0.toNat := IntWalk.i64_in _ ⟨by omega, by omega⟩
        have y1 : IntKind.i64.wrap (b1.toNat : Int) = b1.toNat := IntWalk.i64_in _ ⟨by omega, by omega⟩
        have y2 : IntKind.i64.wrap (b2.toNat : Int) = b2.toNat := IntWalk.i64_in _ ⟨by omega, by omega⟩
        obtain ⟨X, hX⟩ : ∃ X, (((((((0 : BitVec 32) <<< 8) ||| byteW b0) <<< 8) ||| byteW b1) <<< 8 ||| byteW b2) <<< 8 ||| byteW b3) = X := ⟨_, rfl⟩
        rw [hX] at hjo
        have hnx2 : xv (schedW s t) ++ [Value.int .i64 (u X)] = xv (schedW s (t + 1)) := by rw [HNX.out, hX, xv_append]
        have HN2 := Lib.hid hnx2
        have F1 := Lib.hid (show t + 1 ≤ maxLen by unfold maxLen; omega)
        have F2 := Lib.hid (show (t + 1) * 8 ≤ 140737488355328 by omega)
        clear h0 h1 h2 h3 hnx hX hnx2
        go_wp2_with fail
        have hod := drew_row hown
        have hbd := hbl.drew
        obtain ⟨wd, hwd⟩ : ∃ y, wr.drew = y := ⟨_, rfl⟩
        rw [hwd] at hod hbd
        have hsz := hbd.size
        clear hown hbl
        refine wp_region_lag 30 (by kernel_rfl) (by kernel_rfl) rfl (.inl ⟨rfl, fun _ => rfl⟩) (fun _ _ _ h => h) ?_
        simp only [List.take_succ_cons, List.take_zero, List.drop_succ_cons, List.drop_zero]
        go_simp
        try rw [hwd]
        clear hwd
        repeat still_step
        refine wpStill_nil ?_
        go_wp2_with (at_builtin; refine wpList_app (P := Tryd.prog) _ rfl _ _ 36 rfl w.heap.size 3 (.int .i64 0) 1 8 Tryd.underlying36 int_info rfl (by decide) _ t _ rfl hod _ rfl rfl ?c1 F1.out F2.out hsz ?_)
        case c1 => intro u hu; simp at hu; subst hu; rfl
        intro v' w1 hown1 _ hb1
        rw [HN2.out] at hown1
        have hb9 := hbd.trans hb1
        go_wp2
        go_roundw
        case rel => exact ⟨t + 1, by omega, by go_num, hown1, hb9⟩
        case measure => simp [intOf] <;> omega
      · have q2 : decide ((t : Int) < 16) = false := decide_eq_false (by omega)
        have hnx : schedW s (t + 1) = schedW s t ++ [nextW (schedW s t) t] := by rw [schedW, if_neg hl16]
        obtain ⟨g, c, hv', hA⟩ := words_own hown (by omega)
        rw [schedW_len] at hv' hA
        subst hv'
        obtain ⟨m, hm⟩ : ∃ m, schedW s t = m := ⟨_, rfl⟩
        rw [hm] at hnx hown hA
        unfold nextW at hnx
        obtain ⟨j15, hj15⟩ : ∃ j, t - 15 = j := ⟨_, rfl⟩
        obtain ⟨j2, hj2⟩ : ∃ j, t - 2 = j := ⟨_, rfl⟩
        obtain ⟨j7, hj7⟩ : ∃ j, t - 7 = j := ⟨_, rfl⟩
        obtain ⟨j16, hj16⟩ : ∃ j, t - 16 = j := ⟨_, rfl⟩
        rw [hj15, hj2, hj7, hj16] at hnx
        have b15 : j15 < t := by omega
        have b2 : j2 < t := by omega
        have b7 : j7 < t := by omega
        have b16 : j16 < t := by omega
        have e15 : IntKind.i64.wrap ((t : Int) - 15) = j15 := by rw [IntWalk.i64_in _ ⟨by omega, by omega⟩]; omega
        have e2 : IntKind.i64.wrap ((t : Int) - 2) = j2 := by rw [IntWalk.i64_in _ ⟨by omega, by omega⟩]; omega
        have e7 : IntKind.i64.wrap ((t : Int) - 7) = j7 := by rw [IntWalk.i64_in _ ⟨by omega, by omega⟩]; omega
        have e16 : IntKind.i64.wrap ((t : Int) - 16) = j16 := by rw [IntWalk.i64_in _ ⟨by omega, by omega⟩]; omega
        have c15 := hA j15 b15
        have c2 := hA j2 b2
        have c7 := hA j7 b7
        have c16 := hA j16 b16
        obtain ⟨X15, hX15⟩ : ∃ y, m.getD j15 0 = y := ⟨_, rfl⟩
        obtain ⟨X2, hX2⟩ : ∃ y, m.getD j2 0 = y := ⟨_, rfl⟩
        obtain ⟨X7, hX7⟩ : ∃ y, m.getD j7 0 = y := ⟨_, rfl⟩
        obtain ⟨X16, hX16⟩ : ∃ y, m.getD j16 0 = y := ⟨_, rfl⟩
        rw [hX15] at c15
        rw [hX2] at c2
        rw [hX7] at c7
        rw [hX16] at c16
        rw [hX15, hX2, hX7, hX16] at hnx
        have hod := drew_row hown
        have hbd := hbl.drew
        obtain ⟨wd, hwd⟩ : ∃ y, wr.drew = y := ⟨_, rfl⟩
        have d7 : wd.cell? ⟨g, j7, none⟩ = some (.int .i64 (u X7)) := by rw [← hwd]; exact c7
        have d16 : wd.cell? ⟨g, j16, none⟩ = some (.int .i64 (u X16)) := by rw [← hwd]; exact c16
        rw [hwd] at hod hbd
        have hsz := hbd.size
        obtain ⟨S1, hS1⟩ : ∃ y, (rotr X2 17 ^^^ rotr X2 19) ^^^ (X2 >>> 10) = y := ⟨_, rfl⟩
        obtain ⟨S0, hS0⟩ : ∃ y, (rotr X15 7 ^^^ rotr X15 18) ^^^ (X15 >>> 3) = y := ⟨_, rfl⟩
        obtain ⟨R, hRR⟩ : ∃ y, S1 + X7 + S0 + X16 = y := ⟨_, rfl⟩
        rw [hS1, hS0, hRR] at hnx
        have T17 : Calls Tryd.prog 32 #[.int .i64 (u X2), .int .i64 17] wd fun e w' => e = .returned (.int .i64 (u (rotr X2 17))) ∧ w' = wd := turn_still X2 17 (by omega) (by omega) wd
        have T19 : Calls Tryd.prog 32 #[.int .i64 (u X2), .int .i64 19] wd fun e w' => e = .returned (.int .i64 (u (rotr X2 19))) ∧ w' = wd := turn_still X2 19 (by omega) (by omega) wd
        have T7 : Calls Tryd.prog 32 #[.int .i64 (u X15), .int .i64 7] wd fun e w' => e = .returned (.int .i64 (u (rotr X15 7))) ∧ w' = wd := turn_still X15 7 (by omega) (by omega) wd
        have T18 : Calls Tryd.prog 32 #[.int .i64 (u X15), .int .i64 18] wd fun e w' => e = .returned (.int .i64 (u (rotr X15 18))) ∧ w' = wd := turn_still X15 18 (by omega) (by omega) wd
        have sh10 := shr_to X2 10 1024 (by decide)
        have sh3 := shr_to X15 3 8 (by decide)
        have x1 := x_xor (rotr X2 17) (rotr X2 19)
        have x2 := x_xor (rotr X2 17 ^^^ rotr X2 19) (X2 >>> 10)
        have x3 := x_xor (rotr X15 7) (rotr X15 18)
        have x4 := x_xor (rotr X15 7 ^^^ rotr X15 18) (X15 >>> 3)
        rw [hS1] at x2
        rw [hS0] at x4
        have l1 := u_lo S1
        have h1' := u_hi S1
        have l2 := u_lo X7
        have h2' := u_hi X7
        have l3 := u_lo S0
        have h3' := u_hi S0
        have l4 := u_lo X16
        have h4' := u_hi X16
        have w1e : IntKind.i64.wrap (u S1 + u X7) = u S1 + u X7 := IntWalk.i64_in _ ⟨by omega, by omega⟩
        have w2e : IntKind.i64.wrap (u S1 + u X7 + u S0) = u S1 + u X7 + u S0 := IntWalk.i64_in _ ⟨by omega, by omega⟩
        have w3e : IntKind.i64.wrap (u S1 + u X7 + u S0 + u X16) = u S1 + u X7 + u S0 + u X16 := IntWalk.i64_in _ ⟨by omega, by omega⟩
        have hmod := sum4_mod S1 X7 S0 X16
        rw [hRR] at hmod
        have WD := word_still (u S1 + u X7 + u S0 + u X16) R (by omega) hmod wd
        have hnx2 : xv m ++ [Value.int .i64 (u R)] = xv (schedW s (t + 1)) := by rw [hnx, xv_append]
        have HN2 := Lib.hid hnx2
        have F1 := Lib.hid (show t + 1 ≤ maxLen by unfold maxLen; omega)
        have F2 := Lib.hid (show (t + 1) * 8 ≤ 140737488355328 by omega)
        clear hX15 hX2 hX7 hX16 hnx hnx2 hm hA hown hbl hmod hRR hS1 hS0 hj15 hj2 hj7 hj16
        go_wp2_with fail
        refine wp_region_lag 31 (by kernel_rfl) (by kernel_rfl) rfl (.inl ⟨rfl, fun _ => rfl⟩) (fun _ _ _ h => h) ?_
        simp only [List.take_succ_cons, List.take_zero, List.drop_succ_cons, List.drop_zero]
        go_simp
        try rw [hwd]
        clear hwd
        repeat still_step
        still_call T17
        repeat still_step
        still_call T19
        repeat still_step
        still_call T7
        repeat still_step
        still_call T18
        repeat still_step
        still_call WD
        repeat still_step
        refine wpStill_nil ?_
        go_wp2_with (at_builtin; refine wpList_app (P := Tryd.prog) _ rfl _ _ 36 rfl w.heap.size 3 (.int .i64 0) 1 8 Tryd.underlying36 int_info rfl (by decide) _ t _ rfl hod _ rfl rfl ?c1 F1.out F2.out hsz ?_)
        case c1 => intro u hu; simp at hu; subst hu; rfl
        intro v' w1 hown1 _ hb1
        rw [HN2.out] at hown1
        have hb9 := hbd.trans hb1
        go_wp2
        go_roundw
        case rel => exact ⟨t + 1, by omega, by go_num, hown1, hb9⟩
        case measure => simp [intOf] <;> omega
    · obtain rfl : t = 64 := by omega
      have q1 : decide ((64 : Int) < 64) = false := by decide
      have hS := words_own hown (by omega)
      have hH := h1.all hbl
      have hK := h2.all hbl
      obtain ⟨M, hM⟩ : ∃ M, schedW s 64 = M := ⟨_, rfl⟩
      have hMl : M.length = 64 := by rw [← hM, schedW_len]
      rw [hM] at hS
      have hbeh : x.behind s = x.add (x.rounds M 64) := by rw [H8.behind, hM]
      have HB := Lib.hid hbeh
      clear hbeh hM hown
      obtain ⟨gh, ch, hhv, hHA⟩ := hH
      obtain ⟨gs, csx, hsv, hSA⟩ := hS
      obtain ⟨gk, ck, hkv, hKA⟩ := hK
      rw [show x.l.length = 8 from rfl] at hhv
      rw [hMl] at hsv hSA
      rw [show rootsW.length = 64 from rfl] at hkv hKA
      subst hhv
      subst hsv
      subst hkv
      have HHA := Lib.hid hHA
      have HSA := Lib.hid hSA
      have HKA := Lib.hid hKA
      have hsz := hbl.size
      clear hHA hSA hKA h1 h2
      obtain ⟨i0, hi0, hz0, hz1, hz2⟩ := info_parts int_info
      go_wp2_with (at_builtin; refine wpList_append_own (P := Tryd.prog) _ rfl _ _ 36 rfl wr.heap.size 3 i0 (.int .i64 0) 1 8 Tryd.underlying36 hi0 hz0 hz1 hz2 rfl (by decide) _ 0 [] rfl (World.ownsRow_nil _ _ _ _) ⟨gh, 0, none⟩ 8 ch (xv x.l) rfl rfl ?c1 (xv_one _) (by unfold maxLen; omega) (by omega) (Nat.le_refl _) ?_)
      case c1 =>
        intro j y hj
        have hj2 : j < 8 := by
          rw [List.getElem?_eq_some_iff] at hj
          exact hj.1
        have : (⟨gh, 0, none⟩ : Addr).add j = ⟨gh, j, none⟩ := by unfold Addr.add; split <;> simp_all
        rw [this, HHA.out j hj2, ← hj]
        simp [xv, List.getD, show j < x.l.length from hj2]
      intro v2 w2 hown2 hgr2 _
      have hW2 := (words8 (words_own hown2 (by omega)))
      have hb2 : Below wr.heap.size wr w2 := (Below.refl _ _).grown hgr2 (Nat.le_refl _) (fun k hk => by cases hk)
      have hbl2 := bthen hbl hb2
      have HW2 := Lib.hid hW2
      clear hown2 hgr2 hW2
      go_wp2_with fail
      go_loopw [11, 12] (fun v i wv => ∃ t : Nat, t ≤ 64 ∧ i = .int .i64 t ∧ Words8 wv v (x.rounds M t) ∧ Below w2.heap.size w2 wv) (fun _ i _ => 64 - (intOf i).toNat)
      case atStart => exact ⟨0, by omega, rfl, HW2.out, Below.refl _ _⟩
      case round =>
        obtain ⟨t, ht, rfl, hW, hb⟩ := hrel
        by_cases hlt : t < 64
        · have q2 : decide ((t : Int) < 64) = true := decide_eq_true (by omega)
          obtain ⟨Y, hY⟩ : ∃ Y, x.rounds M t = Y := ⟨_, rfl⟩
          have hnx : x.rounds M (t + 1) = Y.round (rootsW.getD t 0) (M.getD t 0) := by rw [H8.rounds, hY]
          rw [hY] at hW
          have hbb := bthen hb2 hb
          have kc : wr.cell? ⟨gk, t, none⟩ = some (.int .i64 (u (rootsW.getD t 0))) := by rw [hbb.cell (p := ⟨gk, t, none⟩) (cell_lt (HKA.out t hlt))]; exact HKA.out t hlt
          have sc : wr.cell? ⟨gs, t, none⟩ = some (.int .i64 (u (M.getD t 0))) := by rw [hbb.cell (p := ⟨gs, t, none⟩) (cell_lt (HSA.out t hlt))]; exact HSA.out t hlt
          obtain ⟨KK, hKK⟩ : ∃ y, rootsW.getD t 0 = y := ⟨_, rfl⟩
          obtain ⟨SS, hSS⟩ : ∃ y, M.getD t 0 = y := ⟨_, rfl⟩
          rw [hKK] at kc hnx
          rw [hSS] at sc hnx
          clear hY hKK hSS
          obtain ⟨g, c, rfl, v0, v1, v2, v3, v4, v5, v6, v7⟩ := hW
          obtain ⟨A, B, C, D, E, F, G, H⟩ := Y
          simp only at v0 v1 v2 v3 v4 v5 v6 v7
          obtain ⟨SE, hSE⟩ : ∃ y, (rotr E 6 ^^^ rotr E 11) ^^^ rotr E 25 = y := ⟨_, rfl⟩
          obtain ⟨SA, hSA⟩ : ∃ y, (rotr A 2 ^^^ rotr A 13) ^^^ rotr A 22 = y := ⟨_, rfl⟩
          obtain ⟨CH, hCH⟩ : ∃ y, (E &&& F) ^^^ (~~~ E &&& G) = y := ⟨_, rfl⟩
          obtain ⟨MJ, hMJ⟩ : ∃ y, ((A &&& B) ^^^ (A &&& C)) ^^^ (B &&& C) = y := ⟨_, rfl⟩
          obtain ⟨T1, hT1⟩ : ∃ y, H + SE + CH + KK + SS = y := ⟨_, rfl⟩
          obtain ⟨T2, hT2⟩ : ∃ y, SA + MJ = y := ⟨_, rfl⟩
          have hnx2 : x.rounds M (t + 1) = ⟨T1 + T2, A, B, C, D + T1, E, F, G⟩ := by
            rw [hnx, H8.round, H8.t1, H8.t2]
            simp only [hSE, hSA, hCH, hMJ, hT1, hT2]
          have HNX := Lib.hid hnx2
          have T6 : ∀ w, Calls Tryd.prog 32 #[.int .i64 (u E), .int .i64 6] w fun e w' => e = .returned (.int .i64 (u (rotr E 6))) ∧ w' = w := fun w => turn_still E 6 (by omega) (by omega) w
          have T11 : ∀ w, Calls Tryd.prog 32 #[.int .i64 (u E), .int .i64 11] w fun e w' => e = .returned (.int .i64 (u (rotr E 11))) ∧ w' = w := fun w => turn_still E 11 (by omega) (by omega) w
          have T25 : ∀ w, Calls Tryd.prog 32 #[.int .i64 (u E), .int .i64 25] w fun e w' => e = .returned (.int .i64 (u (rotr E 25))) ∧ w' = w := fun w => turn_still E 25 (by omega) (by omega) w
          have T2' : ∀ w, Calls Tryd.prog 32 #[.int .i64 (u A), .int .i64 2] w fun e w' => e = .returned (.int .i64 (u (rotr A 2))) ∧ w' = w := fun w => turn_still A 2 (by omega) (by omega) w
          have T13 : ∀ w, Calls Tryd.prog 32 #[.int .i64 (u A), .int .i64 13] w fun e w' => e = .returned (.int .i64 (u (rotr A 13))) ∧ w' = w := fun w => turn_still A 13 (by omega) (by omega) w
          have T22 : ∀ w, Calls Tryd.prog 32 #[.int .i64 (u A), .int .i64 22] w fun e w' => e = .returned (.int .i64 (u (rotr A 22))) ∧ w' = w := fun w => turn_still A 22 (by omega) (by omega) w
          have x1 := x_xor (rotr E 6) (rotr E 11)
          have x2 := x_xor (rotr E 6 ^^^ rotr E 11) (rotr E 25)
          have x3 := x_xor (rotr A 2) (rotr A 13)
          have x4 := x_xor (rotr A 2 ^^^ rotr A 13) (rotr A 22)
          rw [hSE] at x2
          rw [hSA] at x4
          have n1 := x_and E F
          have n2 := x_and (~~~ E) G
          have n3 := x_and A B
          have n4 := x_and A C
          have n5 := x_and B C
          have o1 := x_or (E &&& F) (~~~ E &&& G)
          rw [ch_or, hCH] at o1
          have o2 := x_or (A &&& B) (A &&& C)
          have o3 := x_or ((A &&& B) ||| (A &&& C)) (B &&& C)
          rw [maj_or, hMJ] at o3
          have lE := u_lo E
          have hE := u_hi E
          have nE : IntKind.i64.wrap (4294967295 - u E) = u (~~~ E) := by rw [← x_not]; exact IntWalk.i64_in _ ⟨by omega, by omega⟩
          have l1 := u_lo H
          have g1 := u_hi H
          have l2 := u_lo SE
          have g2 := u_hi SE
          have l3 := u_lo CH
          have g3 := u_hi CH
          have l4 := u_lo KK
          have g4 := u_hi KK
          have l5 := u_lo SS
          have g5 := u_hi SS
          have l6 := u_lo SA
          have g6 := u_hi SA
          have l7 := u_lo MJ
          have g7 := u_hi MJ
          have l8 := u_lo T1
          have g8 := u_hi T1
          have l9 := u_lo T2
          have g9 := u_hi T2
          have l0 := u_lo D
          have g0 := u_hi D
          have w1e : IntKind.i64.wrap (u H + u SE) = u H + u SE := IntWalk.i64_in _ ⟨by omega, by omega⟩
          have w2e : IntKind.i64.wrap (u H + u SE + u CH) = u H + u SE + u CH := IntWalk.i64_in _ ⟨by omega, by omega⟩
          have w3e : IntKind.i64.wrap (u H + u SE + u CH + u KK) = u H + u SE + u CH + u KK := IntWalk.i64_in _ ⟨by omega, by omega⟩
          have w4e : IntKind.i64.wrap (u H + u SE + u CH + u KK + u SS) = u H + u SE + u CH + u KK + u SS := IntWalk.i64_in _ ⟨by omega, by omega⟩
          have w5e : IntKind.i64.wrap (u SA + u MJ) = u SA + u MJ := IntWalk.i64_in _ ⟨by omega, by omega⟩
          have w6e : IntKind.i64.wrap (u T1 + u T2) = u T1 + u T2 := IntWalk.i64_in _ ⟨by omega, by omega⟩
          have w7e : IntKind.i64.wrap (u D + u T1) = u D + u T1 := IntWalk.i64_in _ ⟨by omega, by omega⟩
          have m1 := sum5_mod H SE CH KK SS
          rw [hT1] at m1
          have m2 := u_add' SA MJ
          rw [hT2] at m2
          have m3 := u_add' T1 T2
          have m4 := u_add' D T1
          have W1 := word_still (u H + u SE + u CH + u KK + u SS) T1 (by omega) m1
          have W2 := word_still (u SA + u MJ) T2 (by omega) m2
          have W3 := word_still (u T1 + u T2) (T1 + T2) (by omega) m3
          have W4 := word_still (u D + u T1) (D + T1) (by omega) m4
          have T0 : (0 : Int) ≤ t := by omega
          have T64 : (t : Int) < 64 := by omega
          clear m1 m2 m3 m4 hSE hSA hCH hMJ hT1 hT2 hnx hnx2
          go_wp2_with fail
          refine wp_region_quiet (by kernel_rfl) (by kernel_rfl) ?_
          repeat still_step
          refine wpStill_nil ?_
          go_wp2_with fail
          refine wp_region_quiet (by kernel_rfl) (by kernel_rfl) ?_
          repeat still_step
          refine wpStill_nil ?_
          go_wp2_with fail
          refine wp_region_quiet (by kernel_rfl) (by kernel_rfl) ?_
          repeat still_step
          refine wpStill_nil ?_
          go_wp2_with fail
          refine wp_region_quiet (by kernel_rfl) (by kernel_rfl) ?_
          repeat still_step
          still_call (T6 _)
          repeat still_step
          still_call (T11 _)
          repeat still_step
          still_call (T25 _)
          repeat still_step
          still_call (W1 _)
          repeat still_step
          refine wpStill_nil ?_
          go_wp2_with fail
          refine (T2' _).mono ?_
          rintro e w5 ⟨rfl, rfl⟩
          go_wp2_with fail
          refine (T13 _).mono ?_
          rintro e w5 ⟨rfl, rfl⟩
          go_wp2_with fail
          refine (T22 _).mono ?_
          rintro e w5 ⟨rfl, rfl⟩
          go_wp2_with fail
          refine (W2 _).mono ?_
          rintro e w5 ⟨rfl, rfl⟩
          go_wp2_with fail
          refine wp_region_tail 24 (by kernel_rfl) (by kernel_rfl) ?_
          simp only [List.take_succ_cons, List.take_zero, List.drop_succ_cons, List.drop_zero]
          repeat still_step
          still_call (W3 _)
          repeat still_step
          still_call (W4 _)
          repeat still_step
          refine wpStill_nil ?_
          go_wp2
          go_roundw
          case rel =>
            refine ⟨t + 1, by omega, by go_num, ?_, ?_⟩
            · rw [HNX.out]
              exact words8_blk (((((blk_at rfl).drew).drew).drew).drew).drew
            · exact (((((hb.alloc hb.size _).drew).drew).drew).drew).drew
          case measure => simp [intOf] <;> omega
        · obtain rfl : t = 64 := by omega
          have q2 : decide ((64 : Int) < 64) = false := by decide
          obtain ⟨V, hV⟩ : ∃ V, x.rounds M 64 = V := ⟨_, rfl⟩
          have hfin : x.behind s = x.add V := by rw [HB.out, hV]
          rw [hV] at hW
          have HF := Lib.hid hfin
          clear hfin hV
          obtain ⟨g, c, rfl, hVA⟩ := hW.at
          rw [show V.l.length = 8 from rfl] at hVA ⊢
          have hbb := bthen hb2 hb
          have hfb := bthen hbl hbb
          have hHB : ∀ j, j < 8 → wr.cell? ⟨gh, j, none⟩ = some (.int .i64 (u (x.l.getD j 0))) := fun j hj => by rw [hbb.cell (p := ⟨gh, j, none⟩) (cell_lt (HHA.out j hj))]; exact HHA.out j hj
          have HVA := Lib.hid hVA
          have HHB := Lib.hid hHB
          have HSZ := Lib.hid hfb.size
          clear hVA hHB hW hsz
          go_wp2_with fail
          go_loopw [19, 20] (fun v i wv => ∃ j : Nat, j ≤ 8 ∧ i = .int .i64 j ∧ wv.ownsRow wr.heap.size 3 1 v j (xv ((x.add V).l.take j)) ∧ Below wr.heap.size wr wv) (fun _ i _ => 8 - (intOf i).toNat)
          case atStart => exact ⟨0, by omega, rfl, World.ownsRow_nil _ _ _ _, Below.refl _ _⟩
          case round =>
            obtain ⟨j, hj, rfl, hown, hb3⟩ := hrel
            by_cases hlt : j < 8
            · have q3 : decide ((j : Int) < 8) = true := decide_eq_true (by omega)
              have T0 : (0 : Int) ≤ j := by omega
              have T8 : (j : Int) < 8 := by omega
              have kc : wr.cell? ⟨gh, j, none⟩ = some (.int .i64 (u (x.l.getD j 0))) := by rw [hb3.cell (p := ⟨gh, j, none⟩) (cell_lt (HHB.out j hlt))]; exact HHB.out j hlt
              have vc : wr.cell? ⟨g, j, none⟩ = some (.int .i64 (u (V.l.getD j 0))) := by rw [hb3.cell (p := ⟨g, j, none⟩) (cell_lt (HVA.out j hlt))]; exact HVA.out j hlt
              have hnx := add_take x V j hlt
              obtain ⟨A, hA⟩ : ∃ y, x.l.getD j 0 = y := ⟨_, rfl⟩
              obtain ⟨B, hB⟩ : ∃ y, V.l.getD j 0 = y := ⟨_, rfl⟩
              rw [hA] at kc hnx
              rw [hB] at vc hnx
              clear hA hB
              obtain ⟨ol, hol⟩ : ∃ y, (x.add V).l.take j = y := ⟨_, rfl⟩
              rw [hol] at hown hnx
              have hnx2 : xv ol ++ [Value.int .i64 (u (A + B))] = xv ((x.add V).l.take (j + 1)) := by rw [hnx, xv_append]
              have HN2 := Lib.hid hnx2
              have l1 := u_lo A
              have g1 := u_hi A
              have l2 := u_lo B
              have g2 := u_hi B
              have w1e : IntKind.i64.wrap (u A + u B) = u A + u B := IntWalk.i64_in _ ⟨by omega, by omega⟩
              have W1 := word_still (u A + u B) (A + B) (by omega) (u_add' A B)
              have F1 := Lib.hid (show j + 1 ≤ maxLen by unfold maxLen; omega)
              have F2 := Lib.hid (show (j + 1) * 8 ≤ 140737488355328 by omega)
              have hod := drew_row hown
              have hbd := hb3.drew
              obtain ⟨wd, hwd⟩ : ∃ y, wr.drew = y := ⟨_, rfl⟩
              have kd : wd.cell? ⟨gh, j, none⟩ = some (.int .i64 (u A)) := by rw [← hwd]; exact kc
              have vd : wd.cell? ⟨g, j, none⟩ = some (.int .i64 (u B)) := by rw [← hwd]; exact vc
              rw [hwd] at hod hbd
              have hsz := hbd.size
              clear hnx hnx2 hol hown hb3
              go_wp2_with fail
              refine wp_region_lag 11 (by kernel_rfl) (by kernel_rfl) rfl (.inl ⟨rfl, fun _ => rfl⟩) (fun _ _ _ h => h) ?_
              simp only [List.take_succ_cons, List.take_zero, List.drop_succ_cons, List.drop_zero]
              go_simp
              try rw [hwd]
              clear hwd
              repeat still_step
              still_call (W1 _)
              repeat still_step
              refine wpStill_nil ?_
              go_wp2_with (at_builtin; refine wpList_app (P := Tryd.prog) _ rfl _ _ 36 rfl _ 3 (.int .i64 0) 1 8 Tryd.underlying36 int_info rfl (by decide) _ j _ rfl hod _ rfl rfl ?c1 F1.out F2.out hsz ?_)
              case c1 => intro u hu; simp at hu; subst hu; rfl
              intro v' w1 hown1 _ hb1
              rw [HN2.out] at hown1
              have hb9 := hbd.trans hb1
              go_wp2
              go_roundw
              case rel =>
                refine ⟨_, _, _, _, _, _, _, _, _, _, _, _, _, _, _, _, _, _, _, ?_, rfl⟩
                exact ⟨j + 1, by omega, by go_num, hown1, hb9⟩
              case measure => simp [intOf] <;> omega
            · obtain rfl : j = 8 := by omega
              have q3 : decide ((8 : Int) < 8) = false := by decide
              have hfb2 := bthen hfb hb3
              have HOW := Lib.hid (row_up hown HSZ.out)
              clear hown
              go_wp2
              go_ret
              exact ⟨_, rfl, by rw [HF.out]; exact HOW.out, hfb2⟩
end Go.Proofs.YtppckmfaidpliaaDoor
