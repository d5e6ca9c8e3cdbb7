/- The reference of package sum: Hex: its contract; append of several elements at once. -/
import Derived.Test.YtppckmfaidpliaaDoorStl
import Derived.Test.YtppckmfaidpliaaDoorSm6
namespace Go.Proofs.YtppckmfaidpliaaDoor
open Go.RowKit
set_option linter.unusedSimpArgs false
set_option linter.unnecessarySimpa false
set_option linter.unusedVariables false

/-- append of m elements that have just been laid -/
theorem wpList_appm {P : Program} {ops : Array Oper} {rest : List Oper} {o : Oper} {a : Act} {Q : Exit → Act → World → Prop} (w : World) (hg : o.guard = none) (s x : Operand) (t : TypeId)
    (hop : o.op = .call { callee := .builtin .append, args := #[s, x], argTypes := #[t, t] })
    (B : Nat) (e : TypeId) (z : Value) (size bytes : Nat) (hu : P.underlying t = some (.slice e)) (hi : (P.info? e).map (fun i => (i.zero, i.size, i.bytes)) = some (some z, size, bytes))
    (hzs : z.cells.size = size) (hsz : 0 < size) (v : Value) (n m : Nat) (xs : List Value) (hs : a.eval s = v) (hown : w.ownsRow B e size v n xs)
    (us : List Value) (hx : a.eval x = .slice (some ⟨w.heap.size, 0, none⟩) m m) (hl : us.length = m * size) (h1 : ∀ u ∈ us, u.oneCell' = true)
    (hm : 0 < m) (h63 : n + m ≤ maxLen) (hbytes : (n + m) * bytes ≤ 140737488355328) (hB : B ≤ w.heap.size)
    (h : ∀ v' w', w'.ownsRow B e size v' (n + m) (xs ++ us) → (w.alloc (.cells us.toArray e)).grownBy w' v.ownBlock → Below B w w' → wpList P ops Q rest (a.put o.dst v') w') :
    wpList P ops Q (o :: rest) a (w.alloc (.cells us.toArray e)) := by
  obtain ⟨i0, hi0, hz0, hz1, hz2⟩ := info_parts hi
  have hb := Blk.new w e us.toArray
  refine wpList_append_own (P := P) _ hg s x t hop B e i0 z size bytes hu hi0 hz0 hz1 hz2 hzs hsz v n xs hs (hown.alloc _) ⟨w.heap.size, 0, none⟩ m m us hx hl ?_ h1 h63 hbytes (by simp; omega) ?_
  · intro j u hj
    have : (⟨w.heap.size, 0, none⟩ : Addr).add j = ⟨w.heap.size, j, none⟩ := by unfold Addr.add; split <;> simp_all
    rw [this, hb.cell]
    simpa using hj
  · intro v' w' hown' hgrow _
    refine h v' w' hown' hgrow ?_
    refine ((Below.refl B w).alloc hB _).grown hgrow (by simp; omega) ?_
    intro k hk
    exact (hown.lt k hk).1
theorem drow {w : World} {base : Nat} {e : TypeId} {size n : Nat} {v : Value} {xs : List Value} (h : w.ownsRow base e size v n xs) : w.drew.ownsRow base e size v n xs := h
theorem run_byte_at (s : List UInt8) (k : Nat) (hk : k < s.length) (z : Int) (hz : z = k) (w : World) : (Instr.index 9 (.string (bstr s)) (.int .i64 z)).run Tryd.prog w = .ok (.int .u8 ((s.getD k 0).toNat : Int)) w := by
  subst hz
  simp [Instr.index, run_underlying Tryd.underlying9, asIntOf, go_sem, part, bstr, hk, List.getD]

set_option maxRecDepth 100000 in
set_option maxHeartbeats 4000000 in
theorem hex_ref (s : List UInt8) (hs : s.length < 1000000) (w : World) :
    Calls Tryd.prog 13 #[.string (bstr s)] w fun e w' => e = .returned (.string (bstr (hexL s))) ∧ Below w.heap.size w w' := by
  go_enter Tryd.func13, Tryd.ntmps13
  go_wp2_with fail
  go_loopw [4, 5] (fun v i wr => ∃ j : Nat, j ≤ s.length ∧ i = .int .i64 j ∧ wr.ownsRow w.heap.size 5 1 v (2 * j) (bvals (hexL (s.take j))) ∧ Below w.heap.size w wr) (fun _ i _ => s.length - (intOf i).toNat)
  case atStart => exact ⟨0, by omega, rfl, World.ownsRow_nil _ _ _ _, Below.refl _ _⟩
  case round =>
    obtain ⟨j, hj, rfl, hown, hb⟩ := hrel
    by_cases hlt : j < s.length
    · have q1 : decide ((j : Int) < s.length) = true := decide_eq_true (by omega)
      have r0 := run_byte_at s j hlt (j : Int) rfl
      have htk : hexL (s.take (j + 1)) = hexL (s.take j) ++ [hexD ((s.getD j 0).toNat / 16), hexD ((s.getD j 0).toNat % 16)] := by
        rw [List.take_succ_eq_append_getElem hlt, hexL, List.flatMap_append, ← hexL]
        simp [hexB, List.getD, hlt]
      obtain ⟨b, hb0⟩ : ∃ b, s.getD j 0 = b := ⟨_, rfl⟩
      rw [hb0] at r0 htk
      have lb := b.toNat_lt
      obtain ⟨d1, hd1⟩ : ∃ d, b.toNat / 16 = d := ⟨_, rfl⟩
      obtain ⟨d0, hd0⟩ : ∃ d, b.toNat % 16 = d := ⟨_, rfl⟩
      rw [hd1, hd0] at htk
      have z1 : (b.toNat : Int) / 16 = d1 := by omega
      have z0 : (b.toNat : Int) % 16 = d0 := by omega
      have t1 : (b.toNat : Int).tdiv 16 = d1 := by rw [Int.tdiv_eq_ediv_of_nonneg (by omega)]; exact z1
      have t0 : (b.toNat : Int).tmod 16 = d0 := by rw [Int.tmod_eq_emod_of_nonneg (by omega)]; exact z0
      have wz1 : IntKind.u8.wrap (d1 : Int) = d1 := by rw [IntKind.wrap_u8]; omega
      have wz0 : IntKind.u8.wrap (d0 : Int) = d0 := by rw [IntKind.wrap_u8]; omega
      have rh1 := run_hex d1 (by omega)
      have rh0 := run_hex d0 (by omega)
      have hnx : bvals (hexL (s.take j)) ++ [Value.int .u8 ((hexD d1).toNat : Int), Value.int .u8 ((hexD d0).toNat : Int)] = bvals (hexL (s.take (j + 1))) := by rw [htk]; simp [bvals]
      have HNX := Lib.hid hnx
      have F1 := Lib.hid (show 2 * j + 2 ≤ maxLen by unfold maxLen; omega)
      have F2 := Lib.hid (show (2 * j + 2) * 1 ≤ 140737488355328 by omega)
      have hod := drow hown
      have hbd := hb.drew
      obtain ⟨wd, hwd⟩ : ∃ y, wr.drew = y := ⟨_, rfl⟩
      rw [hwd] at hod hbd
      have hsz := hbd.size
      clear hnx htk hb0 hd1 hd0 hown hb z1 z0
      go_wp2_with fail
      refine wp_region_lag 13 (by kernel_rfl) (by kernel_rfl) rfl (.inl ⟨rfl, fun _ => rfl⟩) (fun _ _ _ h => h) ?_
      simp only [List.take_succ_cons, List.take_zero, List.drop_succ_cons, List.drop_zero]
      go_simp
      try rw [hwd]
      clear hwd
      repeat still_step
      refine wpStill_nil ?_
      go_wp2_with (at_builtin; refine wpList_appm (P := Tryd.prog) _ rfl _ _ 33 rfl _ 5 (.int .u8 0) 1 1 Tryd.underlying33 bl_byte rfl (by decide) _ (2 * j) 2 _ rfl hod _ rfl rfl ?c1 (by decide) F1.out F2.out hsz ?_)
      case c1 => intro u hu; simp at hu; rcases hu with rfl | rfl <;> rfl
      intro v' w1 hown1 _ hb1
      rw [HNX.out] at hown1
      have hb9 := hbd.trans hb1
      go_wp2
      go_roundw
      case rel => exact ⟨j + 1, by omega, by go_num, hown1, hb9⟩
      case measure => simp [intOf] <;> omega
    · obtain rfl : j = s.length := by omega
      have q1 : decide ((s.length : Int) < s.length) = false := by simp
      rw [List.take_length] at hown
      have hcv := own_string (P := Tryd.prog) Tryd.underlying33 Tryd.underlying5 Tryd.underlying9 hown
      clear hown
      go_wp2
      go_ret
      exact ⟨rfl, hb⟩
end Go.Proofs.YtppckmfaidpliaaDoor
