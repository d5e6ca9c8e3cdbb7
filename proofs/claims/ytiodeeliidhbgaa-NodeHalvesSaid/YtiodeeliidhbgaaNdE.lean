/- Encode of package node: what it is, its contract. -/
import Derived.Test.YtiodeeliidhbgaaNdD
import Derived.Test.YtiodeeliidhbgaaBb
import Derived.Test.YtiodeeliidhbgaaRd2
namespace Go.Proofs.Ytiodeeliidhbgaa
open Go Go.RowKit
set_option linter.unusedSimpArgs false
set_option linter.unnecessarySimpa false
set_option linter.unusedVariables false

/-- the first k entries' bytes -/
def entsL (ks vs : List (List UInt8)) : Nat → List UInt8
  | 0 => []
  | k + 1 => entsL ks vs k ++ (textL (ks.getD k []) 2 ++ textL (vs.getD k []) 1)
def nodeL (n : Nd) : List UInt8 := (if n.leaf then 76 else 73) :: (putL n.keys.length 1 ++ entsL n.keys n.vals n.keys.length)
def nencL (n : Nd) : List UInt8 := if checkN n = 0 then nodeL n else []
theorem text_len (s : List UInt8) (wd : Int) : (textL s wd).length ≤ s.length + 7 := by
  unfold textL
  split
  · simp
  · have := putL_len s.length wd
    rw [List.length_append]
    omega
theorem ents_len {n : Nd} (h : mayB n = true) : ∀ k, k ≤ n.keys.length → (entsL n.keys n.vals k).length ≤ 440 * k
  | 0, _ => Nat.le_refl _
  | k + 1, hk => by
    have h1 := ents_len h k (by omega)
    have h2 := text_len (n.keys.getD k []) 2
    have h3 := text_len (n.vals.getD k []) 1
    obtain ⟨h4, h5, _⟩ := may_at h (i := k) (by omega)
    rw [entsL, List.length_append, List.length_append]
    omega
theorem check_may {n : Nd} (h : checkN n = 0) : mayB n = true := by
  cases hm : mayB n
  · rw [check_bad hm] at h; cases h
  · rfl
theorem check_to {n : Nd} {e : Int} (he : checkN n = e) (v : Value) (w : World) (h : NdV w v n) (hk : n.keys.length ≤ 1000000) (hv : n.vals.length ≤ 1000000) :
    Calls Try.prog 17 #[v] w fun e' w' => e' = .returned (.int .i64 e) ∧ Below w.heap.size w w' := he ▸ check_any v n w h hk hv

set_option maxRecDepth 100000 in
set_option maxHeartbeats 4000000 in
theorem enc_any (v : Value) (n : Nd) (w : World) (h : NdV w v n) (hk : n.keys.length ≤ 1000000) (hv : n.vals.length ≤ 1000000) :
    Calls Try.prog 12 #[v] w fun e w' => e = .returned (.tuple #[.string (bstr (nencL n)), .int .i64 (checkN n)]) ∧ Below w.heap.size w w' := by
  have hnn := h
  obtain ⟨vk, vv, rfl, h1, h2⟩ := h
  obtain ⟨A, c, rfl⟩ := h1.form
  obtain ⟨C, d, rfl⟩ := h2.form
  obtain ⟨leaf, ks, vs⟩ := n
  simp only at h1 h2 hk hv hnn ⊢
  obtain ⟨w0, hw0⟩ : ∃ x, w.alloc (.cells #[.bool leaf, .slice A ks.length c, .slice C vs.length d] 30) = x := ⟨_, rfl⟩
  obtain ⟨G, hG⟩ : ∃ x, w.heap.size = x := ⟨_, rfl⟩
  have hb0 : Blk w0 G 30 #[.bool leaf, .slice A ks.length c, .slice C vs.length d] := by rw [← hw0, ← hG]; exact Blk.new _ _ _
  have k0 : Below w.heap.size w w0 := by rw [← hw0]; exact (Below.refl _ _).alloc (Nat.le_refl _) _
  have hN := hnn.below k0
  have y0 := hb0.cell 0
  have y1 := hb0.cell 1
  have y2 := hb0.cell 2
  simp at y0 y1 y2
  have H1 := Lib.hid h1
  have H2 := Lib.hid h2
  clear h1 h2 hnn
  by_cases hc : checkN ⟨leaf, ks, vs⟩ = 0
  · have hm := check_may hc
    obtain ⟨hs1, hs2⟩ := may_small hm
    simp only at hs1 hs2
    have HE : Hid (nencL ⟨leaf, ks, vs⟩ = nodeL ⟨leaf, ks, vs⟩) := Lib.hid (by unfold nencL; rw [if_pos hc])
    have HC := Lib.hid hc
    have HM := Lib.hid hm
    have HL := Lib.hid hs2
    have HEL : Hid (∀ k, k ≤ ks.length → (entsL ks vs k).length ≤ 440 * k) := Lib.hid (fun k hk => ents_len hm k hk)
    have hpl := putL_len ks.length 1
    rw [hc]
    obtain ⟨P, hP⟩ : ∃ P, putL ks.length 1 = P := ⟨_, rfl⟩
    rw [hP] at hpl
    have HP := Lib.hid hP
    obtain ⟨kb, hkb⟩ : ∃ b : UInt8, (if leaf then 76 else 73) = b := ⟨_, rfl⟩
    have HKB := Lib.hid hkb
    have WB : ∀ B b w, BlAt B w b [] → B ≤ w.heap.size → Calls Try.prog 33 #[.pointer (some ⟨b, 0, none⟩), .int .u8 (if leaf then 76 else 73)] w fun e w' => e = .returned .nilIface ∧ BlAt B w' b [kb] ∧ Below B w w' := by
      intro B b w hB hb
      have := wbyte_any B b [] kb w hB (by simp) hb
      rw [← hkb]
      rw [← hkb] at this
      cases leaf <;> exact this
    have HWB := Lib.hid WB
    clear hc hm hs2 hP hkb WB
    go_enter Try.func12, Try.ntmps12
    go_wp2_with fail
    refine (check_to HC.out _ w0 hN hk hv).mono ?_
    rintro e w1 ⟨rfl, k1⟩
    have hb1 := hb0.below k1 hb0.lt
    have k01 := hthen k0 k1
    clear y0 y1 y2 hN k1 hb0
    obtain ⟨B, hB⟩ : ∃ x, w1.heap.size = x := ⟨_, rfl⟩
    obtain ⟨w2, hw2⟩ : ∃ x, w1.alloc (.cells #[.pointer none, .slice none 0 0] 63) = x := ⟨_, rfl⟩
    have hbl : BlAt B w2 B [] := by rw [← hw2, ← hB]; exact BlAt.new w1
    have k12 : Below w1.heap.size w1 w2 := by rw [← hw2]; exact (Below.refl _ _).alloc (Nat.le_refl _) _
    have hBw : B ≤ w2.heap.size := by rw [← hB]; exact k12.size
    have hb2 := hb1.below k12 hb1.lt
    have hGB : G < B := by rw [← hB]; exact hb1.lt
    have hwB : w.heap.size ≤ B := by rw [← hB]; exact k01.size
    have k02 := hthen k01 k12
    clear hb1 k12 k01 k0
    have y0 := hb2.cell 0
    have y1 := hb2.cell 1
    have y2 := hb2.cell 2
    simp at y0 y1 y2
    have WB1 : Calls Try.prog 33 #[.pointer (some ⟨B, 0, none⟩), .int .u8 (if leaf then 76 else 73)] w2 fun e w' => e = .returned .nilIface ∧ BlAt B w' B [kb] ∧ Below B w2 w' := HWB.out B B w2 hbl hBw
    have HW1 := Lib.hid WB1
    clear WB1
    cases leaf
    all_goals
      go_wp2_with fail
      refine (HW1.out).mono ?_
      rintro e w3 ⟨rfl, hbl3, k3⟩
      have hb3 := hb2.below k3 hGB
      have hs3 := Nat.le_trans hBw k3.size
      have k03 : Below w.heap.size w w3 := k02.trans (k3.mono hwB)
      clear y0 y1 y2
      have y1 := hb3.cell 1
      have y2 := hb3.cell 2
      simp at y1 y2
      go_wp2_with fail
      refine (put_to HP.out w3).mono ?_
      rintro e w4 ⟨rfl, k4⟩
      have hbl4 := hbl3.below k4
      have hs4 := Nat.le_trans hs3 k4.size
      have hb4 := hb3.below k4 hb3.lt
      have k04 := hthen k03 k4
      go_wp2_with fail
      refine (wstr_any B B _ P w4 hbl4 (by simp; omega) hs4).mono ?_
      rintro e w5 ⟨rfl, hbl5, k5, _⟩
      have hb5 := hb4.below k5 hGB
      have hs5 := Nat.le_trans hs4 k5.size
      have k05 : Below w.heap.size w w5 := k04.trans (k5.mono hwB)
      clear y1 y2
      have y1 := hb5.cell 1
      have y2 := hb5.cell 2
      simp at y1 y2
      clear hw0 hw2 hbl hbl3 hbl4 hb2 hb3 hb4 k02 k03 k04 k3 k4 k5 HW1 HWB
      go_wp2_with fail
      go_loopw [25] (fun i wr => ∃ k : Nat, k ≤ ks.length ∧ i = .int .i64 k ∧ BlAt B wr B ([kb] ++ P ++ entsL ks vs k) ∧ Below B w5 wr) (fun i _ => ks.length - (intOf i).toNat)
      case atStart => exact ⟨0, Nat.zero_le _, rfl, by simpa [entsL] using hbl5, Below.refl _ _⟩
      case round =>
        obtain ⟨k, hkn, rfl, hblr, kr⟩ := hrel
        have hbr := hb5.below kr hGB
        have z1 := hbr.cell 1
        have z2 := hbr.cell 2
        simp at z1 z2
        have hsr := Nat.le_trans hs5 kr.size
        have k0r : Below w.heap.size w wr := k05.trans (kr.mono hwB)
        by_cases hlt : k < ks.length
        · have q1 : decide ((k : Int) < ks.length) = true := decide_eq_true (by omega)
          have T0 : (0 : Int) ≤ k := by omega
          have T1 : (k : Int) < ks.length := by omega
          have T2 : (k : Int) < vs.length := by rw [HL.out]; omega
          obtain ⟨l1, l2, _⟩ := may_at HM.out hlt
          simp only at l1 l2
          obtain ⟨ad, rfl, c1⟩ := H1.out.cell k0r hlt
          obtain ⟨bd, rfl, c2⟩ := H2.out.cell k0r (show k < vs.length by rw [HL.out]; exact hlt)
          have hbd : (bd.add k).block < w.heap.size := by
            obtain ⟨bd', e', c3⟩ := H2.out.cell (Below.refl _ _) (show k < vs.length by rw [HL.out]; exact hlt)
            cases e'
            exact acell_lt c3
          have hel := HEL.out k hkn
          have hnx : entsL ks vs (k + 1) = entsL ks vs k ++ (textL (ks.getD k []) 2 ++ textL (vs.getD k []) 1) := rfl
          have hx2 := text_len (ks.getD k []) 2
          have hy2 := text_len (vs.getD k []) 1
          obtain ⟨X, hX⟩ : ∃ y, ks.getD k [] = y := ⟨_, rfl⟩
          obtain ⟨Y, hY⟩ : ∃ y, vs.getD k [] = y := ⟨_, rfl⟩
          rw [hX] at c1 l1 hnx hx2
          rw [hY] at c2 l2 hnx hy2
          obtain ⟨TX, hTX⟩ : ∃ y, textL X 2 = y := ⟨_, rfl⟩
          obtain ⟨TY, hTY⟩ : ∃ y, textL Y 1 = y := ⟨_, rfl⟩
          rw [hTX] at hnx hx2
          rw [hTY] at hnx hy2
          have HTX := Lib.hid hTX
          have HTY := Lib.hid hTY
          have HNX := Lib.hid hnx
          obtain ⟨E, hE⟩ : ∃ y, entsL ks vs k = y := ⟨_, rfl⟩
          rw [hE] at hblr hel
          have HEE := Lib.hid hE
          have sz1 : (bstr TX).size = TX.length := by simp [bstr, ByteArray.size]
          have sz2 : (bstr TY).size = TY.length := by simp [bstr, ByteArray.size]
          have nb : ¬ 9223372036854775807 < TX.length + TY.length := by omega
          clear hX hY hTX hTY hE hnx
          go_wp2_with fail
          refine wp_region_noPanic ?_
          refine wp_region_held_drew (S := (fun w' => w'.cell? ⟨G, 2, none⟩ = some (.slice (some bd) vs.length d) ∧ w'.cell? (bd.add k) = some (.string (bstr Y)))) (by kernel_rfl) ?hS0 (fun hHeld => ?_)
          case hS0 => exact ⟨z2, c2⟩
          refine wpAnyH_take (i := 0) (v := ?_) rfl (by kernel_rfl) (by kernel_rfl) (by kernel_rfl) (fun _ _ _ h => h) (Or.inl ⟨by kernel_rfl, ?_⟩) hHeld ?_
          rotate_left
          · (intro w hSw; (try dsimp only at hSw); go_simp; try with_reducible rfl)
          try simp only [Act.put, List.getElem_toArray, List.getElem_cons_succ, List.getElem_cons_zero, List.setIfInBounds_toArray, List.set_cons_zero, List.set_cons_succ]
          refine wpAnyH_take (i := 2) (v := ?_) rfl (by kernel_rfl) (by kernel_rfl) (by kernel_rfl) (fun _ _ _ h => h) (Or.inl ⟨by kernel_rfl, ?_⟩) hHeld ?_
          rotate_left
          · (intro w hSw; (try dsimp only at hSw); go_simp; try with_reducible rfl)
          try simp only [Act.put, List.getElem_toArray, List.getElem_cons_succ, List.getElem_cons_zero, List.setIfInBounds_toArray, List.set_cons_zero, List.set_cons_succ]
          refine wpAnyH_take (i := 3) (v := ?_) rfl (by kernel_rfl) (by kernel_rfl) (by kernel_rfl) (fun _ _ _ h => h) (Or.inl ⟨by kernel_rfl, ?_⟩) hHeld ?_
          rotate_left
          · (intro w hSw; (try dsimp only at hSw); go_simp; try with_reducible rfl)
          try simp only [Act.put, List.getElem_toArray, List.getElem_cons_succ, List.getElem_cons_zero, List.setIfInBounds_toArray, List.set_cons_zero, List.set_cons_succ]
          refine wpAnyH_take (i := 4) (v := ?_) rfl (by kernel_rfl) (by kernel_rfl) (by kernel_rfl) (fun _ _ _ h => h) (Or.inl ⟨by kernel_rfl, ?_⟩) hHeld ?_
          rotate_left
          · (intro w hSw; (try dsimp only at hSw); go_simp; try with_reducible rfl)
          try simp only [Act.put, List.getElem_toArray, List.getElem_cons_succ, List.getElem_cons_zero, List.setIfInBounds_toArray, List.set_cons_zero, List.set_cons_succ]
          refine wpAnyH_take (i := 5) (v := ?_) rfl (by kernel_rfl) (by kernel_rfl) (by kernel_rfl) (fun _ _ _ h => h) (Or.inl ⟨by kernel_rfl, ?_⟩) hHeld ?_
          rotate_left
          · (intro w hSw; (try dsimp only at hSw); go_simp; try with_reducible rfl)
          try simp only [Act.put, List.getElem_toArray, List.getElem_cons_succ, List.getElem_cons_zero, List.setIfInBounds_toArray, List.set_cons_zero, List.set_cons_succ]
          refine wpAnyH_take (i := 6) (v := ?_) rfl (by kernel_rfl) (by kernel_rfl) (by kernel_rfl) (fun _ _ _ h => h) (Or.inl ⟨by kernel_rfl, ?_⟩) hHeld ?_
          rotate_left
          · (intro w hSw; (try dsimp only at hSw); go_simp; try with_reducible rfl)
          try simp only [Act.put, List.getElem_toArray, List.getElem_cons_succ, List.getElem_cons_zero, List.setIfInBounds_toArray, List.set_cons_zero, List.set_cons_succ]
          refine wpAnyH_ready (rs := [1]) (by kernel_rfl) (by simp) ?_
          refine (AllReadyH.cons rfl (fun K hK => ?_) AllReadyH.nil)
          go_simp
          go_at_call 36
          refine (text_to HTX.out _ (by omega)).mono ?_
          rintro e w7 ⟨rfl, k7⟩
          have hb7 := hbr.below k7.fromDrew hbr.lt
          have x2 := hb7.cell 2
          simp at x2
          have k07 := hthen k0r k7.fromDrew
          have c27 := (k7.fromDrew.cell (p := bd.add k) (Nat.lt_of_lt_of_le hbd k0r.size)).trans c2
          try dsimp only
          refine hK.out _ _ (⟨x2, c27⟩) (fun hHeld => ?_)
          clear hK K
          try simp only [Act.put, List.getElem_toArray, List.getElem_cons_succ, List.getElem_cons_zero, List.setIfInBounds_toArray, List.set_cons_zero, List.set_cons_succ]
          refine wpAnyH_ready (rs := [7]) (by kernel_rfl) (by simp) ?_
          refine (AllReadyH.cons rfl (fun K hK => ?_) AllReadyH.nil)
          go_simp
          go_at_call 36
          refine (text_to HTY.out w7 (by omega)).mono ?_
          rintro e w8 ⟨rfl, k8⟩
          have hb8 := hb7.below k8 hb7.lt
          have x3 := hb8.cell 2
          simp at x3
          have k08 := hthen k07 k8
          have c28 := (k8.cell (p := bd.add k) (Nat.lt_of_lt_of_le hbd k07.size)).trans c27
          try dsimp only
          refine hK.out _ _ (⟨x3, c28⟩) (fun hHeld => ?_)
          clear hK K
          try simp only [Act.put, List.getElem_toArray, List.getElem_cons_succ, List.getElem_cons_zero, List.setIfInBounds_toArray, List.set_cons_zero, List.set_cons_succ]
          refine wpAnyH_take (i := 8) (v := ?_) rfl (by kernel_rfl) (by kernel_rfl) (by kernel_rfl) (fun _ _ _ h => h) (Or.inl ⟨by kernel_rfl, ?_⟩) hHeld ?_
          rotate_left
          · (intro w hSw; (try dsimp only at hSw); go_simp; try with_reducible rfl)
          try simp only [Act.put, List.getElem_toArray, List.getElem_cons_succ, List.getElem_cons_zero, List.setIfInBounds_toArray, List.set_cons_zero, List.set_cons_succ]
          refine wpAnyH_ready (rs := [9]) (by kernel_rfl) (by simp) ?_
          refine (AllReadyH.cons rfl (fun K hK => ?_) AllReadyH.nil)
          go_simp
          go_at_call 34
          refine (wstr_any B B _ (TX ++ TY) w8 ((hblr.below k7.fromDrew).below k8) (by simp; omega) (Nat.le_trans hsr (Nat.le_trans k7.fromDrew.size k8.size))).mono ?_
          rintro e w9 ⟨rfl, hbl9, k9, _⟩
          have hb9 := hb8.below k9 hGB
          have x4 := hb9.cell 2
          simp at x4
          have k59 : Below B w5 w9 := ((kr.trans (k7.fromDrew.mono hsr)).trans (k8.mono (Nat.le_trans hsr k7.fromDrew.size))).trans k9
          have c29 := (k9.cell (p := bd.add k) (Nat.lt_of_lt_of_le hbd hwB)).trans c28
          try dsimp only
          refine hK.out _ _ (⟨x4, c29⟩) (fun hHeld => ?_)
          clear hK K
          try simp only [Act.put, List.getElem_toArray, List.getElem_cons_succ, List.getElem_cons_zero, List.setIfInBounds_toArray, List.set_cons_zero, List.set_cons_succ]
          refine wpAnyH_done (by kernel_rfl) ?_ _
          refine NoPanic.normal ?_
          go_wp2
          go_roundw
          case rel => exact ⟨k + 1, by omega, by go_num, by rw [HNX.out, HEE.out]; simpa [List.append_assoc] using hbl9, k59⟩
          case measure => simp [intOf]; omega
        · obtain rfl : k = ks.length := by omega
          have q1 : decide ((ks.length : Int) < ks.length) = false := by simp
          go_wp2_with fail
          refine (bstring_any B B _ wr hblr hsr).mono ?_
          rintro e w6 ⟨rfl, k6⟩
          have hfin := HE.out.trans (show nodeL _ = [kb] ++ P ++ entsL ks vs ks.length by
            show (_ : UInt8) :: _ = _
            rw [HP.out, ← HKB.out]
            rfl)
          have HF := Lib.hid hfin
          clear hfin
          go_wp2
          go_ret2
          exact ⟨by rw [HF.out]; rfl, k0r.trans (k6.mono hwB)⟩
  · have hcb : (checkN ⟨leaf, ks, vs⟩ != 0) = true := bne_iff_ne.2 hc
    have HE : Hid (nencL ⟨leaf, ks, vs⟩ = []) := Lib.hid (by unfold nencL; rw [if_neg hc])
    obtain ⟨E, hE⟩ : ∃ E, checkN ⟨leaf, ks, vs⟩ = E := ⟨_, rfl⟩
    rw [hE] at hcb ⊢
    have HC := Lib.hid hE
    clear hc hE
    rw [HE.out]
    go_enter Try.func12, Try.ntmps12
    go_wp2_with fail
    refine (check_to HC.out _ w0 hN hk hv).mono ?_
    rintro e w1 ⟨rfl, k1⟩
    go_wp2
    go_ret2
    exact ⟨rfl, hthen k0 k1⟩
end Go.Proofs.Ytiodeeliidhbgaa
