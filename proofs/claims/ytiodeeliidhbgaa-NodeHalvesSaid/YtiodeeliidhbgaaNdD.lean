/- Split of package node: contract. -/
import Derived.Test.YtiodeeliidhbgaaNdC
namespace Go.Proofs.Ytiodeeliidhbgaa
open Go Go.RowKit
set_option linter.unusedSimpArgs false
set_option linter.unnecessarySimpa false
set_option linter.unusedVariables false

theorem entry_to {n : Nd} {i E : Nat} (hE : entN n.keys n.vals i = E) (v : Value) (w : World) (h : NdV w v n) (hm : mayB n = true) (hi : i < n.keys.length) :
    Calls Try.prog 42 #[v, .int .i64 i] w fun e w' => e = .returned (.int .i64 (E : Nat)) ∧ Below w.heap.size w w' := hE ▸ entry_any v n i w h hm hi
theorem cutGo_yes {ks vs : List (List UInt8)} {S f a : Nat} (h1 : a + 1 < ks.length) (h2 : sumN ks vs (a + 1) + sumN ks vs a < S) : cutGo ks vs S (f + 1) a = cutGo ks vs S f (a + 1) := by
  rw [cutGo, if_pos ⟨h1, h2⟩]
theorem cutGo_no {ks vs : List (List UInt8)} {S f a : Nat} (h : ¬ (a + 1 < ks.length ∧ sumN ks vs (a + 1) + sumN ks vs a < S)) : cutGo ks vs S f a = a := by
  cases f with
  | zero => rfl
  | succ f => rw [cutGo, if_neg h]
theorem sum_mono (ks vs : List (List UInt8)) : ∀ a b, a ≤ b → sumN ks vs a ≤ sumN ks vs b
  | a, 0, h => by
    have : a = 0 := by omega
    subst this
    exact Nat.le_refl _
  | a, b + 1, h => by
    by_cases e : a = b + 1
    · rw [e]; exact Nat.le_refl _
    · have := sum_mono ks vs a b (by omega)
      rw [sumN]
      omega

/-- the head and the tail of a row -/
theorem row_text {w : World} {base n b c : Nat} {l : List (List UInt8)} (h : w.ownsRow base 9 1 (.slice (some ⟨b, 0, none⟩) n c) n (secV l)) {j : Nat} (hj : j < l.length) : w.cell? ⟨b, j, none⟩ = some (.string (bstr (l.getD j []))) := by
  have hl : l.length = n := by have := h.1; rw [secV_len] at this; omega
  rw [h.cellAt j (by omega)]
  simp [secV, List.getD_eq_getElem?_getD, hj]
theorem cut_ss {w : World} {base n b c : Nat} {l : List (List UInt8)} (h : w.ownsRow base 9 1 (.slice (some ⟨b, 0, none⟩) n c) n (secV l)) (hn : l.length = n) (p : Nat) (hp : p ≤ n) : SsAt w (.slice (some ⟨b, 0, none⟩) p p) (l.take p) := by
  have e : (l.take p).length = p := by rw [List.length_take]; omega
  refine ⟨_, p, by rw [e], fun j hj => ⟨_, rfl, ?_⟩⟩
  rw [e] at hj
  rw [addr_add, Nat.zero_add, row_text h (by omega)]
  simp [List.getD_eq_getElem?_getD, List.getElem?_take_of_lt hj]
theorem tail_ss {w : World} {base n b c c' : Nat} {l : List (List UInt8)} (h : w.ownsRow base 9 1 (.slice (some ⟨b, 0, none⟩) n c) n (secV l)) (hn : l.length = n) (p : Nat) (hp : p ≤ n) : SsAt w (.slice (some ⟨b, p, none⟩) (n - p) c') (l.drop p) := by
  have e : (l.drop p).length = n - p := by rw [List.length_drop]; omega
  refine ⟨_, c', by rw [e], fun j hj => ⟨_, rfl, ?_⟩⟩
  rw [e] at hj
  rw [addr_add, row_text h (by omega)]
  simp [List.getD_eq_getElem?_getD]
set_option maxRecDepth 100000 in
set_option maxHeartbeats 4000000 in
theorem split_yes (leaf : Bool) (ks vs : List (List UInt8)) (vk vv : Value) (hm : mayB ⟨leaf, ks, vs⟩ = true) (h2l : 2 ≤ ks.length) (w : World) (h : NdV w (.agg #[.bool leaf, vk, vv]) ⟨leaf, ks, vs⟩) :
    Calls Try.prog 25 #[.agg #[.bool leaf, vk, vv]] w fun e w' => ∃ ua ub, e = .returned (.tuple #[ua, ub, .bool true]) ∧ NdV w' ua ⟨leaf, ks.take (cutN ⟨leaf, ks, vs⟩), vs.take (cutN ⟨leaf, ks, vs⟩)⟩ ∧ NdV w' ub ⟨leaf, ks.drop (cutN ⟨leaf, ks, vs⟩), vs.drop (cutN ⟨leaf, ks, vs⟩)⟩ ∧ Below w.heap.size w w' := by
  obtain ⟨K, hKK⟩ : ∃ K, cutN ⟨leaf, ks, vs⟩ = K := ⟨_, rfl⟩
  rw [hKK]
  have HKK := Lib.hid hKK
  clear hKK
  obtain ⟨_, _, e, h1, h2⟩ := h
  cases e
  obtain ⟨A, c, rfl⟩ := h1.form
  obtain ⟨C, d, rfl⟩ := h2.form
  simp only at h1 h2
  obtain ⟨hs1, hs2⟩ := may_small hm
  simp only at hs1 hs2
  have HL2 := Lib.hid hs2
  have HM := Lib.hid hm
  have HSL : Hid (∀ k, k ≤ ks.length → sumN ks vs k ≤ 423 * k) := Lib.hid (fun k hk => (sum_le hm k hk).1)
  have HZ : Hid (sizeN ⟨leaf, ks, vs⟩ = 2 + sumN ks vs ks.length) := Lib.hid (by unfold sizeN; rw [hm]; rfl)
  have hN0 : NdV w (.agg #[.bool leaf, .slice A ks.length c, .slice C vs.length d]) ⟨leaf, ks, vs⟩ := ⟨_, _, rfl, h1, h2⟩
  obtain ⟨o0, ho0⟩ : ∃ o : Obj, Obj.cells #[.bool leaf, .slice A ks.length c, .slice C vs.length d] 30 = o := ⟨_, rfl⟩
  obtain ⟨oz, hoz⟩ : ∃ o : Obj, Obj.cells #[.bool false, .slice none 0 0, .slice none 0 0] 30 = o := ⟨_, rfl⟩
  have p0 := ((Blk.new w 30 #[.bool leaf, .slice A ks.length c, .slice C vs.length d]).alloc oz).alloc oz
  have p1 := (Blk.new (w.alloc o0) 30 #[.bool false, .slice none 0 0, .slice none 0 0]).alloc oz
  have p2 := Blk.new ((w.alloc o0).alloc oz) 30 #[.bool false, .slice none 0 0, .slice none 0 0]
  rw [ho0] at p0
  rw [hoz] at p1 p2
  have k0 : Below w.heap.size w (((w.alloc o0).alloc oz).alloc oz) := (((Below.refl _ _).alloc (Nat.le_refl _) _).alloc (by simp) _).alloc (by simp; omega) _
  have e1 : (w.alloc o0).heap.size = w.heap.size + 1 := by simp
  have e2 : ((w.alloc o0).alloc oz).heap.size = w.heap.size + 1 + 1 := by simp
  rw [e1] at p1
  rw [e2] at p2
  have hN := hN0.below k0
  subst ho0
  subst hoz
  have y0 := p0.cell 0
  have y1 := p0.cell 1
  have y2 := p0.cell 2
  simp at y0 y1 y2
  clear e1 e2 h1 h2 hs2 hm hN0
  go_enter Try.func25, Try.ntmps25
  go_wp2_with fail
  obtain ⟨w0, hw0⟩ : ∃ x, ((w.alloc (.cells #[.bool leaf, .slice A ks.length c, .slice C vs.length d] 30)).alloc (.cells #[.bool false, .slice none 0 0, .slice none 0 0] 30)).alloc (.cells #[.bool false, .slice none 0 0, .slice none 0 0] 30) = x := ⟨_, rfl⟩
  rw [hw0] at p0 p1 p2 k0 hN ⊢
  obtain ⟨G, hG⟩ : ∃ x, w.heap.size = x := ⟨_, rfl⟩
  rw [hG] at p0 p1 p2 ⊢
  clear hw0 y0 y1 y2
  refine (may_to HM.out _ w0 hN (by show ks.length ≤ 1000000; omega) (by show vs.length ≤ 1000000; rw [HL2.out]; omega)).mono ?_
  rintro e w1 ⟨rfl, k1⟩
  have p0 := p0.below k1 p0.lt
  have p1 := p1.below k1 p1.lt
  have p2 := p2.below k1 p2.lt
  have hN := hN.below k1
  have k0 := hthen k0 k1
  have y0 := p0.cell 0
  have y1 := p0.cell 1
  have y2 := p0.cell 2
  have qlen : decide ((ks.length : Int) < 2) = false := decide_eq_false (by omega)
  simp at y0 y1 y2
  clear k1
  go_wp2_with fail
  refine (copied_any _ ⟨leaf, ks, vs⟩ w1 hN (by show ks.length ≤ 1000000; omega) (by show vs.length ≤ 1000000; rw [HL2.out]; omega)).mono ?_
  rintro e w2 ⟨_, rfl, ⟨uk, uv, rfl, o1, o2, one⟩, k2⟩
  simp only at o1 o2 one
  obtain ⟨bk, c1, rfl⟩ := orow_pos o1 (by omega)
  obtain ⟨bv, d1, rfl⟩ := orow_pos o2 (by rw [HL2.out]; omega)
  have s12 := k0.size
  have p0 := p0.below k2 p0.lt
  have p1 := p1.below k2 p1.lt
  have p2 := p2.below k2 p2.lt
  have k0 := hthen k0 k2
  have f0 := p0.frozen 0
  have f1 := p0.frozen 1
  have f2 := p0.frozen 2
  have y0 := p0.cell 0
  have y1 := p0.cell 1
  have y2 := p0.cell 2
  simp at y0 y1 y2
  clear hN k2 qlen
  go_wp2_with fail
  have n1 := row_ne o1 p0 (by decide)
  have n2 := row_ne o2 p0 (by decide)
  obtain ⟨w3, hw3⟩ : ∃ x, ((w2.setCell ⟨G, 0, none⟩ (.bool leaf)).setCell ⟨G, 1, none⟩ (.slice (some ⟨bk, 0, none⟩) ks.length c1)).setCell ⟨G, 2, none⟩ (.slice (some ⟨bv, 0, none⟩) vs.length d1) = x := ⟨_, rfl⟩
  have x0 : Blk w3 G 30 #[.bool leaf, .slice (some ⟨bk, 0, none⟩) ks.length c1, .slice (some ⟨bv, 0, none⟩) vs.length d1] := by
    have := ((p0.set_ 0 (.bool leaf)).set_ 1 (.slice (some ⟨bk, 0, none⟩) ks.length c1)).set_ 2 (.slice (some ⟨bv, 0, none⟩) vs.length d1)
    rw [← hw3]
    simpa using this
  have x1 : Blk w3 (G + 1) 30 #[.bool false, .slice none 0 0, .slice none 0 0] := by
    rw [← hw3]
    exact ((p1.far (p := ⟨G, 0, none⟩) (by simp) _).far (p := ⟨G, 1, none⟩) (by simp) _).far (p := ⟨G, 2, none⟩) (by simp) _
  have x2 : Blk w3 (G + 1 + 1) 30 #[.bool false, .slice none 0 0, .slice none 0 0] := by
    rw [← hw3]
    exact ((p2.far (p := ⟨G, 0, none⟩) (by simp <;> omega) _).far (p := ⟨G, 1, none⟩) (by simp <;> omega) _).far (p := ⟨G, 2, none⟩) (by simp <;> omega) _
  have o1 := row_set (i := 2) (row_set (i := 1) (row_set (i := 0) o1 n1 (.bool leaf)) n1 (.slice (some ⟨bk, 0, none⟩) ks.length c1)) n1 (.slice (some ⟨bv, 0, none⟩) vs.length d1)
  have o2 := row_set (i := 2) (row_set (i := 1) (row_set (i := 0) o2 n2 (.bool leaf)) n2 (.slice (some ⟨bk, 0, none⟩) ks.length c1)) n2 (.slice (some ⟨bv, 0, none⟩) vs.length d1)
  have k3 : Below w.heap.size w w3 := by
    rw [← hw3]
    exact below_at (below_at (below_at k0 (Nat.le_of_eq hG) _ _) (Nat.le_of_eq hG) _ _) (Nat.le_of_eq hG) _ _
  clear y0 y1 y2 f0 f1 f2
  rw [hw3] at o1 o2 ⊢
  have o1 := row_base o1 s12
  have o2 := row_base o2 s12
  have hN3 : NdV w3 (.agg #[.bool leaf, .slice (some ⟨bk, 0, none⟩) ks.length c1, .slice (some ⟨bv, 0, none⟩) vs.length d1]) ⟨leaf, ks, vs⟩ := ⟨_, _, rfl, ss_row o1, ss_row o2⟩
  have y0 := x0.cell 0
  have y1 := x0.cell 1
  have y2 := x0.cell 2
  simp at y0 y1 y2
  clear hw3 p0 p1 p2 k0
  have E0 := fun w h => entry_to (n := ⟨leaf, ks, vs⟩) (i := 0) (E := sumN ks vs 1) (by simp [sumN]) (.agg #[.bool leaf, .slice (some ⟨bk, 0, none⟩) ks.length c1, .slice (some ⟨bv, 0, none⟩) vs.length d1]) w h HM.out (by show 0 < ks.length; omega)
  obtain ⟨T, hT⟩ : ∃ T, sumN ks vs ks.length = T := ⟨_, rfl⟩
  obtain ⟨S1, hS1⟩ : ∃ S, sumN ks vs 1 = S := ⟨_, rfl⟩
  have hT1 := HSL.out ks.length (Nat.le_refl _)
  have hS1T : S1 ≤ T := by rw [← hT, ← hS1]; exact sum_mono _ _ _ _ (by omega)
  rw [hT] at hT1
  have Z0 := fun w h => size_to (n := ⟨leaf, ks, vs⟩) (s := 2 + T) (by rw [HZ.out, hT]) (.agg #[.bool leaf, .slice (some ⟨bk, 0, none⟩) ks.length c1, .slice (some ⟨bv, 0, none⟩) vs.length d1]) w h (by show ks.length ≤ 1000000; omega) (by show vs.length ≤ 1000000; rw [HL2.out]; omega)
  rw [hS1] at E0
  have HE0 := Lib.hid E0
  have HZ0 := Lib.hid Z0
  have HS1 := Lib.hid hS1
  have HT := Lib.hid hT
  have ee1 : IntKind.i64.wrap (2 + (T : Int) - 2) = T := by rw [IntWalk.i64_in _ ⟨by omega, by omega⟩]; omega
  have ee2 : IntKind.i64.wrap ((T : Int) - S1) = (T - S1 : Nat) := by rw [IntWalk.i64_in _ ⟨by omega, by omega⟩]; omega
  have tt1 : (0 : Int) ≤ T - S1 := by omega
  clear E0 Z0 hS1 hT
  go_region_held3 (fun w' => w'.cell? ⟨G, 0, none⟩ = some (.bool leaf) ∧ w'.cell? ⟨G, 1, none⟩ = some (.slice (some ⟨bk, 0, none⟩) ks.length c1) ∧ w'.cell? ⟨G, 2, none⟩ = some (.slice (some ⟨bv, 0, none⟩) vs.length d1))
    (first | exact ⟨r0, r1, r2⟩ | exact ⟨q0, q1, q2⟩ | exact ⟨z0, z1, z2⟩ | exact ⟨y0, y1, y2⟩)
    (first
    | (go_at_call 42; refine (HE0.out w5 hN5).mono ?_; rintro e w6 ⟨rfl, k6⟩; have hN6 := hN5.below k6; have x0'' := x0c.below k6 x0c.lt; have r0 := x0''.cell 0; have r1 := x0''.cell 1; have r2 := x0''.cell 2; simp at r0 r1 r2)
    | (go_at_call 19; refine (HZ0.out w4 hN4).mono ?_; rintro e w5 ⟨rfl, k5⟩; have hN5 := hN4.below k5; have x0c := x0b.below k5 x0b.lt; have q0 := x0c.cell 0; have q1 := x0c.cell 1; have q2 := x0c.cell 2; simp at q0 q1 q2)
    | (go_at_call 42; refine (HE0.out w3.drew (hN3.below (Below.refl _ _).drew)).mono ?_; rintro e w4 ⟨rfl, k4⟩; have hN4 := hN3.below k4.fromDrew; have x0b := x0.below k4.fromDrew x0.lt; have z0 := x0b.cell 0; have z1 := x0b.cell 1; have z2 := x0b.cell 2; simp at z0 z1 z2))
  have bb := hthen (hthen (hthen k3 k4.fromDrew) k5) k6
  have k36 : Below w3.heap.size w3 w6 := hthen (hthen k4.fromDrew k5) k6
  have x1 := x1.below k36 x1.lt
  have x2 := x2.below k36 x2.lt
  have o1 := row_below o1 k36
  have o2 := row_below o2 k36
  clear y0 y1 y2 z0 z1 z2 q0 q1 q2 r0 r1 r2 x0 x0b x0c k4 k5 k6 k36 hN3 hN4 hN5 ee1 ee2 tt1
  have HC : Hid (cutGo ks vs T ks.length 1 = K) := Lib.hid (by rw [← HKK.out]; unfold cutN; rw [HT.out])
  have S1' := HS1.out
  go_wp2_with fail
  go_loopw [5, 6, 7] (fun a b i wr => ∃ (k f : Nat), 1 ≤ k ∧ k < ks.length ∧ ks.length ≤ k + f ∧ i = .int .i64 k ∧ a = .int .i64 (sumN ks vs k : Nat) ∧ b = .int .i64 (T - sumN ks vs k : Nat) ∧ Hid (cutGo ks vs T f k = K) ∧ Below w6.heap.size w6 wr) (fun _ _ i _ => ks.length - (intOf i).toNat)
  case atStart => exact ⟨1, ks.length, Nat.le_refl _, by omega, by omega, rfl, by rw [S1'], by rw [S1'], Lib.hid HC.out, Below.refl _ _⟩
  case round =>
    obtain ⟨k, f, hk1, hkl, hkf, rfl, rfl, rfl, HCK, kr⟩ := hrel
    have kw := hthen bb kr
    have x0 := x0''.below kr x0''.lt
    have hN := hN6.below kr
    have hnx : sumN ks vs (k + 1) = sumN ks vs k + entN ks vs k := rfl
    have hsl := HSL.out (k + 1) (by omega)
    have hst : sumN ks vs (k + 1) ≤ T := by rw [← HT.out]; exact sum_mono _ _ _ _ (by omega)
    have ENT := fun E hE w h => entry_to (n := ⟨leaf, ks, vs⟩) (i := k) (E := E) hE (.agg #[.bool leaf, .slice (some ⟨bk, 0, none⟩) ks.length c1, .slice (some ⟨bv, 0, none⟩) vs.length d1]) w h HM.out hkl
    obtain ⟨S, hS⟩ : ∃ y, sumN ks vs k = y := ⟨_, rfl⟩
    obtain ⟨E, hE⟩ : ∃ y, entN ks vs k = y := ⟨_, rfl⟩
    have ENT := Lib.hid (ENT E hE)
    rw [hS, hE] at hnx
    rw [hnx] at hst hsl
    have HS := Lib.hid hS
    have HNX := Lib.hid hnx
    rw [hS]
    clear hS hE hnx
    have y0 := x0.cell 0
    have y1 := x0.cell 1
    have y2 := x0.cell 2
    simp at y0 y1 y2
    have a1 : IntKind.i64.wrap ((ks.length : Int) - 1) = ks.length - 1 := IntWalk.i64_in _ ⟨by omega, by omega⟩
    have a2 : IntKind.i64.wrap ((S : Int) + E) = S + E := IntWalk.i64_in _ ⟨by omega, by omega⟩
    by_cases hk : k + 1 < ks.length
    · have q1 : decide ((k : Int) < ks.length - 1) = true := decide_eq_true (by omega)
      by_cases hc : S + E + S < T
      · have q2 : decide ((S : Int) + E < ((T - S : Nat) : Int)) = true := decide_eq_true (by omega)
        obtain ⟨f', rfl⟩ : ∃ f', f = f' + 1 := ⟨f - 1, by omega⟩
        have HNK : Hid (cutGo ks vs T f' (k + 1) = K) := Lib.hid (by rw [← HCK.out, cutGo_yes hk (by rw [HNX.out, HS.out]; exact hc)])
        go_wp2_with fail
        refine (ENT.out wr hN).mono ?_
        rintro e v1 ⟨rfl, k1⟩
        have x0 := x0.below k1 x0.lt
        have hN := hN.below k1
        have y0 := x0.cell 0
        have y1 := x0.cell 1
        have y2 := x0.cell 2
        simp at y0 y1 y2
        have kr1 := hthen kr k1
        go_wp2_with fail
        have a3 : IntKind.i64.wrap (((T - S : Nat) : Int) - E) = (T - (S + E) : Nat) := by rw [IntWalk.i64_in _ ⟨by omega, by omega⟩]; omega
        go_region_held3 (fun w' => w'.cell? ⟨G, 0, none⟩ = some (.bool leaf) ∧ w'.cell? ⟨G, 1, none⟩ = some (.slice (some ⟨bk, 0, none⟩) ks.length c1) ∧ w'.cell? ⟨G, 2, none⟩ = some (.slice (some ⟨bv, 0, none⟩) vs.length d1))
          (first | exact ⟨q0, q1, q2⟩ | exact ⟨z0, z1, z2⟩ | exact ⟨y0, y1, y2⟩)
          (first
          | (go_at_call 42; refine (ENT.out v2 hNb).mono ?_; rintro e v3 ⟨rfl, k3⟩; have x0c := x0b.below k3 x0b.lt; have q0 := x0c.cell 0; have q1 := x0c.cell 1; have q2 := x0c.cell 2; simp at q0 q1 q2)
          | (go_at_call 42; refine (ENT.out v1.drew (hN.below (Below.refl _ _).drew)).mono ?_; rintro e v2 ⟨rfl, k2⟩; have hNb := hN.below k2.fromDrew; have x0b := x0.below k2.fromDrew x0.lt; have z0 := x0b.cell 0; have z1 := x0b.cell 1; have z2 := x0b.cell 2; simp at z0 z1 z2))
        have kr3 := hthen (hthen kr1 k2.fromDrew) k3
        clear y0 y1 y2 z0 z1 z2 q0 q1 q2
        go_wp2
        go_round
        case rel => exact ⟨k + 1, f', by omega, hk, by omega, by go_num, by rw [HNX.out]; go_num, by rw [HNX.out], HNK, kr3⟩
        case measure => simp [intOf]; omega
      · have q2 : decide ((S : Int) + E < ((T - S : Nat) : Int)) = false := decide_eq_false (by omega)
        have hKK : Hid (k = K) := Lib.hid (by rw [← HCK.out, cutGo_no (by rw [HNX.out, HS.out]; omega)])
        go_wp2_with fail
        refine (ENT.out wr hN).mono ?_
        rintro e v1 ⟨rfl, k1⟩
        have x0 := x0.below k1 x0.lt
        have kr1 := hthen kr k1
        clear y0 y1 y2
        have y0 := x0.cell 0
        have y1 := x0.cell 1
        have y2 := x0.cell 2
        simp at y0 y1 y2
        go_wp2_with fail
        have x1 := x1.below kr1 x1.lt
        have x2 := x2.below kr1 x2.lt
        have o1 := row_below o1 kr1
        have o2 := row_below o2 kr1
        have bw := hthen bb kr1
        obtain ⟨hc1, hc1m⟩ := orow_cap o1
        obtain ⟨hd1, hd1m⟩ := orow_cap o2
        have g0 := x1.frozen 0
        have g1 := x1.frozen 1
        have g2 := x1.frozen 2
        have u0 := x1.cell 0
        have u1 := x1.cell 1
        have u2 := x1.cell 2
        have j0 := x2.frozen 0
        have j1 := x2.frozen 1
        have j2 := x2.frozen 2
        have v0 := x2.cell 0
        have v1' := x2.cell 1
        have v2 := x2.cell 2
        simp at u0 u1 u2 v0 v1' v2
        have hvl : k < vs.length := by rw [HL2.out]; exact hkl
        have T0 : (0 : Int) ≤ k := by omega
        have T1 : (k : Int) ≤ c1 := by omega
        have T2 : (k : Int) ≤ d1 := by omega
        have T3 : k ≤ c1 := by omega
        have T4 : k ≤ d1 := by omega
        have T5 : ¬ c1 = k := by omega
        have T6 : ¬ d1 = k := by omega
        have T7 : (k : Int) ≤ ks.length := by omega
        have T8 : (k : Int) ≤ vs.length := by omega
        have T9 : k ≤ ks.length := by omega
        have T10 : k ≤ vs.length := by omega
        clear a1 a2 q1
        clear HE0 HZ0 ENT HCK HSL
        have nG1 : G ≠ G + 1 := by omega
        have nG2 : G ≠ G + 1 + 1 := by omega
        refine wp_region_noPanic ?_
        refine wp_region_held_drew (S := (fun w' => w'.cell? ⟨G, 0, none⟩ = some (.bool leaf) ∧ w'.cell? ⟨G, 1, none⟩ = some (.slice (some ⟨bk, 0, none⟩) ks.length c1) ∧ w'.cell? ⟨G, 2, none⟩ = some (.slice (some ⟨bv, 0, none⟩) vs.length d1))) (by kernel_rfl) ?hS0 (fun hHeld => ?_)
        case hS0 => exact ⟨y0, y1, y2⟩
        refine wpAnyH_take (i := 0) (v := ?_) rfl (by kernel_rfl) (by kernel_rfl) (by kernel_rfl) (fun _ _ _ h => h) (Or.inl ⟨by kernel_rfl, ?_⟩) hHeld ?_
        rotate_left
        · (intro w hSw; (try dsimp only at hSw); go_simp; try with_reducible rfl)
        try simp only [Act.put, List.getElem_toArray, List.getElem_cons_succ, List.getElem_cons_zero, List.setIfInBounds_toArray, List.set_cons_zero, List.set_cons_succ]
        refine wpAnyH_take (i := 2) (v := ?_) rfl (by kernel_rfl) (by kernel_rfl) (by kernel_rfl) (fun _ _ _ h => h) (Or.inl ⟨by kernel_rfl, ?_⟩) hHeld ?_
        rotate_left
        · (intro w hSw; (try dsimp only at hSw); go_simp; try with_reducible rfl)
        try simp only [Act.put, List.getElem_toArray, List.getElem_cons_succ, List.getElem_cons_zero, List.setIfInBounds_toArray, List.set_cons_zero, List.set_cons_succ]
        refine wpAnyH_take (i := 4) (v := ?_) rfl (by kernel_rfl) (by kernel_rfl) (by kernel_rfl) (fun _ _ _ h => h) (Or.inl ⟨by kernel_rfl, ?_⟩) hHeld ?_
        rotate_left
        · (intro w hSw; (try dsimp only at hSw); go_simp; try with_reducible rfl)
        try simp only [Act.put, List.getElem_toArray, List.getElem_cons_succ, List.getElem_cons_zero, List.setIfInBounds_toArray, List.set_cons_zero, List.set_cons_succ]
        refine wpAnyH_take (i := 5) (v := ?_) rfl (by kernel_rfl) (by kernel_rfl) (by kernel_rfl) (fun _ _ _ h => h) (Or.inl ⟨by kernel_rfl, ?_⟩) hHeld ?_
        rotate_left
        · (intro w hSw; (try dsimp only at hSw); go_simp; try with_reducible rfl)
        try simp only [Act.put, List.getElem_toArray, List.getElem_cons_succ, List.getElem_cons_zero, List.setIfInBounds_toArray, List.set_cons_zero, List.set_cons_succ]
        refine wpAnyH_take (i := 7) (v := ?_) rfl (by kernel_rfl) (by kernel_rfl) (by kernel_rfl) (fun _ _ _ h => h) (Or.inl ⟨by kernel_rfl, ?_⟩) hHeld ?_
        rotate_left
        · (intro w hSw; (try dsimp only at hSw); go_simp; try with_reducible rfl)
        try simp only [Act.put, List.getElem_toArray, List.getElem_cons_succ, List.getElem_cons_zero, List.setIfInBounds_toArray, List.set_cons_zero, List.set_cons_succ]
        refine wpAnyH_take (i := 9) (v := ?_) rfl (by kernel_rfl) (by kernel_rfl) (by kernel_rfl) (fun _ _ _ h => h) (Or.inl ⟨by kernel_rfl, ?_⟩) hHeld ?_
        rotate_left
        · (intro w hSw; (try dsimp only at hSw); go_simp; try with_reducible rfl)
        try simp only [Act.put, List.getElem_toArray, List.getElem_cons_succ, List.getElem_cons_zero, List.setIfInBounds_toArray, List.set_cons_zero, List.set_cons_succ]
        refine wpAnyH_take (i := 10) (v := ?_) rfl (by kernel_rfl) (by kernel_rfl) (by kernel_rfl) (fun _ _ _ h => h) (Or.inl ⟨by kernel_rfl, ?_⟩) hHeld ?_
        rotate_left
        · (intro w hSw; (try dsimp only at hSw); go_simp; try with_reducible rfl)
        try simp only [Act.put, List.getElem_toArray, List.getElem_cons_succ, List.getElem_cons_zero, List.setIfInBounds_toArray, List.set_cons_zero, List.set_cons_succ]
        refine wpAnyH_take (i := 13) (v := ?_) rfl (by kernel_rfl) (by kernel_rfl) (by kernel_rfl) (fun _ _ _ h => h) (Or.inl ⟨by kernel_rfl, ?_⟩) hHeld ?_
        rotate_left
        · (intro w hSw; (try dsimp only at hSw); go_simp; try with_reducible rfl)
        try simp only [Act.put, List.getElem_toArray, List.getElem_cons_succ, List.getElem_cons_zero, List.setIfInBounds_toArray, List.set_cons_zero, List.set_cons_succ]
        refine wpAnyH_take (i := 15) (v := ?_) rfl (by kernel_rfl) (by kernel_rfl) (by kernel_rfl) (fun _ _ _ h => h) (Or.inl ⟨by kernel_rfl, ?_⟩) hHeld ?_
        rotate_left
        · (intro w hSw; (try dsimp only at hSw); go_simp; try with_reducible rfl)
        try simp only [Act.put, List.getElem_toArray, List.getElem_cons_succ, List.getElem_cons_zero, List.setIfInBounds_toArray, List.set_cons_zero, List.set_cons_succ]
        refine wpAnyH_take (i := 17) (v := ?_) rfl (by kernel_rfl) (by kernel_rfl) (by kernel_rfl) (fun _ _ _ h => h) (Or.inl ⟨by kernel_rfl, ?_⟩) hHeld ?_
        rotate_left
        · (intro w hSw; (try dsimp only at hSw); go_simp; try with_reducible rfl)
        try simp only [Act.put, List.getElem_toArray, List.getElem_cons_succ, List.getElem_cons_zero, List.setIfInBounds_toArray, List.set_cons_zero, List.set_cons_succ]
        refine wpAnyH_take (i := 19) (v := ?_) rfl (by kernel_rfl) (by kernel_rfl) (by kernel_rfl) (fun _ _ _ h => h) (Or.inl ⟨by kernel_rfl, ?_⟩) hHeld ?_
        rotate_left
        · (intro w hSw; (try dsimp only at hSw); go_simp; try with_reducible rfl)
        try simp only [Act.put, List.getElem_toArray, List.getElem_cons_succ, List.getElem_cons_zero, List.setIfInBounds_toArray, List.set_cons_zero, List.set_cons_succ]
        refine wpAnyH_take (i := 21) (v := ?_) rfl (by kernel_rfl) (by kernel_rfl) (by kernel_rfl) (fun _ _ _ h => h) (Or.inl ⟨by kernel_rfl, ?_⟩) hHeld ?_
        rotate_left
        · (intro w hSw; (try dsimp only at hSw); go_simp; try with_reducible rfl)
        try simp only [Act.put, List.getElem_toArray, List.getElem_cons_succ, List.getElem_cons_zero, List.setIfInBounds_toArray, List.set_cons_zero, List.set_cons_succ]
        refine wpAnyH_take (i := 1) (v := ?_) rfl (by kernel_rfl) (by kernel_rfl) (by kernel_rfl) (fun _ _ _ h => h) (Or.inl ⟨by kernel_rfl, ?_⟩) hHeld ?_
        rotate_left
        · (intro w hSw; (try dsimp only at hSw); go_simp; try with_reducible rfl)
        try simp only [Act.put, List.getElem_toArray, List.getElem_cons_succ, List.getElem_cons_zero, List.setIfInBounds_toArray, List.set_cons_zero, List.set_cons_succ]
        refine wpAnyH_take (i := 3) (v := ?_) rfl (by kernel_rfl) (by kernel_rfl) (by kernel_rfl) (fun _ _ _ h => h) (Or.inl ⟨by kernel_rfl, ?_⟩) hHeld ?_
        rotate_left
        · (intro w hSw; (try dsimp only at hSw); go_simp; try with_reducible rfl)
        try simp only [Act.put, List.getElem_toArray, List.getElem_cons_succ, List.getElem_cons_zero, List.setIfInBounds_toArray, List.set_cons_zero, List.set_cons_succ]
        refine wpAnyH_take (i := 8) (v := ?_) rfl (by kernel_rfl) (by kernel_rfl) (by kernel_rfl) (fun _ _ _ h => h) (Or.inl ⟨by kernel_rfl, ?_⟩) hHeld ?_
        rotate_left
        · (intro w hSw; (try dsimp only at hSw); go_simp; try with_reducible rfl)
        try simp only [Act.put, List.getElem_toArray, List.getElem_cons_succ, List.getElem_cons_zero, List.setIfInBounds_toArray, List.set_cons_zero, List.set_cons_succ]
        refine wpAnyH_take (i := 14) (v := ?_) rfl (by kernel_rfl) (by kernel_rfl) (by kernel_rfl) (fun _ _ _ h => h) (Or.inl ⟨by kernel_rfl, ?_⟩) hHeld ?_
        rotate_left
        · (intro w hSw; (try dsimp only at hSw); go_simp; try with_reducible rfl)
        try simp only [Act.put, List.getElem_toArray, List.getElem_cons_succ, List.getElem_cons_zero, List.setIfInBounds_toArray, List.set_cons_zero, List.set_cons_succ]
        refine wpAnyH_take (i := 16) (v := ?_) rfl (by kernel_rfl) (by kernel_rfl) (by kernel_rfl) (fun _ _ _ h => h) (Or.inl ⟨by kernel_rfl, ?_⟩) hHeld ?_
        rotate_left
        · (intro w hSw; (try dsimp only at hSw); go_simp; try with_reducible rfl)
        try simp only [Act.put, List.getElem_toArray, List.getElem_cons_succ, List.getElem_cons_zero, List.setIfInBounds_toArray, List.set_cons_zero, List.set_cons_succ]
        refine wpAnyH_take (i := 20) (v := ?_) rfl (by kernel_rfl) (by kernel_rfl) (by kernel_rfl) (fun _ _ _ h => h) (Or.inl ⟨by kernel_rfl, ?_⟩) hHeld ?_
        rotate_left
        · (intro w hSw; (try dsimp only at hSw); go_simp; try with_reducible rfl)
        try simp only [Act.put, List.getElem_toArray, List.getElem_cons_succ, List.getElem_cons_zero, List.setIfInBounds_toArray, List.set_cons_zero, List.set_cons_succ]
        refine wpAnyH_take (i := 6) (v := ?_) rfl (by kernel_rfl) (by kernel_rfl) (by kernel_rfl) (fun _ _ _ h => h) (Or.inl ⟨by kernel_rfl, ?_⟩) hHeld ?_
        rotate_left
        · (intro w hSw; (try dsimp only at hSw); go_simp; try with_reducible rfl)
        try simp only [Act.put, List.getElem_toArray, List.getElem_cons_succ, List.getElem_cons_zero, List.setIfInBounds_toArray, List.set_cons_zero, List.set_cons_succ]
        refine wpAnyH_take (i := 11) (v := ?_) rfl (by kernel_rfl) (by kernel_rfl) (by kernel_rfl) (fun _ _ _ h => h) (Or.inl ⟨by kernel_rfl, ?_⟩) hHeld ?_
        rotate_left
        · (intro w hSw; (try dsimp only at hSw); go_simp; try with_reducible rfl)
        try simp only [Act.put, List.getElem_toArray, List.getElem_cons_succ, List.getElem_cons_zero, List.setIfInBounds_toArray, List.set_cons_zero, List.set_cons_succ]
        refine wpAnyH_take (i := 18) (v := ?_) rfl (by kernel_rfl) (by kernel_rfl) (by kernel_rfl) (fun _ _ _ h => h) (Or.inl ⟨by kernel_rfl, ?_⟩) hHeld ?_
        rotate_left
        · (intro w hSw; (try dsimp only at hSw); go_simp; try with_reducible rfl)
        try simp only [Act.put, List.getElem_toArray, List.getElem_cons_succ, List.getElem_cons_zero, List.setIfInBounds_toArray, List.set_cons_zero, List.set_cons_succ]
        refine wpAnyH_take (i := 22) (v := ?_) rfl (by kernel_rfl) (by kernel_rfl) (by kernel_rfl) (fun _ _ _ h => h) (Or.inl ⟨by kernel_rfl, ?_⟩) hHeld ?_
        rotate_left
        · (intro w hSw; (try dsimp only at hSw); go_simp; try with_reducible rfl)
        try simp only [Act.put, List.getElem_toArray, List.getElem_cons_succ, List.getElem_cons_zero, List.setIfInBounds_toArray, List.set_cons_zero, List.set_cons_succ]
        refine wpAnyH_take (i := 12) (v := ?_) rfl (by kernel_rfl) (by kernel_rfl) (by kernel_rfl) (fun _ _ _ h => h) (Or.inl ⟨by kernel_rfl, ?_⟩) hHeld ?_
        rotate_left
        · (intro w hSw; (try dsimp only at hSw); go_simp; try with_reducible rfl)
        try simp only [Act.put, List.getElem_toArray, List.getElem_cons_succ, List.getElem_cons_zero, List.setIfInBounds_toArray, List.set_cons_zero, List.set_cons_succ]
        refine wpAnyH_take (i := 23) (v := ?_) rfl (by kernel_rfl) (by kernel_rfl) (by kernel_rfl) (fun _ _ _ h => h) (Or.inl ⟨by kernel_rfl, ?_⟩) hHeld ?_
        rotate_left
        · (intro w hSw; (try dsimp only at hSw); go_simp; try with_reducible rfl)
        try simp only [Act.put, List.getElem_toArray, List.getElem_cons_succ, List.getElem_cons_zero, List.setIfInBounds_toArray, List.set_cons_zero, List.set_cons_succ]
        refine wpAnyH_ready (rs := [24]) (by kernel_rfl) (by simp) ?_
        refine (AllReadyH.cons rfl (fun K hK => ?_) AllReadyH.nil)
        go_simp
        try dsimp only
        refine hK.out _ _ (by exact ⟨(set3_cell_d (p := ⟨G, 0, none⟩) nG1).trans y0, (set3_cell_d (p := ⟨G, 1, none⟩) nG1).trans y1, (set3_cell_d (p := ⟨G, 2, none⟩) nG1).trans y2⟩) (fun hHeld => ?_)
        clear hK K
        try simp only [Act.put, List.getElem_toArray, List.getElem_cons_succ, List.getElem_cons_zero, List.setIfInBounds_toArray, List.set_cons_zero, List.set_cons_succ]
        refine wpAnyH_ready (rs := [25]) (by kernel_rfl) (by simp) ?_
        refine (AllReadyH.cons rfl (fun K hK => ?_) AllReadyH.nil)
        go_simp
        try dsimp only
        refine hK.out _ _ (by exact ⟨(set3_cell_d (p := ⟨G, 0, none⟩) nG2).trans ((set3_cell (p := ⟨G, 0, none⟩) nG1).trans y0), (set3_cell_d (p := ⟨G, 1, none⟩) nG2).trans ((set3_cell (p := ⟨G, 1, none⟩) nG1).trans y1), (set3_cell_d (p := ⟨G, 2, none⟩) nG2).trans ((set3_cell (p := ⟨G, 2, none⟩) nG1).trans y2)⟩) (fun hHeld => ?_)
        clear hK K
        try simp only [Act.put, List.getElem_toArray, List.getElem_cons_succ, List.getElem_cons_zero, List.setIfInBounds_toArray, List.set_cons_zero, List.set_cons_succ]
        refine wpAnyH_take (i := 26) (v := ?_) rfl (by kernel_rfl) (by kernel_rfl) (by kernel_rfl) (fun _ _ _ h => h) (Or.inl ⟨by kernel_rfl, ?_⟩) hHeld ?_
        rotate_left
        · (intro w hSw; (try dsimp only at hSw); go_simp; try with_reducible rfl)
        try simp only [Act.put, List.getElem_toArray, List.getElem_cons_succ, List.getElem_cons_zero, List.setIfInBounds_toArray, List.set_cons_zero, List.set_cons_succ]
        refine wpAnyH_done (by kernel_rfl) ?_ _
        refine NoPanic.normal ?_
        go_wp2
        have l11 := row_ne o1 x1 (by decide)
        have l12 := row_ne o1 x2 (by decide)
        have l21 := row_ne o2 x1 (by decide)
        have l22 := row_ne o2 x2 (by decide)
        have x1' := (((((x1.set_ 0 (.bool leaf)).set_ 1 (.slice (some ⟨bk, 0, none⟩) k k)).set_ 2 (.slice (some ⟨bv, 0, none⟩) k k)).far (p := ⟨G + 1 + 1, 0, none⟩) (by simp) (.bool leaf)).far (p := ⟨G + 1 + 1, 1, none⟩) (by simp) (.slice (some ⟨bk, k, none⟩) (ks.length - k) (c1 - k))).far (p := ⟨G + 1 + 1, 2, none⟩) (by simp) (.slice (some ⟨bv, k, none⟩) (vs.length - k) (d1 - k))
        have x2' := (((((x2.far (p := ⟨G + 1, 0, none⟩) (by simp) (.bool leaf)).far (p := ⟨G + 1, 1, none⟩) (by simp) (.slice (some ⟨bk, 0, none⟩) k k)).far (p := ⟨G + 1, 2, none⟩) (by simp) (.slice (some ⟨bv, 0, none⟩) k k)).set_ 0 (.bool leaf)).set_ 1 (.slice (some ⟨bk, k, none⟩) (ks.length - k) (c1 - k))).set_ 2 (.slice (some ⟨bv, k, none⟩) (vs.length - k) (d1 - k))
        have ss1 := row_set (i := 2) (row_set (i := 1) (row_set (i := 0) (row_set (i := 2) (row_set (i := 1) (row_set (i := 0) o1 l11 (.bool leaf)) l11 (.slice (some ⟨bk, 0, none⟩) k k)) l11 (.slice (some ⟨bv, 0, none⟩) k k)) l12 (.bool leaf)) l12 (.slice (some ⟨bk, k, none⟩) (ks.length - k) (c1 - k))) l12 (.slice (some ⟨bv, k, none⟩) (vs.length - k) (d1 - k))
        have ss2 := row_set (i := 2) (row_set (i := 1) (row_set (i := 0) (row_set (i := 2) (row_set (i := 1) (row_set (i := 0) o2 l21 (.bool leaf)) l21 (.slice (some ⟨bk, 0, none⟩) k k)) l21 (.slice (some ⟨bv, 0, none⟩) k k)) l22 (.bool leaf)) l22 (.slice (some ⟨bk, k, none⟩) (ks.length - k) (c1 - k))) l22 (.slice (some ⟨bv, k, none⟩) (vs.length - k) (d1 - k))
        have bw' : Below w.heap.size w _ := (below_at (below_at (below_at (below_at (below_at (below_at bw (show w.heap.size ≤ G + 1 by omega) 0 (.bool leaf)) (show w.heap.size ≤ G + 1 by omega) 1 (.slice (some ⟨bk, 0, none⟩) k k)) (show w.heap.size ≤ G + 1 by omega) 2 (.slice (some ⟨bv, 0, none⟩) k k)) (show w.heap.size ≤ G + 1 + 1 by omega) 0 (.bool leaf)) (show w.heap.size ≤ G + 1 + 1 by omega) 1 (.slice (some ⟨bk, k, none⟩) (ks.length - k) (c1 - k))) (show w.heap.size ≤ G + 1 + 1 by omega) 2 (.slice (some ⟨bv, k, none⟩) (vs.length - k) (d1 - k))).drew
        simp at x1' x2'
        obtain ⟨W, hW⟩ : ∃ W, ((((((v1.setCell ⟨G + 1, 0, none⟩ (.bool leaf)).setCell ⟨G + 1, 1, none⟩ (.slice (some ⟨bk, 0, none⟩) k k)).setCell ⟨G + 1, 2, none⟩ (.slice (some ⟨bv, 0, none⟩) k k)).setCell ⟨G + 1 + 1, 0, none⟩ (.bool leaf)).setCell ⟨G + 1 + 1, 1, none⟩ (.slice (some ⟨bk, k, none⟩) (ks.length - k) (c1 - k))).setCell ⟨G + 1 + 1, 2, none⟩ (.slice (some ⟨bv, k, none⟩) (vs.length - k) (d1 - k))) = W := ⟨_, rfl⟩
        rw [hW] at x1' x2' ss1 ss2 bw' ⊢
        have r0 := x1'.cell 0
        have r1 := x1'.cell 1
        have r2 := x1'.cell 2
        have t0 := x2'.cell 0
        have t1 := x2'.cell 1
        have t2 := x2'.cell 2
        simp at r0 r1 r2 t0 t1 t2
        obtain rfl := hKK.out
        refine bodyPost_ret (v := .tuple #[.agg #[.bool leaf, .slice (some ⟨bk, 0, none⟩) k k, .slice (some ⟨bv, 0, none⟩) k k], .agg #[.bool leaf, .slice (some ⟨bk, k, none⟩) (ks.length - k) (c1 - k), .slice (some ⟨bv, k, none⟩) (vs.length - k) (d1 - k)], .bool true]) ?h1 rfl ?h2
        case h1 => simp [results, Try.results25, go_sem, r0, r1, r2, t0, t1, t2]
        case h2 => exact ⟨_, _, rfl, ⟨_, _, rfl, cut_ss ss1 rfl k (by omega), cut_ss ss2 rfl k (by omega)⟩, ⟨_, _, rfl, tail_ss ss1 rfl k (by omega), tail_ss ss2 rfl k (by omega)⟩, bw'⟩
    · have q1 : decide ((k : Int) < ks.length - 1) = false := decide_eq_false (by omega)
      have hKk : k = K := by rw [← HCK.out, cutGo_no (by omega)]
      have hKK := Lib.hid hKk
      clear hKk
      have kr1 := kr
      obtain ⟨v1, hv1⟩ : ∃ v, wr = v := ⟨_, rfl⟩
      subst hv1
      go_wp2_with fail
      have x1 := x1.below kr1 x1.lt
      have x2 := x2.below kr1 x2.lt
      have o1 := row_below o1 kr1
      have o2 := row_below o2 kr1
      have bw := hthen bb kr1
      obtain ⟨hc1, hc1m⟩ := orow_cap o1
      obtain ⟨hd1, hd1m⟩ := orow_cap o2
      have g0 := x1.frozen 0
      have g1 := x1.frozen 1
      have g2 := x1.frozen 2
      have u0 := x1.cell 0
      have u1 := x1.cell 1
      have u2 := x1.cell 2
      have j0 := x2.frozen 0
      have j1 := x2.frozen 1
      have j2 := x2.frozen 2
      have v0 := x2.cell 0
      have v1' := x2.cell 1
      have v2 := x2.cell 2
      simp at u0 u1 u2 v0 v1' v2
      have hvl : k < vs.length := by rw [HL2.out]; exact hkl
      have T0 : (0 : Int) ≤ k := by omega
      have T1 : (k : Int) ≤ c1 := by omega
      have T2 : (k : Int) ≤ d1 := by omega
      have T3 : k ≤ c1 := by omega
      have T4 : k ≤ d1 := by omega
      have T5 : ¬ c1 = k := by omega
      have T6 : ¬ d1 = k := by omega
      have T7 : (k : Int) ≤ ks.length := by omega
      have T8 : (k : Int) ≤ vs.length := by omega
      have T9 : k ≤ ks.length := by omega
      have T10 : k ≤ vs.length := by omega
      clear a1 a2 q1
      clear HE0 HZ0 ENT HCK HSL
      have nG1 : G ≠ G + 1 := by omega
      have nG2 : G ≠ G + 1 + 1 := by omega
      refine wp_region_noPanic ?_
      refine wp_region_held_drew (S := (fun w' => w'.cell? ⟨G, 0, none⟩ = some (.bool leaf) ∧ w'.cell? ⟨G, 1, none⟩ = some (.slice (some ⟨bk, 0, none⟩) ks.length c1) ∧ w'.cell? ⟨G, 2, none⟩ = some (.slice (some ⟨bv, 0, none⟩) vs.length d1))) (by kernel_rfl) ?hS0 (fun hHeld => ?_)
      case hS0 => exact ⟨y0, y1, y2⟩
      refine wpAnyH_take (i := 0) (v := ?_) rfl (by kernel_rfl) (by kernel_rfl) (by kernel_rfl) (fun _ _ _ h => h) (Or.inl ⟨by kernel_rfl, ?_⟩) hHeld ?_
      rotate_left
      · (intro w hSw; (try dsimp only at hSw); go_simp; try with_reducible rfl)
      try simp only [Act.put, List.getElem_toArray, List.getElem_cons_succ, List.getElem_cons_zero, List.setIfInBounds_toArray, List.set_cons_zero, List.set_cons_succ]
      refine wpAnyH_take (i := 2) (v := ?_) rfl (by kernel_rfl) (by kernel_rfl) (by kernel_rfl) (fun _ _ _ h => h) (Or.inl ⟨by kernel_rfl, ?_⟩) hHeld ?_
      rotate_left
      · (intro w hSw; (try dsimp only at hSw); go_simp; try with_reducible rfl)
      try simp only [Act.put, List.getElem_toArray, List.getElem_cons_succ, List.getElem_cons_zero, List.setIfInBounds_toArray, List.set_cons_zero, List.set_cons_succ]
      refine wpAnyH_take (i := 4) (v := ?_) rfl (by kernel_rfl) (by kernel_rfl) (by kernel_rfl) (fun _ _ _ h => h) (Or.inl ⟨by kernel_rfl, ?_⟩) hHeld ?_
      rotate_left
      · (intro w hSw; (try dsimp only at hSw); go_simp; try with_reducible rfl)
      try simp only [Act.put, List.getElem_toArray, List.getElem_cons_succ, List.getElem_cons_zero, List.setIfInBounds_toArray, List.set_cons_zero, List.set_cons_succ]
      refine wpAnyH_take (i := 5) (v := ?_) rfl (by kernel_rfl) (by kernel_rfl) (by kernel_rfl) (fun _ _ _ h => h) (Or.inl ⟨by kernel_rfl, ?_⟩) hHeld ?_
      rotate_left
      · (intro w hSw; (try dsimp only at hSw); go_simp; try with_reducible rfl)
      try simp only [Act.put, List.getElem_toArray, List.getElem_cons_succ, List.getElem_cons_zero, List.setIfInBounds_toArray, List.set_cons_zero, List.set_cons_succ]
      refine wpAnyH_take (i := 7) (v := ?_) rfl (by kernel_rfl) (by kernel_rfl) (by kernel_rfl) (fun _ _ _ h => h) (Or.inl ⟨by kernel_rfl, ?_⟩) hHeld ?_
      rotate_left
      · (intro w hSw; (try dsimp only at hSw); go_simp; try with_reducible rfl)
      try simp only [Act.put, List.getElem_toArray, List.getElem_cons_succ, List.getElem_cons_zero, List.setIfInBounds_toArray, List.set_cons_zero, List.set_cons_succ]
      refine wpAnyH_take (i := 9) (v := ?_) rfl (by kernel_rfl) (by kernel_rfl) (by kernel_rfl) (fun _ _ _ h => h) (Or.inl ⟨by kernel_rfl, ?_⟩) hHeld ?_
      rotate_left
      · (intro w hSw; (try dsimp only at hSw); go_simp; try with_reducible rfl)
      try simp only [Act.put, List.getElem_toArray, List.getElem_cons_succ, List.getElem_cons_zero, List.setIfInBounds_toArray, List.set_cons_zero, List.set_cons_succ]
      refine wpAnyH_take (i := 10) (v := ?_) rfl (by kernel_rfl) (by kernel_rfl) (by kernel_rfl) (fun _ _ _ h => h) (Or.inl ⟨by kernel_rfl, ?_⟩) hHeld ?_
      rotate_left
      · (intro w hSw; (try dsimp only at hSw); go_simp; try with_reducible rfl)
      try simp only [Act.put, List.getElem_toArray, List.getElem_cons_succ, List.getElem_cons_zero, List.setIfInBounds_toArray, List.set_cons_zero, List.set_cons_succ]
      refine wpAnyH_take (i := 13) (v := ?_) rfl (by kernel_rfl) (by kernel_rfl) (by kernel_rfl) (fun _ _ _ h => h) (Or.inl ⟨by kernel_rfl, ?_⟩) hHeld ?_
      rotate_left
      · (intro w hSw; (try dsimp only at hSw); go_simp; try with_reducible rfl)
      try simp only [Act.put, List.getElem_toArray, List.getElem_cons_succ, List.getElem_cons_zero, List.setIfInBounds_toArray, List.set_cons_zero, List.set_cons_succ]
      refine wpAnyH_take (i := 15) (v := ?_) rfl (by kernel_rfl) (by kernel_rfl) (by kernel_rfl) (fun _ _ _ h => h) (Or.inl ⟨by kernel_rfl, ?_⟩) hHeld ?_
      rotate_left
      · (intro w hSw; (try dsimp only at hSw); go_simp; try with_reducible rfl)
      try simp only [Act.put, List.getElem_toArray, List.getElem_cons_succ, List.getElem_cons_zero, List.setIfInBounds_toArray, List.set_cons_zero, List.set_cons_succ]
      refine wpAnyH_take (i := 17) (v := ?_) rfl (by kernel_rfl) (by kernel_rfl) (by kernel_rfl) (fun _ _ _ h => h) (Or.inl ⟨by kernel_rfl, ?_⟩) hHeld ?_
      rotate_left
      · (intro w hSw; (try dsimp only at hSw); go_simp; try with_reducible rfl)
      try simp only [Act.put, List.getElem_toArray, List.getElem_cons_succ, List.getElem_cons_zero, List.setIfInBounds_toArray, List.set_cons_zero, List.set_cons_succ]
      refine wpAnyH_take (i := 19) (v := ?_) rfl (by kernel_rfl) (by kernel_rfl) (by kernel_rfl) (fun _ _ _ h => h) (Or.inl ⟨by kernel_rfl, ?_⟩) hHeld ?_
      rotate_left
      · (intro w hSw; (try dsimp only at hSw); go_simp; try with_reducible rfl)
      try simp only [Act.put, List.getElem_toArray, List.getElem_cons_succ, List.getElem_cons_zero, List.setIfInBounds_toArray, List.set_cons_zero, List.set_cons_succ]
      refine wpAnyH_take (i := 21) (v := ?_) rfl (by kernel_rfl) (by kernel_rfl) (by kernel_rfl) (fun _ _ _ h => h) (Or.inl ⟨by kernel_rfl, ?_⟩) hHeld ?_
      rotate_left
      · (intro w hSw; (try dsimp only at hSw); go_simp; try with_reducible rfl)
      try simp only [Act.put, List.getElem_toArray, List.getElem_cons_succ, List.getElem_cons_zero, List.setIfInBounds_toArray, List.set_cons_zero, List.set_cons_succ]
      refine wpAnyH_take (i := 1) (v := ?_) rfl (by kernel_rfl) (by kernel_rfl) (by kernel_rfl) (fun _ _ _ h => h) (Or.inl ⟨by kernel_rfl, ?_⟩) hHeld ?_
      rotate_left
      · (intro w hSw; (try dsimp only at hSw); go_simp; try with_reducible rfl)
      try simp only [Act.put, List.getElem_toArray, List.getElem_cons_succ, List.getElem_cons_zero, List.setIfInBounds_toArray, List.set_cons_zero, List.set_cons_succ]
      refine wpAnyH_take (i := 3) (v := ?_) rfl (by kernel_rfl) (by kernel_rfl) (by kernel_rfl) (fun _ _ _ h => h) (Or.inl ⟨by kernel_rfl, ?_⟩) hHeld ?_
      rotate_left
      · (intro w hSw; (try dsimp only at hSw); go_simp; try with_reducible rfl)
      try simp only [Act.put, List.getElem_toArray, List.getElem_cons_succ, List.getElem_cons_zero, List.setIfInBounds_toArray, List.set_cons_zero, List.set_cons_succ]
      refine wpAnyH_take (i := 8) (v := ?_) rfl (by kernel_rfl) (by kernel_rfl) (by kernel_rfl) (fun _ _ _ h => h) (Or.inl ⟨by kernel_rfl, ?_⟩) hHeld ?_
      rotate_left
      · (intro w hSw; (try dsimp only at hSw); go_simp; try with_reducible rfl)
      try simp only [Act.put, List.getElem_toArray, List.getElem_cons_succ, List.getElem_cons_zero, List.setIfInBounds_toArray, List.set_cons_zero, List.set_cons_succ]
      refine wpAnyH_take (i := 14) (v := ?_) rfl (by kernel_rfl) (by kernel_rfl) (by kernel_rfl) (fun _ _ _ h => h) (Or.inl ⟨by kernel_rfl, ?_⟩) hHeld ?_
      rotate_left
      · (intro w hSw; (try dsimp only at hSw); go_simp; try with_reducible rfl)
      try simp only [Act.put, List.getElem_toArray, List.getElem_cons_succ, List.getElem_cons_zero, List.setIfInBounds_toArray, List.set_cons_zero, List.set_cons_succ]
      refine wpAnyH_take (i := 16) (v := ?_) rfl (by kernel_rfl) (by kernel_rfl) (by kernel_rfl) (fun _ _ _ h => h) (Or.inl ⟨by kernel_rfl, ?_⟩) hHeld ?_
      rotate_left
      · (intro w hSw; (try dsimp only at hSw); go_simp; try with_reducible rfl)
      try simp only [Act.put, List.getElem_toArray, List.getElem_cons_succ, List.getElem_cons_zero, List.setIfInBounds_toArray, List.set_cons_zero, List.set_cons_succ]
      refine wpAnyH_take (i := 20) (v := ?_) rfl (by kernel_rfl) (by kernel_rfl) (by kernel_rfl) (fun _ _ _ h => h) (Or.inl ⟨by kernel_rfl, ?_⟩) hHeld ?_
      rotate_left
      · (intro w hSw; (try dsimp only at hSw); go_simp; try with_reducible rfl)
      try simp only [Act.put, List.getElem_toArray, List.getElem_cons_succ, List.getElem_cons_zero, List.setIfInBounds_toArray, List.set_cons_zero, List.set_cons_succ]
      refine wpAnyH_take (i := 6) (v := ?_) rfl (by kernel_rfl) (by kernel_rfl) (by kernel_rfl) (fun _ _ _ h => h) (Or.inl ⟨by kernel_rfl, ?_⟩) hHeld ?_
      rotate_left
      · (intro w hSw; (try dsimp only at hSw); go_simp; try with_reducible rfl)
      try simp only [Act.put, List.getElem_toArray, List.getElem_cons_succ, List.getElem_cons_zero, List.setIfInBounds_toArray, List.set_cons_zero, List.set_cons_succ]
      refine wpAnyH_take (i := 11) (v := ?_) rfl (by kernel_rfl) (by kernel_rfl) (by kernel_rfl) (fun _ _ _ h => h) (Or.inl ⟨by kernel_rfl, ?_⟩) hHeld ?_
      rotate_left
      · (intro w hSw; (try dsimp only at hSw); go_simp; try with_reducible rfl)
      try simp only [Act.put, List.getElem_toArray, List.getElem_cons_succ, List.getElem_cons_zero, List.setIfInBounds_toArray, List.set_cons_zero, List.set_cons_succ]
      refine wpAnyH_take (i := 18) (v := ?_) rfl (by kernel_rfl) (by kernel_rfl) (by kernel_rfl) (fun _ _ _ h => h) (Or.inl ⟨by kernel_rfl, ?_⟩) hHeld ?_
      rotate_left
      · (intro w hSw; (try dsimp only at hSw); go_simp; try with_reducible rfl)
      try simp only [Act.put, List.getElem_toArray, List.getElem_cons_succ, List.getElem_cons_zero, List.setIfInBounds_toArray, List.set_cons_zero, List.set_cons_succ]
      refine wpAnyH_take (i := 22) (v := ?_) rfl (by kernel_rfl) (by kernel_rfl) (by kernel_rfl) (fun _ _ _ h => h) (Or.inl ⟨by kernel_rfl, ?_⟩) hHeld ?_
      rotate_left
      · (intro w hSw; (try dsimp only at hSw); go_simp; try with_reducible rfl)
      try simp only [Act.put, List.getElem_toArray, List.getElem_cons_succ, List.getElem_cons_zero, List.setIfInBounds_toArray, List.set_cons_zero, List.set_cons_succ]
      refine wpAnyH_take (i := 12) (v := ?_) rfl (by kernel_rfl) (by kernel_rfl) (by kernel_rfl) (fun _ _ _ h => h) (Or.inl ⟨by kernel_rfl, ?_⟩) hHeld ?_
      rotate_left
      · (intro w hSw; (try dsimp only at hSw); go_simp; try with_reducible rfl)
      try simp only [Act.put, List.getElem_toArray, List.getElem_cons_succ, List.getElem_cons_zero, List.setIfInBounds_toArray, List.set_cons_zero, List.set_cons_succ]
      refine wpAnyH_take (i := 23) (v := ?_) rfl (by kernel_rfl) (by kernel_rfl) (by kernel_rfl) (fun _ _ _ h => h) (Or.inl ⟨by kernel_rfl, ?_⟩) hHeld ?_
      rotate_left
      · (intro w hSw; (try dsimp only at hSw); go_simp; try with_reducible rfl)
      try simp only [Act.put, List.getElem_toArray, List.getElem_cons_succ, List.getElem_cons_zero, List.setIfInBounds_toArray, List.set_cons_zero, List.set_cons_succ]
      refine wpAnyH_ready (rs := [24]) (by kernel_rfl) (by simp) ?_
      refine (AllReadyH.cons rfl (fun K hK => ?_) AllReadyH.nil)
      go_simp
      try dsimp only
      refine hK.out _ _ (by exact ⟨(set3_cell_d (p := ⟨G, 0, none⟩) nG1).trans y0, (set3_cell_d (p := ⟨G, 1, none⟩) nG1).trans y1, (set3_cell_d (p := ⟨G, 2, none⟩) nG1).trans y2⟩) (fun hHeld => ?_)
      clear hK K
      try simp only [Act.put, List.getElem_toArray, List.getElem_cons_succ, List.getElem_cons_zero, List.setIfInBounds_toArray, List.set_cons_zero, List.set_cons_succ]
      refine wpAnyH_ready (rs := [25]) (by kernel_rfl) (by simp) ?_
      refine (AllReadyH.cons rfl (fun K hK => ?_) AllReadyH.nil)
      go_simp
      try dsimp only
      refine hK.out _ _ (by exact ⟨(set3_cell_d (p := ⟨G, 0, none⟩) nG2).trans ((set3_cell (p := ⟨G, 0, none⟩) nG1).trans y0), (set3_cell_d (p := ⟨G, 1, none⟩) nG2).trans ((set3_cell (p := ⟨G, 1, none⟩) nG1).trans y1), (set3_cell_d (p := ⟨G, 2, none⟩) nG2).trans ((set3_cell (p := ⟨G, 2, none⟩) nG1).trans y2)⟩) (fun hHeld => ?_)
      clear hK K
      try simp only [Act.put, List.getElem_toArray, List.getElem_cons_succ, List.getElem_cons_zero, List.setIfInBounds_toArray, List.set_cons_zero, List.set_cons_succ]
      refine wpAnyH_take (i := 26) (v := ?_) rfl (by kernel_rfl) (by kernel_rfl) (by kernel_rfl) (fun _ _ _ h => h) (Or.inl ⟨by kernel_rfl, ?_⟩) hHeld ?_
      rotate_left
      · (intro w hSw; (try dsimp only at hSw); go_simp; try with_reducible rfl)
      try simp only [Act.put, List.getElem_toArray, List.getElem_cons_succ, List.getElem_cons_zero, List.setIfInBounds_toArray, List.set_cons_zero, List.set_cons_succ]
      refine wpAnyH_done (by kernel_rfl) ?_ _
      refine NoPanic.normal ?_
      go_wp2
      have l11 := row_ne o1 x1 (by decide)
      have l12 := row_ne o1 x2 (by decide)
      have l21 := row_ne o2 x1 (by decide)
      have l22 := row_ne o2 x2 (by decide)
      have x1' := (((((x1.set_ 0 (.bool leaf)).set_ 1 (.slice (some ⟨bk, 0, none⟩) k k)).set_ 2 (.slice (some ⟨bv, 0, none⟩) k k)).far (p := ⟨G + 1 + 1, 0, none⟩) (by simp) (.bool leaf)).far (p := ⟨G + 1 + 1, 1, none⟩) (by simp) (.slice (some ⟨bk, k, none⟩) (ks.length - k) (c1 - k))).far (p := ⟨G + 1 + 1, 2, none⟩) (by simp) (.slice (some ⟨bv, k, none⟩) (vs.length - k) (d1 - k))
      have x2' := (((((x2.far (p := ⟨G + 1, 0, none⟩) (by simp) (.bool leaf)).far (p := ⟨G + 1, 1, none⟩) (by simp) (.slice (some ⟨bk, 0, none⟩) k k)).far (p := ⟨G + 1, 2, none⟩) (by simp) (.slice (some ⟨bv, 0, none⟩) k k)).set_ 0 (.bool leaf)).set_ 1 (.slice (some ⟨bk, k, none⟩) (ks.length - k) (c1 - k))).set_ 2 (.slice (some ⟨bv, k, none⟩) (vs.length - k) (d1 - k))
      have ss1 := row_set (i := 2) (row_set (i := 1) (row_set (i := 0) (row_set (i := 2) (row_set (i := 1) (row_set (i := 0) o1 l11 (.bool leaf)) l11 (.slice (some ⟨bk, 0, none⟩) k k)) l11 (.slice (some ⟨bv, 0, none⟩) k k)) l12 (.bool leaf)) l12 (.slice (some ⟨bk, k, none⟩) (ks.length - k) (c1 - k))) l12 (.slice (some ⟨bv, k, none⟩) (vs.length - k) (d1 - k))
      have ss2 := row_set (i := 2) (row_set (i := 1) (row_set (i := 0) (row_set (i := 2) (row_set (i := 1) (row_set (i := 0) o2 l21 (.bool leaf)) l21 (.slice (some ⟨bk, 0, none⟩) k k)) l21 (.slice (some ⟨bv, 0, none⟩) k k)) l22 (.bool leaf)) l22 (.slice (some ⟨bk, k, none⟩) (ks.length - k) (c1 - k))) l22 (.slice (some ⟨bv, k, none⟩) (vs.length - k) (d1 - k))
      have bw' : Below w.heap.size w _ := (below_at (below_at (below_at (below_at (below_at (below_at bw (show w.heap.size ≤ G + 1 by omega) 0 (.bool leaf)) (show w.heap.size ≤ G + 1 by omega) 1 (.slice (some ⟨bk, 0, none⟩) k k)) (show w.heap.size ≤ G + 1 by omega) 2 (.slice (some ⟨bv, 0, none⟩) k k)) (show w.heap.size ≤ G + 1 + 1 by omega) 0 (.bool leaf)) (show w.heap.size ≤ G + 1 + 1 by omega) 1 (.slice (some ⟨bk, k, none⟩) (ks.length - k) (c1 - k))) (show w.heap.size ≤ G + 1 + 1 by omega) 2 (.slice (some ⟨bv, k, none⟩) (vs.length - k) (d1 - k))).drew
      simp at x1' x2'
      obtain ⟨W, hW⟩ : ∃ W, ((((((wr.setCell ⟨G + 1, 0, none⟩ (.bool leaf)).setCell ⟨G + 1, 1, none⟩ (.slice (some ⟨bk, 0, none⟩) k k)).setCell ⟨G + 1, 2, none⟩ (.slice (some ⟨bv, 0, none⟩) k k)).setCell ⟨G + 1 + 1, 0, none⟩ (.bool leaf)).setCell ⟨G + 1 + 1, 1, none⟩ (.slice (some ⟨bk, k, none⟩) (ks.length - k) (c1 - k))).setCell ⟨G + 1 + 1, 2, none⟩ (.slice (some ⟨bv, k, none⟩) (vs.length - k) (d1 - k))) = W := ⟨_, rfl⟩
      rw [hW] at x1' x2' ss1 ss2 bw' ⊢
      have r0 := x1'.cell 0
      have r1 := x1'.cell 1
      have r2 := x1'.cell 2
      have t0 := x2'.cell 0
      have t1 := x2'.cell 1
      have t2 := x2'.cell 2
      simp at r0 r1 r2 t0 t1 t2
      obtain rfl := hKK.out
      refine bodyPost_ret (v := .tuple #[.agg #[.bool leaf, .slice (some ⟨bk, 0, none⟩) k k, .slice (some ⟨bv, 0, none⟩) k k], .agg #[.bool leaf, .slice (some ⟨bk, k, none⟩) (ks.length - k) (c1 - k), .slice (some ⟨bv, k, none⟩) (vs.length - k) (d1 - k)], .bool true]) ?h1 rfl ?h2
      case h1 => simp [results, Try.results25, go_sem, r0, r1, r2, t0, t1, t2]
      case h2 => exact ⟨_, _, rfl, ⟨_, _, rfl, cut_ss ss1 rfl k (by omega), cut_ss ss2 rfl k (by omega)⟩, ⟨_, _, rfl, tail_ss ss1 rfl k (by omega), tail_ss ss2 rfl k (by omega)⟩, bw'⟩
end Go.Proofs.Ytiodeeliidhbgaa
