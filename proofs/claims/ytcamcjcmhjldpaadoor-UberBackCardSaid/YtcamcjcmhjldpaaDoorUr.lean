/- The reference 06: Decode: contract. -/
import Derived.Test.YtcamcjcmhjldpaaDoorUq
namespace Go.Proofs.YtcamcjcmhjldpaaDoor
open Go Go.RowKit
set_option linter.unusedSimpArgs false
set_option linter.unnecessarySimpa false
set_option linter.unusedVariables false

section
attribute [local go_sem] undef
set_option maxRecDepth 100000 in
set_option maxHeartbeats 4000000 in
theorem rdec_any (s : List UInt8) (hs : s.length ≤ 8000) (w : World) :
    Calls Tryd.prog 14 #[.string (bstr s)] w fun e w' => e = .returned (.tuple #[.agg #[.int .i64 (ubD s).1.txg, .string (bstr (ubD s).1.load)], .int .i64 (ubD s).2]) ∧ Below w.heap.size w w' := by
  have bel : Below w.heap.size w w := Below.refl _ _
  obtain ⟨B, hB0⟩ : ∃ B, w.heap.size = B := ⟨_, rfl⟩
  have HW := Lib.hid hB0
  rw [hB0]
  clear hB0
  have szl : (bstr s).size = s.length := by simp [bstr, ByteArray.size]
  obtain ⟨⟨⟨T, L⟩, E⟩, hD⟩ : ∃ x, ubD s = x := ⟨_, rfl⟩
  rw [hD]
  rw [← rbD_eq] at hD
  simp only
  by_cases h1 : s.length < 42
  · have q1 : decide ((s.length : Int) < 42) = true := decide_eq_true (by omega)
    have hE : (⟨⟨T, L⟩, E⟩ : Ub × Int) = (zUb, 2) := by rw [← hD]; unfold rbD; rw [if_pos h1]
    cases hE
    clear hD h1
    go_enter Tryd.func14, Tryd.ntmps14
    go_wp2_with fail
    obtain ⟨w1, hw1⟩ : ∃ x, w.alloc (.cells #[.int .i64 0, .string ⟨#[]⟩] 23) = x := ⟨_, rfl⟩
    obtain ⟨ir0, hir0⟩ : ∃ i, w.heap.size = i := ⟨_, rfl⟩
    have r0 : Blk w1 ir0 23 #[.int .i64 0, .string ⟨#[]⟩] := by rw [← hw1, ← hir0]; exact Blk.new _ _ _
    have k1 : Below w.heap.size w w1 := by rw [← hw1]; exact (Below.refl _ _).alloc (Nat.le_refl _) _
    have zr0 : w1.heap.size = ir0 + 1 := by rw [← hw1, ← hir0]; simp
    rw [hw1, hir0]
    have or0 : w.heap.size ≤ ir0 := by rw [← hir0]; exact bel.size
    have bel := hthen bel k1
    clear k1
    clear hw1 hir0
    have r0c0 := r0.cell 0
    have r0c1 := r0.cell 1
    simp at r0c0 r0c1
    have r0lt := r0.lt
    have rf0 := r0.frozen 0
    have rf1 := r0.frozen 1
    go_wp2
    have xx0 := r0.cell 0
    have xx1 := r0.cell 1
    simp at xx0 xx1
    refine bodyPost_ret (v := .tuple #[.agg #[.int .i64 0, .string ⟨#[]⟩], .int .i64 2]) ?h1 rfl ?h2
    case h1 => simp [results, Tryd.results14, go_sem, xx0, xx1]
    case h2 => exact ⟨rfl, HW.out ▸ bel⟩
  · have q1 : decide ((s.length : Int) < 42) = false := decide_eq_false (by omega)
    obtain ⟨n, hn⟩ : ∃ n, s.length = n + 32 := ⟨s.length - 32, by omega⟩
    have hn10 : 10 ≤ n := by omega
    have hn2 : s.length - 32 = n := by omega
    have ww : IntKind.i64.wrap (n : Int) = n := IntWalk.i64_in _ ⟨by omega, by omega⟩
    have T1 : (0 : Int) ≤ n := by omega
    have T2 : (n : Int) ≤ (n : Int) + 32 := by omega
    have T3 : (2 : Int) ≤ n := by omega
    have e9 : List.take (n + 32) s = s := List.take_of_length_le (by omega)
    obtain ⟨tt, htt⟩ : ∃ x, s.take n = x := ⟨_, rfl⟩
    obtain ⟨dd, hdd⟩ : ∃ x, s.drop n = x := ⟨_, rfl⟩
    obtain ⟨uu, huu⟩ : ∃ x, tt.drop 2 = x := ⟨_, rfl⟩
    have htl : tt.length = n := by rw [← htt, List.length_take]; omega
    have hul : uu.length + 2 = n := by rw [← huu, List.length_drop]; omega
    have hD2 : (⟨⟨T, L⟩, E⟩ : Ub × Int) = if shaL tt ≠ dd then (zUb, 4) else if (rbR uu).fin ≠ 0 ∨ ubE (rbR uu).u ≠ 0 ∨ ubL (rbR uu).u ≠ s then (zUb, 3) else ((rbR uu).u, 0) := by
      rw [← hD]
      unfold rbD
      rw [if_neg h1, hn2, htt, hdd, huu]
    obtain ⟨SH, hSH⟩ : ∃ x, shaL tt = x := ⟨_, rfl⟩
    rw [hSH] at hD2
    have HSH : Hid (shaL (s.take n) = SH) := Lib.hid (by rw [htt]; exact hSH)
    have HD := Lib.hid hD2
    have HT : Hid (s.take n = tt) := Lib.hid htt
    have HDD : Hid (s.drop n = dd) := Lib.hid hdd
    have HUU : Hid (tt.drop 2 = uu) := Lib.hid huu
    have HU2 : Hid ((s.take n).drop 2 = uu) := Lib.hid (by rw [htt]; exact huu)
    have HE9 := Lib.hid e9
    have hTn : Hid ((s.take n).length ≤ 8000) := Lib.hid (by rw [List.length_take]; omega)
    clear hD hD2 hSH htt hdd huu hn2 h1 e9
    go_enter Tryd.func14, Tryd.ntmps14
    go_wp2_with fail
    obtain ⟨w1, hw1⟩ : ∃ x, w.alloc (.cells #[.int .i64 0, .string ⟨#[]⟩] 23) = x := ⟨_, rfl⟩
    obtain ⟨ir0, hir0⟩ : ∃ i, w.heap.size = i := ⟨_, rfl⟩
    have r0 : Blk w1 ir0 23 #[.int .i64 0, .string ⟨#[]⟩] := by rw [← hw1, ← hir0]; exact Blk.new _ _ _
    have k1 : Below w.heap.size w w1 := by rw [← hw1]; exact (Below.refl _ _).alloc (Nat.le_refl _) _
    have zr0 : w1.heap.size = ir0 + 1 := by rw [← hw1, ← hir0]; simp
    rw [hw1, hir0]
    have or0 : w.heap.size ≤ ir0 := by rw [← hir0]; exact bel.size
    have bel := hthen bel k1
    clear k1
    clear hw1 hir0
    have r0c0 := r0.cell 0
    have r0c1 := r0.cell 1
    simp at r0c0 r0c1
    have r0lt := r0.lt
    try (go_wp2_with fail)
    clear r0c0 r0c1 r0lt
    have bel := bel.drew
    have r0 := r0.drew
    refine wp_region_noPanic ?_
    refine wp_region_held_drew (S := (fun _ => True)) (by kernel_rfl) ?hS0 (fun hHeld => ?_)
    case hS0 => (exact trivial)
    generalize hZ : w1.drew = wd2 at *
    clear hZ
    refine wpAnyH_take (i := 0) (oi := ⟨some 16, _, _, _, _, _⟩) (v := ?_) rfl (by kernel_rfl) (by kernel_rfl) (by kernel_rfl) (fun _ _ _ h => h) (Or.inl ⟨by kernel_rfl, ?_⟩) hHeld ?_
    rotate_left
    · (intro w hSw; (try dsimp only at hSw); go_simp; try with_reducible rfl)
    try simp only [Act.put, List.getElem_toArray, List.getElem_cons_succ, List.getElem_cons_zero, List.setIfInBounds_toArray, List.set_cons_zero, List.set_cons_succ]
    refine wpAnyH_take (i := 1) (oi := ⟨some 17, _, _, _, _, _⟩) (v := ?_) rfl (by kernel_rfl) (by kernel_rfl) (by kernel_rfl) (fun _ _ _ h => h) (Or.inl ⟨by kernel_rfl, ?_⟩) hHeld ?_
    rotate_left
    · (intro w hSw; (try dsimp only at hSw); go_simp; try with_reducible rfl)
    try simp only [Act.put, List.getElem_toArray, List.getElem_cons_succ, List.getElem_cons_zero, List.setIfInBounds_toArray, List.set_cons_zero, List.set_cons_succ]
    refine wpAnyH_take (i := 2) (oi := ⟨some 18, _, _, _, _, _⟩) (v := ?_) rfl (by kernel_rfl) (by kernel_rfl) (by kernel_rfl) (fun _ _ _ h => h) (Or.inl ⟨by kernel_rfl, ?_⟩) hHeld ?_
    rotate_left
    · (intro w hSw; (try dsimp only at hSw); go_simp; try with_reducible rfl)
    try simp only [Act.put, List.getElem_toArray, List.getElem_cons_succ, List.getElem_cons_zero, List.setIfInBounds_toArray, List.set_cons_zero, List.set_cons_succ]
    refine wpAnyH_take (i := 4) (oi := ⟨some 20, _, _, _, _, _⟩) (v := ?_) rfl (by kernel_rfl) (by kernel_rfl) (by kernel_rfl) (fun _ _ _ h => h) (Or.inl ⟨by kernel_rfl, ?_⟩) hHeld ?_
    rotate_left
    · (intro w hSw; (try dsimp only at hSw); go_simp; try with_reducible rfl)
    try simp only [Act.put, List.getElem_toArray, List.getElem_cons_succ, List.getElem_cons_zero, List.setIfInBounds_toArray, List.set_cons_zero, List.set_cons_succ]
    refine wpAnyH_take (i := 5) (oi := ⟨some 21, _, _, _, _, _⟩) (v := ?_) rfl (by kernel_rfl) (by kernel_rfl) (by kernel_rfl) (fun _ _ _ h => h) (Or.inl ⟨by kernel_rfl, ?_⟩) hHeld ?_
    rotate_left
    · (intro w hSw; (try dsimp only at hSw); go_simp; try with_reducible rfl)
    try simp only [Act.put, List.getElem_toArray, List.getElem_cons_succ, List.getElem_cons_zero, List.setIfInBounds_toArray, List.set_cons_zero, List.set_cons_succ]
    refine wpAnyH_take (i := 6) (oi := ⟨some 22, _, _, _, _, _⟩) (v := ?_) rfl (by kernel_rfl) (by kernel_rfl) (by kernel_rfl) (fun _ _ _ h => h) (Or.inl ⟨by kernel_rfl, ?_⟩) hHeld ?_
    rotate_left
    · (intro w hSw; (try dsimp only at hSw); go_simp; try with_reducible rfl)
    try simp only [Act.put, List.getElem_toArray, List.getElem_cons_succ, List.getElem_cons_zero, List.setIfInBounds_toArray, List.set_cons_zero, List.set_cons_succ]
    refine wpAnyH_ready (rs := [3]) (by kernel_rfl) (by simp) ?_
    refine (AllReadyH.cons rfl (fun K hK => ?_) AllReadyH.nil)
    try rw [if_pos (by kernel_rfl)]
    go_simp
    go_at_call 12
    refine (rof_to HSH.out hTn.out _).mono ?_
    rintro e w3 ⟨rfl, k3⟩
    have r0 := r0.below k3 r0.lt
    have bel := hthen bel k3
    clear k3
    try dsimp only
    refine hK.out _ _ (by exact trivial) (fun hHeld => ?_)
    clear hK K
    try simp only [Act.put, List.getElem_toArray, List.getElem_cons_succ, List.getElem_cons_zero, List.setIfInBounds_toArray, List.set_cons_zero, List.set_cons_succ]
    refine wpAnyH_take (i := 7) (oi := ⟨some 23, _, _, _, _, _⟩) (v := ?_) rfl (by kernel_rfl) (by kernel_rfl) (by kernel_rfl) (fun _ _ _ h => h) (Or.inl ⟨by kernel_rfl, ?_⟩) hHeld ?_
    rotate_left
    · (intro w hSw; (try dsimp only at hSw); go_simp; try with_reducible rfl)
    try simp only [Act.put, List.getElem_toArray, List.getElem_cons_succ, List.getElem_cons_zero, List.setIfInBounds_toArray, List.set_cons_zero, List.set_cons_succ]
    refine wpAnyH_done (by kernel_rfl) ?_ _
    refine NoPanic.normal ?_
    rw [HE9.out, HDD.out]
    by_cases hq : SH = dd
    · have qq : (SH == dd) = true := by simp [hq]
      have hD3 := HD.out
      rw [if_neg (by simp [hq])] at hD3
      obtain ⟨⟨tn, r2⟩, h2⟩ : ∃ t, Rd.number ⟨uu, 0⟩ 6 = t := ⟨_, rfl⟩
      obtain ⟨⟨tl, r3⟩, h3⟩ : ∃ t, r2.text 2 = t := ⟨_, rfl⟩
      obtain ⟨F, h4⟩ : ∃ t, r3.fin = t := ⟨_, rfl⟩
      have hRR : rbR uu = ⟨[], ⟨tn, tl⟩, F⟩ := by simp only [rbR, h2, h3, h4]
      rw [hRR] at hD3
      simp only at hD3
      have l2 : r2.s.length ≤ n := by have := (Rd.take_len ⟨uu, 0⟩ 6 (if mostI 6 < 0 then 1 else 0)).2; rw [show (Rd.take ⟨uu, 0⟩ 6 (if mostI 6 < 0 then 1 else 0)).2 = r2 from congrArg Prod.snd h2] at this; have e : (⟨uu, 0⟩ : Rd).s.length = uu.length := rfl; omega
      have l3 : tl.length ≤ n := by
        have e1 : (r2.text 2).1 = tl := congrArg Prod.fst h3
        unfold Rd.text Rd.bytes at e1
        have h6 := rd_take_le (r2.number 2).2 (r2.number 2).1 (if (r2.number 2).1 < 0 then 1 else 0)
        rw [e1] at h6
        have h7 : (r2.number 2).2.s.length ≤ r2.s.length := (Rd.take_len r2 2 _).2
        omega
      obtain ⟨X, hX⟩ : ∃ X, ubL ⟨tn, tl⟩ = X := ⟨_, rfl⟩
      obtain ⟨Y, hY⟩ : ∃ Y, ubE ⟨tn, tl⟩ = Y := ⟨_, rfl⟩
      rw [hX, hY] at hD3
      have H2 := Lib.hid h2
      have H3 := Lib.hid h3
      have H4 := Lib.hid h4
      have HX := Lib.hid hX
      have HY := Lib.hid hY
      have HL3 : Hid ((⟨tn, tl⟩ : Ub).load.length ≤ 140737488351232) := Lib.hid (by show tl.length ≤ _; omega)
      have HD3 := Lib.hid hD3
      clear hq HD hD3 h2 h3 h4 hRR hX hY
      simp only [qq, Bool.not_true, Bool.not_false]
      have r0c0 := r0.cell 0
      have r0c1 := r0.cell 1
      simp at r0c0 r0c1
      have r0lt := r0.lt
      go_wp2_with fail
      clear r0c0 r0c1 r0lt
      rw [HU2.out]
      obtain ⟨w4, hw4⟩ : ∃ x, w3.alloc (.cells #[.string (bstr uu), .int .i64 0] 70) = x := ⟨_, rfl⟩
      obtain ⟨ird, hird⟩ : ∃ i, w3.heap.size = i := ⟨_, rfl⟩
      have rd : Blk w4 ird 70 #[.string (bstr uu), .int .i64 0] := by rw [← hw4, ← hird]; exact Blk.new _ _ _
      have k4 : Below w3.heap.size w3 w4 := by rw [← hw4]; exact (Below.refl _ _).alloc (Nat.le_refl _) _
      have zrd : w4.heap.size = ird + 1 := by rw [← hw4, ← hird]; simp
      rw [hw4, hird]
      have ord : w.heap.size ≤ ird := by rw [← hird]; exact bel.size
      have nr0rd : ir0 ≠ ird := by have := r0.lt; omega
      have r0 := r0.below k4 r0.lt
      have bel := hthen bel k4
      clear k4
      clear hw4 hird
      have r0c0 := r0.cell 0
      have r0c1 := r0.cell 1
      simp at r0c0 r0c1
      have r0lt := r0.lt
      have rdc0 := rd.cell 0
      have rdc1 := rd.cell 1
      simp at rdc0 rdc1
      have rdlt := rd.lt
      clear r0c0 r0c1 r0lt rdc0 rdc1 rdlt
      obtain ⟨w5, hw5⟩ : ∃ x, w4.alloc (.cells #[.int .i64 0, .string ⟨#[]⟩] 23) = x := ⟨_, rfl⟩
      obtain ⟨ibu, hibu⟩ : ∃ i, w4.heap.size = i := ⟨_, rfl⟩
      have bu : Blk w5 ibu 23 #[.int .i64 0, .string ⟨#[]⟩] := by rw [← hw5, ← hibu]; exact Blk.new _ _ _
      have k5 : Below w4.heap.size w4 w5 := by rw [← hw5]; exact (Below.refl _ _).alloc (Nat.le_refl _) _
      have zbu : w5.heap.size = ibu + 1 := by rw [← hw5, ← hibu]; simp
      rw [hw5, ← zrd, hibu]
      have obu : w.heap.size ≤ ibu := by rw [← hibu]; exact bel.size
      have nr0bu : ir0 ≠ ibu := by have := r0.lt; omega
      have nrdbu : ird ≠ ibu := by have := rd.lt; omega
      have r0 := r0.below k5 r0.lt
      have rd := rd.below k5 rd.lt
      have bel := hthen bel k5
      clear k5
      clear hw5 hibu
      have r0c0 := r0.cell 0
      have r0c1 := r0.cell 1
      simp at r0c0 r0c1
      have r0lt := r0.lt
      have rdc0 := rd.cell 0
      have rdc1 := rd.cell 1
      simp at rdc0 rdc1
      have rdlt := rd.lt
      have buc0 := bu.cell 0
      have buc1 := bu.cell 1
      simp at buc0 buc1
      have bult := bu.lt
      clear r0c0 r0c1 r0lt rdc0 rdc1 rdlt buc0 buc1 bult
      have rd : RrAt w5 ird ⟨uu, 0⟩ := rd
      have r0c0 := r0.cell 0
      have r0c1 := r0.cell 1
      simp at r0c0 r0c1
      have r0lt := r0.lt
      have buc0 := bu.cell 0
      have buc1 := bu.cell 1
      simp at buc0 buc1
      have bult := bu.lt
      refine (rnumber_to H2.out ird _ rd (by show uu.length ≤ _; omega)).mono ?_
      rintro e y1 ⟨rfl, rdn, kk2⟩
      clear r0c0 r0c1 r0lt buc0 buc1 bult
      have r0 := r0.keep kk2 r0.lt nr0rd
      have bu := bu.keep kk2 bu.lt (Ne.symm nrdbu)
      have bel := below_keep bel kk2 bel.size (fun j e => by rw [e]; exact ord)
      have rd : RrAt y1 ird r2 := rdn
      clear rdn kk2
      have r0c0 := r0.cell 0
      have r0c1 := r0.cell 1
      simp at r0c0 r0c1
      have r0lt := r0.lt
      have buc0 := bu.cell 0
      have buc1 := bu.cell 1
      simp at buc0 buc1
      have bult := bu.lt
      have bf0 := bu.frozen 0
      go_wp2_with fail
      clear r0c0 r0c1 r0lt buc0 buc1 bult
      clear bf0
      have r0 := r0.far (p := ⟨ibu, 0, none⟩) nr0bu (.int .i64 tn)
      have rdn := Blk.far rd (p := ⟨ibu, 0, none⟩) nrdbu (.int .i64 tn)
      have bun := bu.set_ 0 (.int .i64 tn)
      have bel := below_at bel obu 0 (.int .i64 tn)
      obtain ⟨y2, hX⟩ : ∃ x, y1.setCell ⟨ibu, 0, none⟩ (.int .i64 tn) = x := ⟨_, rfl⟩
      rw [hX] at r0 rdn bun bel ⊢
      have rd : RrAt y2 ird r2 := rdn
      have bu : Blk y2 ibu 23 #[.int .i64 tn, .string ⟨#[]⟩] := by simpa using bun
      clear hX rdn bun
      refine (rrtext_to H3.out ird _ rd (by omega)).mono ?_
      rintro e y3 ⟨rfl, rdn, kk2⟩
      have r0 := r0.keep kk2 r0.lt nr0rd
      have bu := bu.keep kk2 bu.lt (Ne.symm nrdbu)
      have bel := below_keep bel kk2 bel.size (fun j e => by rw [e]; exact ord)
      have rd : RrAt y3 ird r3 := rdn
      clear rdn kk2
      have r0c0 := r0.cell 0
      have r0c1 := r0.cell 1
      simp at r0c0 r0c1
      have r0lt := r0.lt
      have buc0 := bu.cell 0
      have buc1 := bu.cell 1
      simp at buc0 buc1
      have bult := bu.lt
      have bf1 := bu.frozen 1
      go_wp2_with fail
      clear r0c0 r0c1 r0lt buc0 buc1 bult
      clear bf1
      have r0 := r0.far (p := ⟨ibu, 1, none⟩) nr0bu (.string (bstr tl))
      have rdn := Blk.far rd (p := ⟨ibu, 1, none⟩) nrdbu (.string (bstr tl))
      have bun := bu.set_ 1 (.string (bstr tl))
      have bel := below_at bel obu 1 (.string (bstr tl))
      obtain ⟨y4, hX⟩ : ∃ x, y3.setCell ⟨ibu, 1, none⟩ (.string (bstr tl)) = x := ⟨_, rfl⟩
      rw [hX] at r0 rdn bun bel ⊢
      have rd : RrAt y4 ird r3 := rdn
      have bu : Blk y4 ibu 23 #[.int .i64 tn, .string (bstr tl)] := by simpa using bun
      clear hX rdn bun
      have r0c0 := r0.cell 0
      have r0c1 := r0.cell 1
      simp at r0c0 r0c1
      have r0lt := r0.lt
      have buc0 := bu.cell 0
      have buc1 := bu.cell 1
      simp at buc0 buc1
      have bult := bu.lt
      refine (renc_to (u := ⟨tn, tl⟩) HX.out HY.out HL3.out _).mono ?_
      rintro e y5 ⟨rfl, k5⟩
      clear r0c0 r0c1 r0lt buc0 buc1 bult
      have r0 := r0.below k5 r0.lt
      have bu := bu.below k5 bu.lt
      have rd : RrAt y5 ird r3 := Blk.below rd k5 (Blk.lt rd)
      have bel := hthen bel k5
      clear k5
      have r0c0 := r0.cell 0
      have r0c1 := r0.cell 1
      simp at r0c0 r0c1
      have r0lt := r0.lt
      have buc0 := bu.cell 0
      have buc1 := bu.cell 1
      simp at buc0 buc1
      have bult := bu.lt
      go_wp2_with fail
      refine (rend_to H4.out ird _ rd).mono ?_
      rintro e y6 ⟨rfl, rfl⟩
      by_cases hF : F = 0
      · by_cases hY : Y = 0
        · by_cases hX : X = s
          · have qF : (F == 0) = true := by simp [hF]
            have qY : (Y == 0) = true := by simp [hY]
            have qX : (X == s) = true := by simp [hX]
            have hE := HD3.out
            rw [if_neg (by simp [hF, hY, hX])] at hE
            cases hE
            clear HD3
            clear r0c0 r0c1 r0lt buc0 buc1 bult
            have r0c0 := r0.cell 0
            have r0c1 := r0.cell 1
            simp at r0c0 r0c1
            have r0lt := r0.lt
            have buc0 := bu.cell 0
            have buc1 := bu.cell 1
            simp at buc0 buc1
            have bult := bu.lt
            have rf0 := r0.frozen 0
            have rf1 := r0.frozen 1
            go_wp2
            have xx := r0.put2 (.int .i64 T) (.string (bstr L))
            have xx0 := xx.cell 0
            have xx1 := xx.cell 1
            simp at xx0 xx1
            refine bodyPost_ret (v := .tuple #[.agg #[.int .i64 T, .string (bstr L)], .int .i64 0]) ?h1 rfl ?h2
            case h1 => simp [results, Tryd.results14, go_sem, xx0, xx1]
            case h2 => exact ⟨rfl, HW.out ▸ (below_at (below_at bel or0 _ _) or0 _ _)⟩
          · have qX : (X == s) = false := beq_eq_false_iff_ne.2 hX
            have hE := HD3.out
            rw [if_pos (.inr (.inr hX))] at hE
            cases hE
            clear HD3
            clear r0c0 r0c1 r0lt buc0 buc1 bult
            have r0c0 := r0.cell 0
            have r0c1 := r0.cell 1
            simp at r0c0 r0c1
            have r0lt := r0.lt
            have buc0 := bu.cell 0
            have buc1 := bu.cell 1
            simp at buc0 buc1
            have bult := bu.lt
            have rf0 := r0.frozen 0
            have rf1 := r0.frozen 1
            go_wp2
            have xx := r0.put2 (.int .i64 0) (.string ⟨#[]⟩)
            have xx0 := xx.cell 0
            have xx1 := xx.cell 1
            simp at xx0 xx1
            refine bodyPost_ret (v := .tuple #[.agg #[.int .i64 0, .string ⟨#[]⟩], .int .i64 3]) ?h1 rfl ?h2
            case h1 => simp [results, Tryd.results14, go_sem, xx0, xx1]
            case h2 => exact ⟨rfl, HW.out ▸ (below_at (below_at bel or0 _ _) or0 _ _)⟩
        · have qY : (Y == 0) = false := beq_eq_false_iff_ne.2 hY
          have hE := HD3.out
          rw [if_pos (.inr (.inl hY))] at hE
          cases hE
          clear HD3
          clear r0c0 r0c1 r0lt buc0 buc1 bult
          have r0c0 := r0.cell 0
          have r0c1 := r0.cell 1
          simp at r0c0 r0c1
          have r0lt := r0.lt
          have buc0 := bu.cell 0
          have buc1 := bu.cell 1
          simp at buc0 buc1
          have bult := bu.lt
          have rf0 := r0.frozen 0
          have rf1 := r0.frozen 1
          go_wp2
          have xx := r0.put2 (.int .i64 0) (.string ⟨#[]⟩)
          have xx0 := xx.cell 0
          have xx1 := xx.cell 1
          simp at xx0 xx1
          refine bodyPost_ret (v := .tuple #[.agg #[.int .i64 0, .string ⟨#[]⟩], .int .i64 3]) ?h1 rfl ?h2
          case h1 => simp [results, Tryd.results14, go_sem, xx0, xx1]
          case h2 => exact ⟨rfl, HW.out ▸ (below_at (below_at bel or0 _ _) or0 _ _)⟩
      · have qF : (F == 0) = false := beq_eq_false_iff_ne.2 hF
        have hE := HD3.out
        rw [if_pos (.inl hF)] at hE
        cases hE
        clear HD3
        clear r0c0 r0c1 r0lt buc0 buc1 bult
        have r0c0 := r0.cell 0
        have r0c1 := r0.cell 1
        simp at r0c0 r0c1
        have r0lt := r0.lt
        have buc0 := bu.cell 0
        have buc1 := bu.cell 1
        simp at buc0 buc1
        have bult := bu.lt
        have rf0 := r0.frozen 0
        have rf1 := r0.frozen 1
        go_wp2
        have xx := r0.put2 (.int .i64 0) (.string ⟨#[]⟩)
        have xx0 := xx.cell 0
        have xx1 := xx.cell 1
        simp at xx0 xx1
        refine bodyPost_ret (v := .tuple #[.agg #[.int .i64 0, .string ⟨#[]⟩], .int .i64 3]) ?h1 rfl ?h2
        case h1 => simp [results, Tryd.results14, go_sem, xx0, xx1]
        case h2 => exact ⟨rfl, HW.out ▸ (below_at (below_at bel or0 _ _) or0 _ _)⟩
    · have qq : (SH == dd) = false := beq_eq_false_iff_ne.2 hq
      have hE := HD.out
      rw [if_pos hq] at hE
      cases hE
      clear hq HD
      simp only [qq, Bool.not_true, Bool.not_false]
      have r0c0 := r0.cell 0
      have r0c1 := r0.cell 1
      simp at r0c0 r0c1
      have r0lt := r0.lt
      have rf0 := r0.frozen 0
      have rf1 := r0.frozen 1
      go_wp2
      have xx := r0.put2 (.int .i64 0) (.string ⟨#[]⟩)
      have xx0 := xx.cell 0
      have xx1 := xx.cell 1
      simp at xx0 xx1
      refine bodyPost_ret (v := .tuple #[.agg #[.int .i64 0, .string ⟨#[]⟩], .int .i64 4]) ?h1 rfl ?h2
      case h1 => simp [results, Tryd.results14, go_sem, xx0, xx1]
      case h2 => exact ⟨rfl, HW.out ▸ (below_at (below_at bel or0 _ _) or0 _ _)⟩
end
end Go.Proofs.YtcamcjcmhjldpaaDoor
