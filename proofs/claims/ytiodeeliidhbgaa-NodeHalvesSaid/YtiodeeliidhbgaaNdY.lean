/- Decode of the reference 09: contract. -/
import Derived.Test.YtiodeeliidhbgaaNdX
import Derived.Test.YtiodeeliidhbgaaRr
namespace Go.Proofs.Ytiodeeliidhbgaa
open Go Go.RowKit
set_option linter.unusedSimpArgs false
set_option linter.unnecessarySimpa false
set_option linter.unusedVariables false

set_option maxHeartbeats 400000 in
theorem rrtext_any (r : Rd) (wd : Int) (g : Nat) (w : World) (hr : RrAt w g r) (hl : r.s.length ≤ 9223372036854775807) :
    Calls Try.prog 50 #[.pointer (some ⟨g, 0, none⟩), .int .i64 wd] w fun en w' => en = .returned (.string (bstr (r.text wd).1)) ∧ RrAt w' g (r.text wd).2 ∧ Keep w.heap.size (· = g) w w' := by
  unfold Rd.text
  have hle : (r.number wd).2.s.length ≤ r.s.length := (Rd.take_len r wd _).2
  obtain ⟨⟨n, r1⟩, h1⟩ : ∃ t, r.number wd = t := ⟨_, rfl⟩
  rw [h1] at hle ⊢
  obtain ⟨⟨q, r2⟩, h2⟩ : ∃ t, r1.bytes n = t := ⟨_, rfl⟩
  rw [h2]
  have hl1 : r1.s.length ≤ 9223372036854775807 := by simp only at hle; omega
  have H1 := Lib.hid h1
  have H2 := Lib.hid h2
  clear h1 h2 hle
  go_enter Try.func50, Try.ntmps50
  go_wp2_with (first | (go_at_call 49; refine (rnumber_to H1.out _ _ hr hl).mono ?_; rintro e w1 ⟨rfl, h1, k1⟩) | (go_at_call 48; refine (rbytes_to H2.out _ _ h1 hl1).mono ?_; rintro e w2 ⟨rfl, h2, k2⟩))
  go_ret
  exact ⟨rfl, h2, k1.trans (k2.mono k1.size (fun _ _ h => h))⟩
theorem rrtext_to {r r' : Rd} {n : Int} {q : List UInt8} (ht : r.text n = (q, r')) (g : Nat) (w : World) (hr : RrAt w g r) (hl : r.s.length ≤ 9223372036854775807) :
    Calls Try.prog 50 #[.pointer (some ⟨g, 0, none⟩), .int .i64 n] w fun en w' => en = .returned (.string (bstr q)) ∧ RrAt w' g r' ∧ Keep w.heap.size (· = g) w w' := by
  have h := rrtext_any r n g w hr hl
  rw [ht] at h
  exact h
theorem renc_to {n : Nd} {q : List UInt8} {e0 : Int} (hq : nencL n = q) (he : checkN n = e0) (v : Value) (w : World) (h : NdV w v n) (hk : n.keys.length ≤ 1000000) (hv : n.vals.length ≤ 1000000) :
    Calls Try.prog 14 #[v] w fun e w' => e = .returned (.tuple #[.string (bstr q), .int .i64 e0]) ∧ Below w.heap.size w w' := by
  subst hq; subst he; exact renc_any v n w h hk hv

set_option maxRecDepth 100000 in
set_option maxHeartbeats 8000000 in
theorem rdec_any (s : List UInt8) (hs : s.length ≤ 140737488351232) (w : World) :
    Calls Try.prog 22 #[.string (bstr s)] w fun e w' => ∃ u, e = .returned (.tuple #[u, .int .i64 (decD s).2]) ∧ NdV w' u (decD s).1 ∧ Below w.heap.size w w' := by
  rw [← rdec_eq]
  obtain ⟨i0, hi0, hz0, hz1, hz2⟩ := info_parts str_info
  have hm := many_le s
  obtain ⟨r1, hr1⟩ : ∃ r1, (Rd.bytes ⟨s, 0⟩ 1).2 = r1 := ⟨_, rfl⟩
  obtain ⟨q, hq⟩ : ∃ q, kindD s = q := ⟨_, rfl⟩
  have hb : Rd.bytes ⟨s, 0⟩ 1 = (q, r1) := by rw [← hq, ← hr1]; rfl
  obtain ⟨m, hmm⟩ : ∃ m : Nat, manyD s = m := ⟨(manyD s).toNat, by omega⟩
  obtain ⟨r2, hr2⟩ : ∃ r2, ((Rd.bytes ⟨s, 0⟩ 1).2.number 1).2 = r2 := ⟨_, rfl⟩
  have hn : r1.number 1 = ((m : Int), r2) := by rw [← hr2, ← hmm, ← hr1]; rfl
  have hbd : bodyD s = decS r2 m := by unfold bodyD; rw [hr2, hmm]; rfl
  have hl1 : r1.s.length ≤ s.length := by rw [← hr1]; exact (Rd.take_len _ _ _).2
  have hl2 : r2.s.length ≤ s.length := by rw [← hr2, hr1]; exact Nat.le_trans (Rd.take_len _ _ _).2 hl1
  have hm255 : m ≤ 255 := by omega
  obtain ⟨leaf, hleaf⟩ : ∃ b, (q == [76]) = b := ⟨_, rfl⟩
  have hnd : nodeD s = ⟨leaf, (decS r2 m).ks, (decS r2 m).vs⟩ := by unfold nodeD; rw [hq, hbd, hleaf]
  obtain ⟨RD, hRD⟩ : ∃ R, rdecD s = R := ⟨_, rfl⟩
  have hdd : RD = if (decS r2 m).r.e ≠ 0 then (emptyN, 2) else if checkN ⟨leaf, (decS r2 m).ks, (decS r2 m).vs⟩ ≠ 0 ∨ nodeL ⟨leaf, (decS r2 m).ks, (decS r2 m).vs⟩ ≠ s then (emptyN, 3) else (⟨leaf, (decS r2 m).ks, (decS r2 m).vs⟩, 0) := by
    rw [← hRD]
    unfold rdecD
    rw [hnd, hbd]
  rw [hRD]
  have HB := Lib.hid hb
  have HN := Lib.hid hn
  have HDD := Lib.hid hdd
  have bel : Below w.heap.size w w := Below.refl _ _
  clear hr1 hr2 hb hn hbd hnd hdd hm hmm hq hRD
  go_enter Try.func22, Try.ntmps22
  go_wp2_with fail
  obtain ⟨w1, hw1⟩ : ∃ x, w.alloc (.cells #[.bool false, .slice none 0 0, .slice none 0 0] 24) = x := ⟨_, rfl⟩
  obtain ⟨ir0, hir0⟩ : ∃ i, w.heap.size = i := ⟨_, rfl⟩
  have r0 : Blk w1 ir0 24 #[.bool false, .slice none 0 0, .slice none 0 0] := by rw [← hw1, ← hir0]; exact Blk.new _ _ _
  have k1 : Below w.heap.size w w1 := by rw [← hw1]; exact (Below.refl _ _).alloc (Nat.le_refl _) _
  have zr0 : w1.heap.size = ir0 + 1 := by rw [← hw1, ← hir0]; simp
  rw [hw1, hir0]
  have or0 : w.heap.size ≤ ir0 := by rw [← hir0]; exact bel.size
  have bel := hthen bel k1
  clear k1
  clear hw1 hir0
  have r0c0 := r0.cell 0
  have r0c1 := r0.cell 1
  have r0c2 := r0.cell 2
  simp at r0c0 r0c1 r0c2
  have r0lt := r0.lt
  try (go_wp2_with fail)
  clear r0c0 r0c1 r0c2 r0lt
  obtain ⟨w2, hw2⟩ : ∃ x, w1.alloc (.cells #[.string (bstr s), .int .i64 0] 81) = x := ⟨_, rfl⟩
  obtain ⟨ird, hird⟩ : ∃ i, w1.heap.size = i := ⟨_, rfl⟩
  have rd : Blk w2 ird 81 #[.string (bstr s), .int .i64 0] := by rw [← hw2, ← hird]; exact Blk.new _ _ _
  have k2 : Below w1.heap.size w1 w2 := by rw [← hw2]; exact (Below.refl _ _).alloc (Nat.le_refl _) _
  have zrd : w2.heap.size = ird + 1 := by rw [← hw2, ← hird]; simp
  rw [hw2, ← zr0, hird]
  have ord : w.heap.size ≤ ird := by rw [← hird]; exact bel.size
  have nr0rd : ir0 ≠ ird := by have := r0.lt; omega
  have r0 := r0.below k2 r0.lt
  have bel := hthen bel k2
  clear k2
  clear hw2 hird
  have r0c0 := r0.cell 0
  have r0c1 := r0.cell 1
  have r0c2 := r0.cell 2
  simp at r0c0 r0c1 r0c2
  have r0lt := r0.lt
  have rdc0 := rd.cell 0
  have rdc1 := rd.cell 1
  simp at rdc0 rdc1
  have rdlt := rd.lt
  try (go_wp2_with fail)
  refine (rbytes_to HB.out ird _ rd (by show s.length ≤ _; omega)).mono ?_
  rintro e w5 ⟨rfl, rdn, kk⟩
  clear r0c0 r0c1 r0c2 r0lt rdc0 rdc1 rdlt
  have r0 := r0.keep kk r0.lt nr0rd
  have bel := below_keep bel kk bel.size (fun j e => by rw [e]; exact ord)
  have rd : RrAt w5 ird r1 := rdn
  clear rdn kk
  have r0c0 := r0.cell 0
  have r0c1 := r0.cell 1
  have r0c2 := r0.cell 2
  simp at r0c0 r0c1 r0c2
  have r0lt := r0.lt
  go_wp2_with fail
  clear r0c0 r0c1 r0c2 r0lt
  obtain ⟨w3, hw3⟩ : ∃ x, w5.alloc (.cells #[.bool leaf, .slice none 0 0, .slice none 0 0] 24) = x := ⟨_, rfl⟩
  obtain ⟨ib1, hib1⟩ : ∃ i, w5.heap.size = i := ⟨_, rfl⟩
  have b1 : Blk w3 ib1 24 #[.bool leaf, .slice none 0 0, .slice none 0 0] := by rw [← hw3, ← hib1]; exact Blk.new _ _ _
  have k3 : Below w5.heap.size w5 w3 := by rw [← hw3]; exact (Below.refl _ _).alloc (Nat.le_refl _) _
  have zb1 : w3.heap.size = ib1 + 1 := by rw [← hw3, ← hib1]; simp
  rw [hw3, hib1]
  have ob1 : w.heap.size ≤ ib1 := by rw [← hib1]; exact bel.size
  have nr0b1 : ir0 ≠ ib1 := by have := r0.lt; omega
  have nrdb1 : ird ≠ ib1 := by have := rd.lt; omega
  have r0 := r0.below k3 r0.lt
  have rd := rd.below k3 rd.lt
  have bel := hthen bel k3
  clear k3
  clear hw3 hib1
  have r0c0 := r0.cell 0
  have r0c1 := r0.cell 1
  have r0c2 := r0.cell 2
  simp at r0c0 r0c1 r0c2
  have r0lt := r0.lt
  have rdlt := rd.lt
  have b1c0 := b1.cell 0
  have b1c1 := b1.cell 1
  have b1c2 := b1.cell 2
  simp at b1c0 b1c1 b1c2
  have b1lt := b1.lt
  try (go_wp2_with fail)
  refine (rnumber_to HN.out ird _ rd (by omega)).mono ?_
  rintro e w7 ⟨rfl, rdn, kk⟩
  clear r0c0 r0c1 r0c2 r0lt rdlt b1c0 b1c1 b1c2 b1lt
  have r0 := r0.keep kk r0.lt nr0rd
  have bel := below_keep bel kk bel.size (fun j e => by rw [e]; exact ord)
  have b1 := b1.keep kk b1.lt (Ne.symm nrdb1)
  have rd : RrAt w7 ird r2 := rdn
  clear rdn kk
  have st : GrSt 24 w ib1 leaf [] [] 0 0 (.slice none 0 0) (.slice none 0 0) w7 := GrSt.new bel b1 ob1
  clear bel b1
  go_wp2_with fail
  go_loopw [7] (fun i wr => ∃ (k : Nat) (uk uv : Value), k ≤ m ∧ i = .int .i64 k ∧ GrSt 24 w ib1 leaf (decS r2 k).ks (decS r2 k).vs k k uk uv wr ∧ RrAt wr ird (decS r2 k).r ∧ Blk wr ir0 24 #[.bool false, .slice none 0 0, .slice none 0 0]) (fun i _ => m - (intOf i).toNat)
  case atStart => exact ⟨0, _, _, Nat.zero_le _, rfl, st, rd, r0⟩
  case round =>
    clear st rd r0
    obtain ⟨k, uk, uv, hkm, rfl, st, rd, r0⟩ := hrel
    obtain ⟨A1, cA, C1, d1, rfl, rfl⟩ := st.form
    by_cases hlt : k < m
    · have q1 : decide ((k : Int) < m) = true := decide_eq_true (by omega)
      have hlk := (decS_len r2 k).2.2
      have hsuc : decS r2 (k + 1) = ⟨(decS r2 k).ks ++ [((decS r2 k).r.text 2).1], (decS r2 k).vs ++ [(((decS r2 k).r.text 2).2.text 1).1], (((decS r2 k).r.text 2).2.text 1).2⟩ := rfl
      obtain ⟨⟨dk, dv, dr⟩, hD⟩ : ∃ D, decS r2 k = D := ⟨_, rfl⟩
      rw [hD] at st rd hsuc hlk
      simp only at hsuc hlk st rd
      obtain ⟨⟨X, ra⟩, hX⟩ : ∃ t, dr.text 2 = t := ⟨_, rfl⟩
      have hla := rd_text_len dr 2
      rw [hX] at hsuc hla
      simp only at hsuc hla
      obtain ⟨⟨Y, rb⟩, hY⟩ : ∃ t, ra.text 1 = t := ⟨_, rfl⟩
      rw [hY] at hsuc
      simp only at hsuc
      have HX := Lib.hid hX
      have HY := Lib.hid hY
      have HSUC := Lib.hid hsuc
      have F1 := Lib.hid (show k + 1 ≤ maxLen by unfold maxLen; omega)
      have F2 := Lib.hid (show (k + 1) * 16 ≤ 140737488355328 by omega)
      clear hX hY hD hsuc
      have o0 := st.b.cell 0
      have o1 := st.b.cell 1
      have o2 := st.b.cell 2
      simp at o0 o1 o2
      have r0c0 := r0.cell 0
      have r0c1 := r0.cell 1
      have r0c2 := r0.cell 2
      simp at r0c0 r0c1 r0c2
      have r0lt := r0.lt
      go_wp2_with fail
      clear r0c0 r0c1 r0c2 r0lt
      clear o0 o1 o2
      have st := st.drew
      have rd := rd.drew
      have r0 := r0.drew
      refine wp_region_noPanic ?_
      refine wp_region_x (S := (fun w' => w'.cell? ⟨ib1, 1, none⟩ = some (.slice A1 k cA))) 7 (by kernel_rfl) ?hS0 (fun hHeld => ?_)
      case hS0 => (have q0 := st.b.cell 1; simp at q0; exact q0)
      generalize hZ : wr.drew = Z0 at *
      clear hZ
      refine wpAnyX_free (i := 0) (v := ?_) rfl (by kernel_rfl) (by kernel_rfl) (by kernel_rfl) (by kernel_rfl) (fun _ _ _ h => h) (Or.inl ⟨by kernel_rfl, ?_⟩) (.inr hHeld) ?_
      rotate_left
      · (intro w _; go_simp; try with_reducible rfl)
      try simp only [Act.put, List.getElem_toArray, List.getElem_cons_succ, List.getElem_cons_zero, List.setIfInBounds_toArray, List.set_cons_zero, List.set_cons_succ]
      refine wpAnyX_take (i := 1) (v := ?_) rfl (by kernel_rfl) (by kernel_rfl) (by kernel_rfl) (by kernel_rfl) (by kernel_rfl) (fun _ _ _ h => h) (Or.inl ⟨by kernel_rfl, ?_⟩) hHeld ?_
      rotate_left
      · (intro w hSw; (try dsimp only at hSw); go_simp; try with_reducible rfl)
      try simp only [Act.put, List.getElem_toArray, List.getElem_cons_succ, List.getElem_cons_zero, List.setIfInBounds_toArray, List.set_cons_zero, List.set_cons_succ]
      refine wpAnyX_free (i := 2) (v := ?_) rfl (by kernel_rfl) (by kernel_rfl) (by kernel_rfl) (by kernel_rfl) (fun _ _ _ h => h) (Or.inl ⟨by kernel_rfl, ?_⟩) (.inr hHeld) ?_
      rotate_left
      · (intro w _; go_simp; try with_reducible rfl)
      try simp only [Act.put, List.getElem_toArray, List.getElem_cons_succ, List.getElem_cons_zero, List.setIfInBounds_toArray, List.set_cons_zero, List.set_cons_succ]
      refine wpAnyX_ready (rs := [3]) (by kernel_rfl) (by simp) ?_
      refine (AllReadyX.cons rfl (fun K hK => ?_) AllReadyX.nil)
      try rw [if_pos (by kernel_rfl)]
      go_simp
      go_at_call 50
      refine (rrtext_to HX.out ird _ rd (by omega)).mono ?_
      rintro e uc ⟨rfl, rdn, kk⟩
      have st := st.keep rd (by decide) nrdb1 ord kk
      have r0 := r0.keep kk r0.lt nr0rd
      have rd : RrAt uc ird ra := rdn
      clear rdn kk
      try dsimp only
      refine hK.out _ _ (by have q0 := st.b.cell 1; simp at q0; exact q0) (fun hHeld => ?_)
      clear hK K
      try simp only [Act.put, List.getElem_toArray, List.getElem_cons_succ, List.getElem_cons_zero, List.setIfInBounds_toArray, List.set_cons_zero, List.set_cons_succ]
      refine wpAnyX_ready (rs := [4]) (by kernel_rfl) (by simp) ?_
      refine (AllReadyX.cons rfl (fun K hK => ?_) AllReadyX.nil)
      try rw [if_pos (by kernel_rfl)]
      go_simp
      obtain ⟨u1, hu1⟩ : ∃ x, uc.alloc (.cells #[.string (bstr X)] 9) = x := ⟨_, rfl⟩
      obtain ⟨gB, hgB⟩ : ∃ b, uc.heap.size = b := ⟨_, rfl⟩
      have nb : Blk u1 gB 9 #[.string (bstr X)] := by rw [← hu1, ← hgB]; exact Blk.new _ _ _
      have kB : Below uc.heap.size uc u1 := by rw [← hu1]; exact (Below.refl _ _).alloc (Nat.le_refl _) _
      have st := st.below kB
      have rd := rd.below kB rd.lt
      have r0 := r0.below kB r0.lt
      rw [hu1, hgB]
      clear hu1 hgB kB
      try dsimp only
      refine hK.out _ _ (by have q0 := st.b.cell 1; simp at q0; exact q0) (fun hHeld => ?_)
      clear hK K
      try simp only [Act.put, List.getElem_toArray, List.getElem_cons_succ, List.getElem_cons_zero, List.setIfInBounds_toArray, List.set_cons_zero, List.set_cons_succ]
      refine wpAnyX_ready (rs := [5]) (by kernel_rfl) (by simp) ?_
      refine (AllReadyX.cons rfl (fun K hK => ?_) AllReadyX.nil)
      refine step_append_lies _ (by rfl) _ _ 22 (by rfl) w.heap.size 9 i0 (.string ⟨#[]⟩) 1 16 Try.underlying22 hi0 hz0 hz1 hz2 rfl (by decide) (.slice A1 k cA) k _ rfl st.o1 ⟨gB, 0, none⟩ 1 1 [.string (bstr X)] rfl rfl (World.news_of_block nb) (fun u hu => by simp at hu; subst hu; rfl) (by decide) F1.out F2.out st.bel.size _ rfl ?_
      intro gn1 cap1 u3 hown hgr hat _
      obtain ⟨bn, oth, belN, stn, othN⟩ := st.app1 (by decide) hown hgr hat
      clear hown hgr hat nb
      have rdN := othN _ _ _ rd (by decide) nrdb1
      have rd := oth _ _ _ rd (by decide) nrdb1
      have r0N := othN _ _ _ r0 (by decide) nr0b1
      have r0 := oth _ _ _ r0 (by decide) nr0b1
      clear oth othN
      try dsimp only
      refine hK.out _ _ (by have q0 := bn.cell 1; simp at q0; exact q0) (fun hHeld => ?_)
      clear hK K
      try simp only [Act.put, List.getElem_toArray, List.getElem_cons_succ, List.getElem_cons_zero, List.setIfInBounds_toArray, List.set_cons_zero, List.set_cons_succ]
      refine wpAnyX_free (i := 6) (v := ?_) rfl (by kernel_rfl) (by kernel_rfl) (by kernel_rfl) (by kernel_rfl) (fun _ _ _ h => h) (Or.inl ⟨by kernel_rfl, ?_⟩) (.inr hHeld) ?_
      rotate_left
      · (intro w _; go_simp; try with_reducible rfl)
      try simp only [Act.put, List.getElem_toArray, List.getElem_cons_succ, List.getElem_cons_zero, List.setIfInBounds_toArray, List.set_cons_zero, List.set_cons_succ]
      have zz := bn.frozen 1
      have zc := bn.cell 1
      simp at zc
      refine wpAnyX_ready (rs := [7]) (by kernel_rfl) (by simp) ?_
      refine (AllReadyX.late rfl (by kernel_rfl) (fun K hK => ?_) AllReadyX.nil)
      try rw [if_pos (by kernel_rfl)]
      go_simp
      try dsimp only
      refine hK.out _ _ ?_
      clear hK K
      try simp only [Act.put, List.getElem_toArray, List.getElem_cons_succ, List.getElem_cons_zero, List.setIfInBounds_toArray, List.set_cons_zero, List.set_cons_succ]
      refine wpAnyX_done (by kernel_rfl) ?_ _
      refine NoPanic.normal ?_
      obtain ⟨u4, hu4⟩ : ∃ x, u3.setCell ⟨ib1, 1, none⟩ (.slice (some ⟨gn1, 0, none⟩) (k + 1) cap1) = x := ⟨_, rfl⟩
      rw [hu4] at stn rdN r0N ⊢
      clear hu4 bn st zz zc belN
      have st := stn
      have rd := rdN
      have r0 := r0N
      clear stn rdN r0N
      have o0 := st.b.cell 0
      have o1 := st.b.cell 1
      have o2 := st.b.cell 2
      simp at o0 o1 o2
      have r0c0 := r0.cell 0
      have r0c1 := r0.cell 1
      have r0c2 := r0.cell 2
      simp at r0c0 r0c1 r0c2
      have r0lt := r0.lt
      go_wp2_with fail
      clear r0c0 r0c1 r0c2 r0lt
      clear o0 o1 o2
      have st := st.drew
      have rd := rd.drew
      have r0 := r0.drew
      refine wp_region_noPanic ?_
      refine wp_region_x (S := (fun w' => w'.cell? ⟨ib1, 2, none⟩ = some (.slice C1 k d1))) 7 (by kernel_rfl) ?hS0 (fun hHeld => ?_)
      case hS0 => (have q0 := st.b.cell 2; simp at q0; exact q0)
      generalize hZ : u4.drew = Z0 at *
      clear hZ
      refine wpAnyX_free (i := 0) (v := ?_) rfl (by kernel_rfl) (by kernel_rfl) (by kernel_rfl) (by kernel_rfl) (fun _ _ _ h => h) (Or.inl ⟨by kernel_rfl, ?_⟩) (.inr hHeld) ?_
      rotate_left
      · (intro w _; go_simp; try with_reducible rfl)
      try simp only [Act.put, List.getElem_toArray, List.getElem_cons_succ, List.getElem_cons_zero, List.setIfInBounds_toArray, List.set_cons_zero, List.set_cons_succ]
      refine wpAnyX_take (i := 1) (v := ?_) rfl (by kernel_rfl) (by kernel_rfl) (by kernel_rfl) (by kernel_rfl) (by kernel_rfl) (fun _ _ _ h => h) (Or.inl ⟨by kernel_rfl, ?_⟩) hHeld ?_
      rotate_left
      · (intro w hSw; (try dsimp only at hSw); go_simp; try with_reducible rfl)
      try simp only [Act.put, List.getElem_toArray, List.getElem_cons_succ, List.getElem_cons_zero, List.setIfInBounds_toArray, List.set_cons_zero, List.set_cons_succ]
      refine wpAnyX_free (i := 2) (v := ?_) rfl (by kernel_rfl) (by kernel_rfl) (by kernel_rfl) (by kernel_rfl) (fun _ _ _ h => h) (Or.inl ⟨by kernel_rfl, ?_⟩) (.inr hHeld) ?_
      rotate_left
      · (intro w _; go_simp; try with_reducible rfl)
      try simp only [Act.put, List.getElem_toArray, List.getElem_cons_succ, List.getElem_cons_zero, List.setIfInBounds_toArray, List.set_cons_zero, List.set_cons_succ]
      refine wpAnyX_ready (rs := [3]) (by kernel_rfl) (by simp) ?_
      refine (AllReadyX.cons rfl (fun K hK => ?_) AllReadyX.nil)
      try rw [if_pos (by kernel_rfl)]
      go_simp
      go_at_call 50
      refine (rrtext_to HY.out ird _ rd (by omega)).mono ?_
      rintro e uc ⟨rfl, rdn, kk⟩
      have st := st.keep rd (by decide) nrdb1 ord kk
      have r0 := r0.keep kk r0.lt nr0rd
      have rd : RrAt uc ird rb := rdn
      clear rdn kk
      try dsimp only
      refine hK.out _ _ (by have q0 := st.b.cell 2; simp at q0; exact q0) (fun hHeld => ?_)
      clear hK K
      try simp only [Act.put, List.getElem_toArray, List.getElem_cons_succ, List.getElem_cons_zero, List.setIfInBounds_toArray, List.set_cons_zero, List.set_cons_succ]
      refine wpAnyX_ready (rs := [4]) (by kernel_rfl) (by simp) ?_
      refine (AllReadyX.cons rfl (fun K hK => ?_) AllReadyX.nil)
      try rw [if_pos (by kernel_rfl)]
      go_simp
      obtain ⟨u1, hu1⟩ : ∃ x, uc.alloc (.cells #[.string (bstr Y)] 9) = x := ⟨_, rfl⟩
      obtain ⟨gB, hgB⟩ : ∃ b, uc.heap.size = b := ⟨_, rfl⟩
      have nb : Blk u1 gB 9 #[.string (bstr Y)] := by rw [← hu1, ← hgB]; exact Blk.new _ _ _
      have kB : Below uc.heap.size uc u1 := by rw [← hu1]; exact (Below.refl _ _).alloc (Nat.le_refl _) _
      have st := st.below kB
      have rd := rd.below kB rd.lt
      have r0 := r0.below kB r0.lt
      rw [hu1, hgB]
      clear hu1 hgB kB
      try dsimp only
      refine hK.out _ _ (by have q0 := st.b.cell 2; simp at q0; exact q0) (fun hHeld => ?_)
      clear hK K
      try simp only [Act.put, List.getElem_toArray, List.getElem_cons_succ, List.getElem_cons_zero, List.setIfInBounds_toArray, List.set_cons_zero, List.set_cons_succ]
      refine wpAnyX_ready (rs := [5]) (by kernel_rfl) (by simp) ?_
      refine (AllReadyX.cons rfl (fun K hK => ?_) AllReadyX.nil)
      refine step_append_lies _ (by rfl) _ _ 22 (by rfl) w.heap.size 9 i0 (.string ⟨#[]⟩) 1 16 Try.underlying22 hi0 hz0 hz1 hz2 rfl (by decide) (.slice C1 k d1) k _ rfl st.o2 ⟨gB, 0, none⟩ 1 1 [.string (bstr Y)] rfl rfl (World.news_of_block nb) (fun u hu => by simp at hu; subst hu; rfl) (by decide) F1.out F2.out st.bel.size _ rfl ?_
      intro gn2 cap2 u3 hown hgr hat _
      obtain ⟨bn, oth, belN, stn, othN⟩ := st.app2 (by decide) hown hgr hat
      clear hown hgr hat nb
      have rdN := othN _ _ _ rd (by decide) nrdb1
      have rd := oth _ _ _ rd (by decide) nrdb1
      have r0N := othN _ _ _ r0 (by decide) nr0b1
      have r0 := oth _ _ _ r0 (by decide) nr0b1
      clear oth othN
      try dsimp only
      refine hK.out _ _ (by have q0 := bn.cell 2; simp at q0; exact q0) (fun hHeld => ?_)
      clear hK K
      try simp only [Act.put, List.getElem_toArray, List.getElem_cons_succ, List.getElem_cons_zero, List.setIfInBounds_toArray, List.set_cons_zero, List.set_cons_succ]
      refine wpAnyX_free (i := 6) (v := ?_) rfl (by kernel_rfl) (by kernel_rfl) (by kernel_rfl) (by kernel_rfl) (fun _ _ _ h => h) (Or.inl ⟨by kernel_rfl, ?_⟩) (.inr hHeld) ?_
      rotate_left
      · (intro w _; go_simp; try with_reducible rfl)
      try simp only [Act.put, List.getElem_toArray, List.getElem_cons_succ, List.getElem_cons_zero, List.setIfInBounds_toArray, List.set_cons_zero, List.set_cons_succ]
      have zz := bn.frozen 2
      have zc := bn.cell 2
      simp at zc
      refine wpAnyX_ready (rs := [7]) (by kernel_rfl) (by simp) ?_
      refine (AllReadyX.late rfl (by kernel_rfl) (fun K hK => ?_) AllReadyX.nil)
      try rw [if_pos (by kernel_rfl)]
      go_simp
      try dsimp only
      refine hK.out _ _ ?_
      clear hK K
      try simp only [Act.put, List.getElem_toArray, List.getElem_cons_succ, List.getElem_cons_zero, List.setIfInBounds_toArray, List.set_cons_zero, List.set_cons_succ]
      refine wpAnyX_done (by kernel_rfl) ?_ _
      refine NoPanic.normal ?_
      obtain ⟨u4, hu4⟩ : ∃ x, u3.setCell ⟨ib1, 2, none⟩ (.slice (some ⟨gn2, 0, none⟩) (k + 1) cap2) = x := ⟨_, rfl⟩
      rw [hu4] at stn rdN r0N ⊢
      clear hu4 bn st zz zc belN
      have st := stn
      have rd := rdN
      have r0 := r0N
      clear stn rdN r0N
      go_wp2
      go_roundw
      case rel => exact ⟨k + 1, _, _, by omega, by go_num, by rw [HSUC.out]; exact st, by rw [HSUC.out]; exact rd, r0⟩
      case measure => simp [intOf]; omega

    · obtain rfl : k = m := by omega
      have q1 : decide ((k : Int) < k) = false := by simp
      obtain ⟨lk1, lk2⟩ := st.len
      have hdd := HDD.out
      obtain ⟨⟨dk, dv, dr⟩, hD⟩ : ∃ D, decS r2 k = D := ⟨_, rfl⟩
      rw [hD] at st rd hdd lk1 lk2
      simp only at hdd lk1 lk2 st rd
      obtain ⟨ds, de⟩ := dr
      simp only at hdd
      have rc1 := Blk.cell rd 1
      simp at rc1
      by_cases he : de ≠ 0
      · have qe : (de != 0) = true := bne_iff_ne.2 he
        have HD : Hid (RD = (emptyN, 2)) := Lib.hid (by rw [hdd, if_pos he])
        clear hdd hD he
        have rf0 := r0.frozen 0
        have rf1 := r0.frozen 1
        have rf2 := r0.frozen 2
        have rz0 := r0.cell 0
        have rz1 := r0.cell 1
        have rz2 := r0.cell 2
        simp at rz0 rz1 rz2
        go_wp2
        have xx := r0.put3 (.bool false) (.slice none 0 0) (.slice none 0 0)
        have xx0 := xx.cell 0
        have xx1 := xx.cell 1
        have xx2 := xx.cell 2
        simp at xx0 xx1 xx2
        refine bodyPost_ret (v := .tuple #[.agg #[.bool false, .slice none 0 0, .slice none 0 0], .int .i64 2]) ?h1 rfl ?h2
        case h1 => simp [results, Try.results22, go_sem, xx0, xx1, xx2]
        case h2 => rw [HD.out]; exact ⟨_, rfl, nd_empty _, below_at (below_at (below_at st.bel or0 _ _) or0 _ _) or0 _ _⟩
      · have qe : (de != 0) = false := by simp at he; simp [he]
        rw [if_neg he] at hdd
        have nn := st.nd
        obtain ⟨E, hE⟩ : ∃ E, checkN ⟨leaf, dk, dv⟩ = E := ⟨_, rfl⟩
        obtain ⟨TT, hT⟩ : ∃ TT, nencL ⟨leaf, dk, dv⟩ = TT := ⟨_, rfl⟩
        have hTn : E = 0 → nodeL ⟨leaf, dk, dv⟩ = TT := by
          intro h
          rw [← hT]
          unfold nencL
          rw [hE, if_pos h]
        rw [hE] at hdd
        have HE := Lib.hid hE
        have HT := Lib.hid hT
        clear hE hT he hD
        have o0 := st.b.cell 0
        have o1 := st.b.cell 1
        have o2 := st.b.cell 2
        simp at o0 o1 o2
        go_wp2_with fail
        refine (renc_to HT.out HE.out _ wr nn (by show dk.length ≤ _; omega) (by show dv.length ≤ _; omega)).mono ?_
        rintro e w9 ⟨rfl, k9⟩
        have st := st.below k9
        have r0 := r0.below k9 r0.lt
        clear k9 o0 o1 o2 rc1 nn rd
        have o0 := st.b.cell 0
        have o1 := st.b.cell 1
        have o2 := st.b.cell 2
        simp at o0 o1 o2
        have rf0 := r0.frozen 0
        have rf1 := r0.frozen 1
        have rf2 := r0.frozen 2
        have rz0 := r0.cell 0
        have rz1 := r0.cell 1
        have rz2 := r0.cell 2
        simp at rz0 rz1 rz2
        by_cases hE0 : E = 0
        · have qE : (E != 0) = false := by simp [hE0]
          by_cases hTs : TT = s
          · have qT : (TT == s) = true := by simp [hTs]
            have HD : Hid (RD = (⟨leaf, dk, dv⟩, 0)) := Lib.hid (by rw [hdd, if_neg (by rw [hTn hE0]; simp [hE0, hTs])])
            clear hdd hTn hTs hE0
            go_wp2
            have xx := r0.put3 (.bool leaf) (.slice A1 k cA) (.slice C1 k d1)
            have xx0 := xx.cell 0
            have xx1 := xx.cell 1
            have xx2 := xx.cell 2
            simp at xx0 xx1 xx2
            refine bodyPost_ret (v := .tuple #[.agg #[.bool leaf, .slice A1 k cA, .slice C1 k d1], .int .i64 0]) ?h1 rfl ?h2
            case h1 => simp [results, Try.results22, go_sem, xx0, xx1, xx2]
            case h2 => obtain ⟨e1, e2, _, _⟩ := st.ret r0 (by decide) or0 (.bool leaf) (.slice A1 k cA) (.slice C1 k d1); rw [HD.out]; exact ⟨_, rfl, e1, e2⟩
          · have qT : (TT == s) = false := beq_eq_false_iff_ne.2 hTs
            have HD : Hid (RD = (emptyN, 3)) := Lib.hid (by rw [hdd, if_pos (.inr (by rw [hTn hE0]; exact hTs))])
            clear hdd hTn hTs hE0
            go_wp2
            have xx := r0.put3 (.bool false) (.slice none 0 0) (.slice none 0 0)
            have xx0 := xx.cell 0
            have xx1 := xx.cell 1
            have xx2 := xx.cell 2
            simp at xx0 xx1 xx2
            refine bodyPost_ret (v := .tuple #[.agg #[.bool false, .slice none 0 0, .slice none 0 0], .int .i64 3]) ?h1 rfl ?h2
            case h1 => simp [results, Try.results22, go_sem, xx0, xx1, xx2]
            case h2 => rw [HD.out]; exact ⟨_, rfl, nd_empty _, below_at (below_at (below_at st.bel or0 _ _) or0 _ _) or0 _ _⟩
        · have qE : (E != 0) = true := bne_iff_ne.2 hE0
          have HD : Hid (RD = (emptyN, 3)) := Lib.hid (by rw [hdd, if_pos (.inl hE0)])
          clear hdd hTn hE0
          go_wp2
          have xx := r0.put3 (.bool false) (.slice none 0 0) (.slice none 0 0)
          have xx0 := xx.cell 0
          have xx1 := xx.cell 1
          have xx2 := xx.cell 2
          simp at xx0 xx1 xx2
          refine bodyPost_ret (v := .tuple #[.agg #[.bool false, .slice none 0 0, .slice none 0 0], .int .i64 3]) ?h1 rfl ?h2
          case h1 => simp [results, Try.results22, go_sem, xx0, xx1, xx2]
          case h2 => rw [HD.out]; exact ⟨_, rfl, nd_empty _, below_at (below_at (below_at st.bel or0 _ _) or0 _ _) or0 _ _⟩
theorem rdec_to {s : List UInt8} {n : Nd} {e0 : Int} (hd : decD s = (n, e0)) (hs : s.length ≤ 140737488351232) (w : World) :
    Calls Try.prog 22 #[.string (bstr s)] w fun e w' => ∃ u, e = .returned (.tuple #[u, .int .i64 e0]) ∧ NdV w' u n ∧ Below w.heap.size w w' := by
  have := rdec_any s hs w
  rwa [hd] at this
theorem rwith_to {n n' : Nd} {key val : List UInt8} (hn : withN n key val = n') (v : Value) (w : World) (h : NdV w v n) (hk : n.keys.length ≤ 1000000) (hv : n.vals.length ≤ 1000000) :
    Calls Try.prog 28 #[v, .string (bstr key), .string (bstr val)] w fun e w' => ∃ u, e = .returned u ∧ NdV w' u n' ∧ Below w.heap.size w w' := hn ▸ rwith_any n v key val w h hk hv
theorem rwithout_to {n n' : Nd} {key : List UInt8} (hn : withoutN n key = n') (v : Value) (w : World) (h : NdV w v n) (hk : n.keys.length ≤ 1000000) (hv : n.vals.length ≤ 1000000) :
    Calls Try.prog 30 #[v, .string (bstr key)] w fun e w' => ∃ u, e = .returned u ∧ NdV w' u n' ∧ Below w.heap.size w w' := hn ▸ rwithout_any n v key w h hk hv
theorem rfind_to {n : Nd} {key : List UInt8} {p : Nat} {b : Bool} (hf : findN n key = (p, b)) (v : Value) (w : World) (h : NdV w v n) (hk : n.keys.length ≤ 1000000) (hv : n.vals.length ≤ 1000000) :
    Calls Try.prog 16 #[v, .string (bstr key)] w fun e w' => e = .returned (.tuple #[.int .i64 (p : Nat), .bool b]) ∧ Below w.heap.size w w' := by
  have := rfind_any v n key w h hk hv
  rwa [hf] at this
end Go.Proofs.Ytiodeeliidhbgaa
