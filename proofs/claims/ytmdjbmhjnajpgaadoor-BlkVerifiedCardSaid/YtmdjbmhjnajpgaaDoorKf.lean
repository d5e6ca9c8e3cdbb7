/- Package blk: Write on devices that are none, and of no place: contracts. -/
import Derived.Test.YtmdjbmhjnajpgaaDoorKe
namespace Go.Proofs.YtmdjbmhjnajpgaaDoor
open Go Go.RowKit
set_option linter.unusedSimpArgs false
set_option linter.unnecessarySimpa false
set_option linter.unusedVariables false

theorem size_nilB (dev : Int) (w : World) :
    Calls Tryd.prog 24 #[.pointer none, .int .i64 dev] w fun e w' => e = .returned (.int .i64 0) ∧ Below w.heap.size w w' :=
  (size_nil dev w).mono fun e wj ⟨h1, h2⟩ => ⟨h1, by subst h2; exact Below.refl _ _⟩
section
attribute [local go_sem] undef
set_option maxRecDepth 100000 in
set_option maxHeartbeats 8000000 in
theorem write_nil1 (v : Value) (l : Lc) (load : List UInt8) (hck : ckE ⟨[l], load.length, 0, shaL load⟩ = 0) (wi : World) (hR : RootsAt wi) (hv : LocsAt wi.heap.size wi v [l]) :
    Calls Tryd.prog 10 #[.pointer none, v, .string (bstr load), .int .i64 0] wi fun e wj => e = .returned (.tuple #[.agg #[.slice none 0 0, .int .i64 0, .int .i64 0, .string ⟨#[]⟩], .int .i64 1]) ∧ Below wi.heap.size wi wj := by
  obtain ⟨SH, hSH⟩ : ∃ x, shaL load = x := ⟨_, rfl⟩
  rw [hSH] at hck
  have hl := ok_facts hck
  have hll : load.length ≤ 960 := by have := hl.2.2.2.2.2.1; simp [inI] at this; omega
  have hp0 : 0 ≤ l.pos := by have := loc_ok hl.2.2.2.1 0 (by simp); exact (good_loc this).2.2.1
  obtain ⟨A, c, rfl, hc, hm⟩ := hv.form
  rw [show [l].length = 1 from rfl] at hv ⊢
  obtain ⟨ad, rfl, had, hx0, hy0⟩ := hv.get 0 (by simp)
  simp only [List.getElem_cons_zero, Nat.zero_mul] at hx0 hy0
  have hsrc : ∀ j u, (lcsV [l])[j]? = some u → wi.cell? (ad.add j) = some u := lcsV_cell (fun i hi => by
    obtain ⟨A', c', e, _, _, hx⟩ := hv
    obtain ⟨ad', e', _, hx⟩ := hx (by simp)
    cases e
    cases e'
    exact hx i hi)
  have hadB : ad.block < wi.heap.size := by
    have := had
    unfold Addr.add at this
    exact this
  have bel : Below wi.heap.size wi wi := Below.refl _ _
  have HSH := Lib.hid hSH
  have HCK := Lib.hid hck
  have HSRC := Lib.hid hsrc
  have HV := Lib.hid hv
  have HLD : Hid (load.length < 288230376151711744) := Lib.hid (by omega)
  have szl : (bstr load).size = load.length := by simp [bstr, ByteArray.size]
  have q2 : decide (l.pos ≥ 0) = true := decide_eq_true (by omega)
  clear hSH hck hl hsrc hv hx0 hy0 had
  go_enter Tryd.func10, Tryd.ntmps10
  go_upto_region 1 with fail
  obtain ⟨w1, hw1⟩ : ∃ x, wi.alloc (.cells #[.slice none 0 0, .int .i64 0, .int .i64 0, .string ⟨#[]⟩] 25) = x := ⟨_, rfl⟩
  obtain ⟨ir0, hir0⟩ : ∃ i, wi.heap.size = i := ⟨_, rfl⟩
  have r0 : Blk w1 ir0 25 #[.slice none 0 0, .int .i64 0, .int .i64 0, .string ⟨#[]⟩] := by rw [← hw1, ← hir0]; exact Blk.new _ _ _
  have k1 : Below wi.heap.size wi w1 := by rw [← hw1]; exact (Below.refl _ _).alloc (Nat.le_refl _) _
  have zr0 : w1.heap.size = ir0 + 1 := by rw [← hw1, ← hir0]; simp
  rw [hw1, hir0]
  have or0 : wi.heap.size ≤ ir0 := by rw [← hir0]; exact bel.size
  have hR := hR.moved k1
  have bel := hthen bel k1
  clear k1
  clear hw1 hir0
  have r0c0 := r0.cell 0
  have r0c1 := r0.cell 1
  have r0c2 := r0.cell 2
  have r0c3 := r0.cell 3
  simp at r0c0 r0c1 r0c2 r0c3
  have r0lt := r0.lt
  clear zr0
  obtain ⟨i0, hi0, hz0, hz1, hz2⟩ := info_parts loc_info
  have F1 := Lib.hid (show 0 + 1 ≤ maxLen by decide)
  have F2 := Lib.hid (show (0 + 1) * 16 ≤ 140737488355328 by decide)
  have belN := bel
  go_wp2_with (at_builtin; refine wpList_spread (P := Tryd.prog) _ rfl _ _ 23 rfl wi.heap.size 33 (.agg #[.int .i64 0, .int .i64 0]) 2 16 Tryd.underlying23 loc_info rfl (by decide) _ 0 _ rfl (World.ownsRow_nil _ _ _ _) (some ad) 1 c (lcsV [l]) rfl rfl (fun _ => ⟨ad, rfl, fun j u hj => by rw [belN.cell (by unfold Addr.add; split <;> exact hadB)]; exact HSRC.out j u hj⟩) (lcsV_one _) F1.out F2.out bel.size ?_)
  intro u wu hown hsame hbu hsu
  clear r0c0 r0c1 r0c2 r0c3 r0lt
  obtain ⟨gu, cu, rfl, _, _⟩ := hown.form (by omega)
  have kU : Below w1.heap.size w1 wu := ⟨hbu.os, hbu.tape, hbu.output, hsu, fun k hk => hsame k hk (by simp [Value.ownBlock])⟩
  have row : wu.ownsRow wi.heap.size 33 2 (.slice (some ⟨gu, 0, none⟩) 1 cu) [l].length (lcsV [l]) := hown
  clear hown hbu hsame hsu belN
  have r0 := r0.below kU r0.lt
  have hR := hR.moved kU
  have bel := hthen bel kU
  clear kU
  have r0c0 := r0.cell 0
  have r0c1 := r0.cell 1
  have r0c2 := r0.cell 2
  have r0c3 := r0.cell 3
  simp at r0c0 r0c1 r0c2 r0c3
  have r0lt := r0.lt
  go_wp2_with fail
  refine (of_to HSH.out HLD.out _ hR).mono ?_
  rintro e w2 ⟨rfl, k2⟩
  clear r0c0 r0c1 r0c2 r0c3 r0lt
  have r0 := r0.below k2 r0.lt
  have hR := hR.moved k2
  have row := row.below k2
  have bel := hthen bel k2
  clear k2
  have r0c0 := r0.cell 0
  have r0c1 := r0.cell 1
  have r0c2 := r0.cell 2
  have r0c3 := r0.cell 3
  simp at r0c0 r0c1 r0c2 r0c3
  have r0lt := r0.lt
  go_upto_region 2 with fail
  clear r0c0 r0c1 r0c2 r0c3 r0lt
  obtain ⟨w3, hw3⟩ : ∃ x, w2.alloc (.cells #[.slice (some ⟨gu, 0, none⟩) 1 cu, .int .i64 load.length, .int .i64 0, .string (bstr SH)] 25) = x := ⟨_, rfl⟩
  obtain ⟨ibp, hibp⟩ : ∃ i, w2.heap.size = i := ⟨_, rfl⟩
  have bp : Blk w3 ibp 25 #[.slice (some ⟨gu, 0, none⟩) 1 cu, .int .i64 load.length, .int .i64 0, .string (bstr SH)] := by rw [← hw3, ← hibp]; exact Blk.new _ _ _
  have k3 : Below w2.heap.size w2 w3 := by rw [← hw3]; exact (Below.refl _ _).alloc (Nat.le_refl _) _
  have zbp : w3.heap.size = ibp + 1 := by rw [← hw3, ← hibp]; simp
  rw [hw3, hibp]
  have obp : wi.heap.size ≤ ibp := by rw [← hibp]; exact bel.size
  have nr0bp : ir0 ≠ ibp := by have := r0.lt; omega
  have r0 := r0.below k3 r0.lt
  have hR := hR.moved k3
  have row := row.below k3
  have bel := hthen bel k3
  clear k3
  clear hw3 hibp
  have r0c0 := r0.cell 0
  have r0c1 := r0.cell 1
  have r0c2 := r0.cell 2
  have r0c3 := r0.cell 3
  simp at r0c0 r0c1 r0c2 r0c3
  have r0lt := r0.lt
  have bpc0 := bp.cell 0
  have bpc1 := bp.cell 1
  have bpc2 := bp.cell 2
  have bpc3 := bp.cell 3
  simp at bpc0 bpc1 bpc2 bpc3
  have bplt := bp.lt
  go_wp2_with fail
  refine (check_to (p := ⟨[l], load.length, 0, SH⟩) HCK.out _ _ (OwnL.locs row) (Nat.le_refl _)).mono ?_
  rintro e w4 ⟨rfl, k4⟩
  clear r0c0 r0c1 r0c2 r0c3 r0lt bpc0 bpc1 bpc2 bpc3 bplt
  have r0 := r0.below k4 r0.lt
  have bp := bp.below k4 bp.lt
  have hR := hR.moved k4
  have row := row.below k4
  have bel := hthen bel k4
  clear k4
  have r0c0 := r0.cell 0
  have r0c1 := r0.cell 1
  have r0c2 := r0.cell 2
  have r0c3 := r0.cell 3
  simp at r0c0 r0c1 r0c2 r0c3
  have r0lt := r0.lt
  have bpc0 := bp.cell 0
  have bpc1 := bp.cell 1
  have bpc2 := bp.cell 2
  have bpc3 := bp.cell 3
  simp at bpc0 bpc1 bpc2 bpc3
  have bplt := bp.lt
  go_wp2_with fail
  clear r0c0 r0c1 r0c2 r0c3 r0lt bpc0 bpc1 bpc2 bpc3 bplt
  go_loopw [11, 30] (fun gv i wr => i = .int .i64 0 ∧ gv = .bool false ∧ Below wi.heap.size wi wr ∧ Blk wr ir0 25 #[.slice none 0 0, .int .i64 0, .int .i64 0, .string ⟨#[]⟩]) (fun _ i _ => 0)
  case atStart => exact ⟨rfl, rfl, bel, r0⟩
  case round =>
    clear bel r0 bp row hR
    obtain ⟨rfl, rfl, bel, r0⟩ := hrel
    obtain ⟨ad', hadA, had, hx0, hy0⟩ := (HV.out.keep bel (Nat.le_refl _)).get 0 (by simp)
    cases hadA
    have hx1 : wr.cell? ad = some (.int .i64 l.dev) := hx0
    have hy1 : wr.cell? ⟨ad.block, ad.off + 1, none⟩ = some (.int .i64 l.pos) := hy0
    clear hx0 hy0
    have r0c0 := r0.cell 0
    have r0c1 := r0.cell 1
    have r0c2 := r0.cell 2
    have r0c3 := r0.cell 3
    simp at r0c0 r0c1 r0c2 r0c3
    have r0lt := r0.lt
    go_upto_region 8 with fail
    clear r0c0 r0c1 r0c2 r0c3 r0lt
    obtain ⟨w41, hw41⟩ : ∃ x, wr.alloc (.cells #[.int .i64 l.dev, .int .i64 l.pos] 33) = x := ⟨_, rfl⟩
    obtain ⟨ibl, hibl⟩ : ∃ i, wr.heap.size = i := ⟨_, rfl⟩
    have bl : Blk w41 ibl 33 #[.int .i64 l.dev, .int .i64 l.pos] := by rw [← hw41, ← hibl]; exact Blk.new _ _ _
    have k41 : Below wr.heap.size wr w41 := by rw [← hw41]; exact (Below.refl _ _).alloc (Nat.le_refl _) _
    have zbl : w41.heap.size = ibl + 1 := by rw [← hw41, ← hibl]; simp
    rw [hw41, hibl]
    have obl : wi.heap.size ≤ ibl := by rw [← hibl]; exact bel.size
    have nr0bl : ir0 ≠ ibl := by have := r0.lt; omega
    have r0 := r0.below k41 r0.lt
    have bel := hthen bel k41
    clear k41
    clear hw41 hibl
    have r0c0 := r0.cell 0
    have r0c1 := r0.cell 1
    have r0c2 := r0.cell 2
    have r0c3 := r0.cell 3
    simp at r0c0 r0c1 r0c2 r0c3
    have r0lt := r0.lt
    have blc0 := bl.cell 0
    have blc1 := bl.cell 1
    simp at blc0 blc1
    have bllt := bl.lt
    clear r0c0 r0c1 r0c2 r0c3 r0lt blc0 blc1 bllt
    clear hx1 hy1
    have bel := bel.drew
    have r0 := r0.drew
    have bl := bl.drew
    refine wp_region_noPanic ?_
    refine wp_region_held_drew (S := (fun w' => w'.cell? ⟨ibl, 0, none⟩ = some (.int .i64 l.dev) ∧ w'.cell? ⟨ibl, 1, none⟩ = some (.int .i64 l.pos))) (by kernel_rfl) ?hS0 (fun hHeld => ?_)
    case hS0 => (have q0 := bl.cell 0; have q1 := bl.cell 1; simp at q0 q1; exact ⟨q0, q1⟩)
    generalize hZ : w41.drew = wd42 at *
    clear hZ
    refine wpAnyH_take (i := 0) (oi := ⟨some 34, _, _, _, _, _⟩) (v := ?_) rfl (by kernel_rfl) (by kernel_rfl) (by kernel_rfl) (fun _ _ _ h => h) (Or.inl ⟨by kernel_rfl, ?_⟩) hHeld ?_
    rotate_left
    · (intro w hSw; (try dsimp only at hSw); go_simp; try with_reducible rfl)
    try simp only [Act.put, List.getElem_toArray, List.getElem_cons_succ, List.getElem_cons_zero, List.setIfInBounds_toArray, List.set_cons_zero, List.set_cons_succ]
    refine wpAnyH_take (i := 1) (oi := ⟨some 35, _, _, _, _, _⟩) (v := ?_) rfl (by kernel_rfl) (by kernel_rfl) (by kernel_rfl) (fun _ _ _ h => h) (Or.inl ⟨by kernel_rfl, ?_⟩) hHeld ?_
    rotate_left
    · (intro w hSw; (try dsimp only at hSw); go_simp; try with_reducible rfl)
    try simp only [Act.put, List.getElem_toArray, List.getElem_cons_succ, List.getElem_cons_zero, List.setIfInBounds_toArray, List.set_cons_zero, List.set_cons_succ]
    refine wpAnyH_take (i := 2) (oi := ⟨some 36, _, _, _, _, _⟩) (v := ?_) rfl (by kernel_rfl) (by kernel_rfl) (by kernel_rfl) (fun _ _ _ h => h) (Or.inl ⟨by kernel_rfl, ?_⟩) hHeld ?_
    rotate_left
    · (intro w hSw; (try dsimp only at hSw); go_simp; try with_reducible rfl)
    try simp only [Act.put, List.getElem_toArray, List.getElem_cons_succ, List.getElem_cons_zero, List.setIfInBounds_toArray, List.set_cons_zero, List.set_cons_succ]
    refine wpAnyH_take (i := 3) (oi := ⟨some 37, _, _, _, _, _⟩) (v := ?_) rfl (by kernel_rfl) (by kernel_rfl) (by kernel_rfl) (fun _ _ _ h => h) (Or.inl ⟨by kernel_rfl, ?_⟩) hHeld ?_
    rotate_left
    · (intro w hSw; (try dsimp only at hSw); go_simp; try with_reducible rfl)
    try simp only [Act.put, List.getElem_toArray, List.getElem_cons_succ, List.getElem_cons_zero, List.setIfInBounds_toArray, List.set_cons_zero, List.set_cons_succ]
    refine wpAnyH_take (i := 4) (oi := ⟨some 38, _, _, _, _, _⟩) (v := ?_) rfl (by kernel_rfl) (by kernel_rfl) (by kernel_rfl) (fun _ _ _ h => h) (Or.inl ⟨by kernel_rfl, ?_⟩) hHeld ?_
    rotate_left
    · (intro w hSw; (try dsimp only at hSw); go_simp; try with_reducible rfl)
    try simp only [Act.put, List.getElem_toArray, List.getElem_cons_succ, List.getElem_cons_zero, List.setIfInBounds_toArray, List.set_cons_zero, List.set_cons_succ]
    refine wpAnyH_ready (rs := [5]) (by kernel_rfl) (by simp) ?_
    refine (AllReadyH.cons rfl (fun K hK => ?_) AllReadyH.nil)
    try rw [if_pos (by kernel_rfl)]
    go_simp
    go_at_call 24
    refine (size_nilB l.dev _).mono ?_
    rintro e w43 ⟨rfl, k43⟩
    have r0 := r0.below k43 r0.lt
    have bl := bl.below k43 bl.lt
    have bel := hthen bel k43
    clear k43
    try dsimp only
    refine hK.out _ _ (by have q0 := bl.cell 0; have q1 := bl.cell 1; simp at q0 q1; exact ⟨q0, q1⟩) (fun hHeld => ?_)
    clear hK K
    try simp only [Act.put, List.getElem_toArray, List.getElem_cons_succ, List.getElem_cons_zero, List.setIfInBounds_toArray, List.set_cons_zero, List.set_cons_succ]
    refine wpAnyH_take (i := 6) (oi := ⟨some 40, _, _, _, _, _⟩) (v := ?_) rfl (by kernel_rfl) (by kernel_rfl) (by kernel_rfl) (fun _ _ _ h => h) (Or.inl ⟨by kernel_rfl, ?_⟩) hHeld ?_
    rotate_left
    · (intro w hSw; (try dsimp only at hSw); go_simp; try with_reducible rfl)
    try simp only [Act.put, List.getElem_toArray, List.getElem_cons_succ, List.getElem_cons_zero, List.setIfInBounds_toArray, List.set_cons_zero, List.set_cons_succ]
    refine wpAnyH_done (by kernel_rfl) ?_ _
    refine NoPanic.normal ?_
    have r0c0 := r0.cell 0
    have r0c1 := r0.cell 1
    have r0c2 := r0.cell 2
    have r0c3 := r0.cell 3
    simp at r0c0 r0c1 r0c2 r0c3
    have r0lt := r0.lt
    have blc0 := bl.cell 0
    have blc1 := bl.cell 1
    simp at blc0 blc1
    have bllt := bl.lt
    have rf0 := r0.frozen 0
    have rf1 := r0.frozen 1
    have rf2 := r0.frozen 2
    have rf3 := r0.frozen 3
    go_wp2
    have xx := ((((r0.set_ 0 (.slice none 0 0)).set_ 1 (.int .i64 0)).set_ 2 (.int .i64 0)).set_ 3 (.string ⟨#[]⟩))
    simp at xx
    have xx0 := xx.cell 0
    have xx1 := xx.cell 1
    have xx2 := xx.cell 2
    have xx3 := xx.cell 3
    simp at xx0 xx1 xx2 xx3
    refine bodyPost_ret (v := .tuple #[.agg #[.slice none 0 0, .int .i64 0, .int .i64 0, .string ⟨#[]⟩], .int .i64 1]) ?h1 rfl ?h2
    case h1 => simp [results, Tryd.results10, go_sem, xx0, xx1, xx2, xx3]
    case h2 => exact ⟨rfl, (below_at (below_at (below_at (below_at bel or0 0 (.slice none 0 0)) or0 1 (.int .i64 0)) or0 2 (.int .i64 0)) or0 3 (.string ⟨#[]⟩))⟩

set_option maxRecDepth 100000 in
set_option maxHeartbeats 8000000 in
theorem write_no (dp : Option Addr) (load : List UInt8) (birth : Int) (hld : load.length ≤ 100000) (wi : World) (hR : RootsAt wi) :
    Calls Tryd.prog 10 #[.pointer dp, .slice none 0 0, .string (bstr load), .int .i64 birth] wi fun e wj => e = .returned (.tuple #[.agg #[.slice none 0 0, .int .i64 0, .int .i64 0, .string ⟨#[]⟩], .int .i64 1]) ∧ Below wi.heap.size wi wj := by
  obtain ⟨SH, hSH⟩ : ∃ x, shaL load = x := ⟨_, rfl⟩
  have hck : ckE ⟨[], load.length, birth, SH⟩ = 1 := checkE_bad (.inl (by simp))
  have bel : Below wi.heap.size wi wi := Below.refl _ _
  have HSH := Lib.hid hSH
  have HCK := Lib.hid hck
  have HLD : Hid (load.length < 288230376151711744) := Lib.hid (by omega)
  have szl : (bstr load).size = load.length := by simp [bstr, ByteArray.size]
  clear hSH hck
  go_enter Tryd.func10, Tryd.ntmps10
  go_upto_region 1 with fail
  obtain ⟨w1, hw1⟩ : ∃ x, wi.alloc (.cells #[.slice none 0 0, .int .i64 0, .int .i64 0, .string ⟨#[]⟩] 25) = x := ⟨_, rfl⟩
  obtain ⟨ir0, hir0⟩ : ∃ i, wi.heap.size = i := ⟨_, rfl⟩
  have r0 : Blk w1 ir0 25 #[.slice none 0 0, .int .i64 0, .int .i64 0, .string ⟨#[]⟩] := by rw [← hw1, ← hir0]; exact Blk.new _ _ _
  have k1 : Below wi.heap.size wi w1 := by rw [← hw1]; exact (Below.refl _ _).alloc (Nat.le_refl _) _
  have zr0 : w1.heap.size = ir0 + 1 := by rw [← hw1, ← hir0]; simp
  rw [hw1, hir0]
  have or0 : wi.heap.size ≤ ir0 := by rw [← hir0]; exact bel.size
  have hR := hR.moved k1
  have bel := hthen bel k1
  clear k1
  clear hw1 hir0
  have r0c0 := r0.cell 0
  have r0c1 := r0.cell 1
  have r0c2 := r0.cell 2
  have r0c3 := r0.cell 3
  simp at r0c0 r0c1 r0c2 r0c3
  have r0lt := r0.lt
  clear zr0
  have F1 := Lib.hid (show 0 + 0 ≤ maxLen by decide)
  have F2 := Lib.hid (show (0 + 0) * 16 ≤ 140737488355328 by decide)
  go_wp2_with (at_builtin; refine wpList_spread (P := Tryd.prog) _ rfl _ _ 23 rfl wi.heap.size 33 (.agg #[.int .i64 0, .int .i64 0]) 2 16 Tryd.underlying23 loc_info rfl (by decide) _ 0 _ rfl (World.ownsRow_nil _ _ _ _) none 0 0 [] rfl rfl (fun h0 => absurd h0 (by decide)) (fun u hu => by cases hu) F1.out F2.out bel.size ?_)
  intro u wu hown hsame hbu hsu
  clear r0c0 r0c1 r0c2 r0c3 r0lt
  obtain ⟨Au, cu, rfl⟩ := orow_form hown
  have kU : Below w1.heap.size w1 wu := ⟨hbu.os, hbu.tape, hbu.output, hsu, fun k hk => hsame k hk (by simp [Value.ownBlock])⟩
  have row : wu.ownsRow wi.heap.size 33 2 (.slice Au 0 cu) ([] : List Lc).length (lcsV []) := hown
  clear hown hbu hsame hsu
  have r0 := r0.below kU r0.lt
  have hR := hR.moved kU
  have bel := hthen bel kU
  clear kU
  have r0c0 := r0.cell 0
  have r0c1 := r0.cell 1
  have r0c2 := r0.cell 2
  have r0c3 := r0.cell 3
  simp at r0c0 r0c1 r0c2 r0c3
  have r0lt := r0.lt
  go_wp2_with fail
  refine (of_to HSH.out HLD.out _ hR).mono ?_
  rintro e w2 ⟨rfl, k2⟩
  clear r0c0 r0c1 r0c2 r0c3 r0lt
  have r0 := r0.below k2 r0.lt
  have hR := hR.moved k2
  have row := row.below k2
  have bel := hthen bel k2
  clear k2
  have r0c0 := r0.cell 0
  have r0c1 := r0.cell 1
  have r0c2 := r0.cell 2
  have r0c3 := r0.cell 3
  simp at r0c0 r0c1 r0c2 r0c3
  have r0lt := r0.lt
  go_upto_region 2 with fail
  clear r0c0 r0c1 r0c2 r0c3 r0lt
  obtain ⟨w3, hw3⟩ : ∃ x, w2.alloc (.cells #[.slice Au 0 cu, .int .i64 load.length, .int .i64 birth, .string (bstr SH)] 25) = x := ⟨_, rfl⟩
  obtain ⟨ibp, hibp⟩ : ∃ i, w2.heap.size = i := ⟨_, rfl⟩
  have bp : Blk w3 ibp 25 #[.slice Au 0 cu, .int .i64 load.length, .int .i64 birth, .string (bstr SH)] := by rw [← hw3, ← hibp]; exact Blk.new _ _ _
  have k3 : Below w2.heap.size w2 w3 := by rw [← hw3]; exact (Below.refl _ _).alloc (Nat.le_refl _) _
  have zbp : w3.heap.size = ibp + 1 := by rw [← hw3, ← hibp]; simp
  rw [hw3, hibp]
  have obp : wi.heap.size ≤ ibp := by rw [← hibp]; exact bel.size
  have nr0bp : ir0 ≠ ibp := by have := r0.lt; omega
  have r0 := r0.below k3 r0.lt
  have hR := hR.moved k3
  have row := row.below k3
  have bel := hthen bel k3
  clear k3
  clear hw3 hibp
  have r0c0 := r0.cell 0
  have r0c1 := r0.cell 1
  have r0c2 := r0.cell 2
  have r0c3 := r0.cell 3
  simp at r0c0 r0c1 r0c2 r0c3
  have r0lt := r0.lt
  have bpc0 := bp.cell 0
  have bpc1 := bp.cell 1
  have bpc2 := bp.cell 2
  have bpc3 := bp.cell 3
  simp at bpc0 bpc1 bpc2 bpc3
  have bplt := bp.lt
  go_wp2_with fail
  refine (check_to (p := ⟨[], load.length, birth, SH⟩) HCK.out _ _ (OwnL.locs row) (Nat.le_refl _)).mono ?_
  rintro e w4 ⟨rfl, k4⟩
  clear r0c0 r0c1 r0c2 r0c3 r0lt bpc0 bpc1 bpc2 bpc3 bplt
  have r0 := r0.below k4 r0.lt
  have bp := bp.below k4 bp.lt
  have hR := hR.moved k4
  have row := row.below k4
  have bel := hthen bel k4
  clear k4
  have r0c0 := r0.cell 0
  have r0c1 := r0.cell 1
  have r0c2 := r0.cell 2
  have r0c3 := r0.cell 3
  simp at r0c0 r0c1 r0c2 r0c3
  have r0lt := r0.lt
  have bpc0 := bp.cell 0
  have bpc1 := bp.cell 1
  have bpc2 := bp.cell 2
  have bpc3 := bp.cell 3
  simp at bpc0 bpc1 bpc2 bpc3
  have bplt := bp.lt
  have rf0 := r0.frozen 0
  have rf1 := r0.frozen 1
  have rf2 := r0.frozen 2
  have rf3 := r0.frozen 3
  go_wp2
  have xx := ((((r0.set_ 0 (.slice none 0 0)).set_ 1 (.int .i64 0)).set_ 2 (.int .i64 0)).set_ 3 (.string ⟨#[]⟩))
  simp at xx
  have xx0 := xx.cell 0
  have xx1 := xx.cell 1
  have xx2 := xx.cell 2
  have xx3 := xx.cell 3
  simp at xx0 xx1 xx2 xx3
  refine bodyPost_ret (v := .tuple #[.agg #[.slice none 0 0, .int .i64 0, .int .i64 0, .string ⟨#[]⟩], .int .i64 1]) ?h1 rfl ?h2
  case h1 => simp [results, Tryd.results10, go_sem, xx0, xx1, xx2, xx3]
  case h2 => exact ⟨rfl, (below_at (below_at (below_at (below_at bel or0 0 (.slice none 0 0)) or0 1 (.int .i64 0)) or0 2 (.int .i64 0)) or0 3 (.string ⟨#[]⟩))⟩
end
end Go.Proofs.YtmdjbmhjnajpgaaDoor
