/- The reference of package heat: Touch: contract. -/
import Derived.Test.YtefobchpcdniiaaHrc
namespace Go.Proofs.Ytefobchpcdniiaa
open Go Go.RowKit Go.Maps
set_option linter.unusedSimpArgs false
set_option linter.unnecessarySimpa false
set_option linter.unusedVariables false

theorem without_ok {L : List Cn} (h : ∀ c ∈ L, c.ok) (k : List UInt8) : ∀ c ∈ without L k, c.ok := fun c hc => h c (without_mem.1 hc).1
theorem rtouched_ok {L : List Cn} (h : ∀ c ∈ L, c.ok) (k : List UInt8) (hk : k.length ≤ maxLen) (now : Int) (hw : (Lit.int .i64 now).wf = true) : (touched L k now).ok := by
  unfold touched
  cases hf : fnd L k with
  | none => exact ⟨by show (0 : Int) ≤ 16; decide, by show (16 : Int) ≤ 1048576; decide, hw, hk⟩
  | some c =>
    obtain ⟨h1, h2, h3, h4⟩ := h c (fnd_some hf).1
    have := worthH_lo c.n c.tick now h1
    refine ⟨?_, ?_, ?_, hk⟩
    · show 0 ≤ min (worthH c.n c.tick now + 16) 1048576
      omega
    · show min (worthH c.n c.tick now + 16) 1048576 ≤ 1048576
      omega
    · show (Lit.int .i64 (max now c.tick)).wf = true
      rcases Int.le_total now c.tick with e | e
      · rw [Int.max_eq_right e]; exact h3
      · rw [Int.max_eq_left e]; exact hw
theorem touch_okL {L : List Cn} (h : ∀ c ∈ L, c.ok) (k : List UInt8) (hk : k.length ≤ maxLen) (now : Int) (hw : (Lit.int .i64 now).wf = true) : ∀ c ∈ touchL L k now, c.ok := by
  intro c hc
  rcases List.mem_append.1 hc with hc | hc
  · exact without_ok h k c hc
  · obtain rfl : c = touched L k now := by simpa using hc
    exact rtouched_ok h k hk now hw

theorem set3_cell {w : World} {G : Nat} {a b c : Value} {p : Addr} (h : p.block ≠ G) : (((w.setCell ⟨G, 0, none⟩ a).setCell ⟨G, 1, none⟩ b).setCell ⟨G, 2, none⟩ c).cell? p = w.cell? p := by
  apply World.cell?_of_block
  rw [Below.heap_setCell _ _ _ _ h, Below.heap_setCell _ _ _ _ h, Below.heap_setCell _ _ _ _ h]
set_option maxHeartbeats 4000000 in
theorem rtouch_any (g : Nat) (v : Value) (L : List Cn) (k : List UInt8) (now : Int) (hk : k.length ≤ maxLen) (hw : (Lit.int .i64 now).wf = true) (hn : L.length ≤ 1000) (w : World) (h : RfAt w g v L) :
    Calls Try.prog 12 #[.pointer (some ⟨g, 0, none⟩), .string (bstr k), .int .i64 now] w fun e w' => ∃ u, e = .returned (.tuple #[]) ∧ RfAt w' g u (touchL L k now) ∧ (∀ b, u.ownBlock = some b → w.heap.size ≤ b) ∧ Keep w.heap.size (fun j => j = g) w w' := by
  have hgl := h.1.lt
  have hf := @plc_fnd L k
  have hle := without_le L k
  have htok := touch_okL h.2.2 k hk now hw
  obtain ⟨G, hG⟩ : ∃ G, w.heap.size = G := ⟨_, rfl⟩
  have hgG : g < G := by omega
  obtain ⟨i0, hi0, hz0, hz1, hz2⟩ := info_parts rcn_info
  have F1 : (without L k).length + 1 ≤ maxLen := by unfold maxLen; omega
  have F2 : ((without L k).length + 1) * 32 ≤ 140737488355328 := by omega
  have F1 := Lib.hid F1
  have F2 := Lib.hid F2
  cases hp : plc L k with
  | none =>
    rw [hp] at hf
    have hz : plcI L k = -1 := by unfold plcI; rw [hp]
    have hv : touched L k now = ⟨k, 16, now⟩ := by unfold touched; rw [hf]
    have HV := Lib.hid hv
    have TOK := Lib.hid htok
    have HLE := Lib.hid hle
    have HGG := Lib.hid hG
    clear hv hf hp htok hle hG
    go_enter Try.func12, Try.ntmps12
    go_wp2_with fail
    refine (rfind_to hz g v hn w h).mono ?_
    rintro e w1 ⟨rfl, rfl⟩
    go_wp2_with fail
    obtain ⟨wB, hwB⟩ : ∃ x, w1.alloc (.cells #[.string (bstr k), .int .i64 16, .int .i64 now] 56) = x := ⟨_, rfl⟩
    have bB : Below w1.heap.size w1 wB := by rw [← hwB]; exact (Below.refl _ _).alloc (Nat.le_refl _) _
    have xB : Blk wB G 56 #[.string (bstr k), .int .i64 16, .int .i64 now] := by rw [← hwB, ← HGG.out]; exact Blk.new _ _ _
    rw [hwB]
    try rw [HGG.out]
    clear hwB
    have hB := h.below bB
    go_wp2_with fail
    refine (rforget_any g _ L k hn wB hB).mono ?_
    rintro e w3 ⟨u, rfl, h3, hu3, k3⟩
    have x3 := xB.keep k3 xB.lt (by omega)
    obtain ⟨A3, c3, rfl⟩ := h3.form
    have hx3 := h3.1
    have a0 := fun o => (hx3.alloc o).cell 0
    have a1 := fun o => (x3.alloc o).cell 0
    have a2 := fun o => (x3.alloc o).cell 1
    have a3 := fun o => (x3.alloc o).cell 2
    have z0 := hx3.cell 0
    have z1 := x3.cell 0
    have z2 := x3.cell 1
    have z3 := x3.cell 2
    simp at a0 a1 a2 a3 z0 z1 z2 z3
    have hsB := bB.size
    have hs3 := k3.size
    have ne3 := h3.ne
    have r3 := fun o => (show (World.drew (World.alloc w3 o)).ownsRow 0 56 3 (.slice A3 (without L k).length c3) (without L k).length (cnsV (without L k)) from row_below h3.2.1 (((Below.refl _ _).alloc (Nat.le_refl _) o).drew))
    go_wp2_with fail
    go_region_law (first
      | (refine step_append_lies _ (by rfl) _ _ _ (by rfl) 0 56 i0 _ 3 32 (by kernel_rfl) hi0 hz0 hz1 hz2 rfl (by decide) (.slice A3 (without L k).length c3) (without L k).length (cnsV (without L k)) rfl (r3 _) ⟨w3.heap.size, 0, none⟩ 1 1 (cnV ⟨k, 16, now⟩) rfl rfl (World.news_of_block (Blk.drew (Blk.new w3 _ _))) (fun u hu => by simp [cnV] at hu; rcases hu with rfl | rfl | rfl <;> rfl) (by decide) F1.out F2.out (Nat.zero_le _) _ rfl ?_; intro gn cap w9 hown9 hgrow9 hat9 hlt9; have hb9 := (Blk.drew (hx3.alloc _)).grown hgrow9 (fun e => ne3 e.symm); have q0 := hb9.cell 0; have f0 := hb9.frozen 0; simp at q0))
    all_goals
      have kk : Keep w1.heap.size (fun k => k = g) w1 w9 := (((Keep.of_below bB).then k3 hsB (fun j _ e => e)).alloc (by omega) _).drew.grown hgrow9 (fun j hj hj2 => by have := hu3 j hj; omega) (by simp; omega)
      have hat : ∀ b, gn = b → w1.heap.size ≤ b := by
        rintro b rfl
        rcases hat9 with e | e
        · have := hu3 _ e; omega
        · simp at e; omega
      have ho9 : w9.ownsRow 0 56 3 (.slice (some ⟨gn, 0, none⟩) ((without L k).length + 1) cap) (touchL L k now).length (cnsV (touchL L k now)) := by
        unfold touchL
        rw [HV.out, cnsV_snoc, List.length_append]
        exact hown9
      have hfin := RfAt.put hb9 _ ho9 TOK.out
      go_wp2
      go_end0
      exact ⟨_, rfl, hfin, fun b e => hat b (by simpa [Value.ownBlock] using e), kk.set1 0 _⟩
  | some j =>
    have hj := plc_lt hp
    rw [hp] at hf
    simp only [List.getElem?_eq_getElem hj] at hf
    have hz : plcI L k = j := by unfold plcI; rw [hp]
    have hv : touched L k now = ⟨k, min (worthH L[j].n L[j].tick now + 16) 1048576, max now L[j].tick⟩ := by unfold touched; rw [hf]
    have hok := h.2.2 L[j] (List.getElem_mem hj)
    have hx1 := worthH_lo L[j].n L[j].tick now hok.1
    have hx2 := worthH_hi L[j].n L[j].tick now hok.1
    have hx3 := hok.2.1
    obtain ⟨x, hx⟩ : ∃ x, worthH L[j].n L[j].tick now = x := ⟨_, rfl⟩
    rw [hx] at hx1 hx2 hv
    obtain ⟨mn, hmn⟩ : ∃ mn, min (x + 16) 1048576 = mn := ⟨_, rfl⟩
    obtain ⟨mx, hmx⟩ : ∃ mx, max now L[j].tick = mx := ⟨_, rfl⟩
    have hmn1 : (if x + 16 < 1048576 then x + 16 else 1048576) = mn := by split <;> omega
    have hmn2 : (if 1048576 < x + 16 then 1048576 else x + 16) = mn := by split <;> omega
    have hmx1 : (if now < L[j].tick then L[j].tick else now) = mx := by split <;> omega
    have hmx2 : (if L[j].tick < now then now else L[j].tick) = mx := by split <;> omega
    have e16 : IntKind.i64.wrap (x + 16) = x + 16 := IntWalk.i64_in _ ⟨by omega, by omega⟩
    rw [hmn, hmx] at hv
    have HX := Lib.hid hx
    have HMN := Lib.hid hmn
    have HMX := Lib.hid hmx
    have HV := Lib.hid hv
    have TOK := Lib.hid htok
    have HLE := Lib.hid hle
    have HGG := Lib.hid hG
    have W := fun w => rworth_to hx hok hw w
    obtain ⟨b, c', rfl, hrow⟩ := h.row (by omega)
    clear hv hf hp htok hle hG hx hmn hmx hok
    go_enter Try.func12, Try.ntmps12
    go_wp2_with fail
    refine (rfind_to hz g _ hn w h).mono ?_
    rintro e w1 ⟨rfl, rfl⟩
    clear hz
    go_wp2_with fail
    obtain ⟨wA, hwA⟩ : ∃ x, w1.alloc (.cells #[.string (bstr k), .int .i64 16, .int .i64 now] 56) = x := ⟨_, rfl⟩
    have bA : Below w1.heap.size w1 wA := by rw [← hwA]; exact (Below.refl _ _).alloc (Nat.le_refl _) _
    have xA : Blk wA G 56 #[.string (bstr k), .int .i64 16, .int .i64 now] := by rw [← hwA, ← HGG.out]; exact Blk.new _ _ _
    rw [hwA]
    try rw [HGG.out]
    clear hwA
    have hA := h.below bA
    obtain ⟨g1, g2, g3⟩ := cnsV_get L j hj
    have rA := hA.2.1
    have k0 := rA.cellAt (j * 3) (by omega)
    have k1 := rA.cellAt (j * 3 + 1) (by omega)
    have k2 := rA.cellAt (j * 3 + 2) (by omega)
    have k3 := hA.1.cell 0
    rw [g1] at k0
    rw [g2] at k1
    rw [g3] at k2
    simp at k3
    have hbl : b < wA.heap.size := row_lt rA
    have hgl2 : g < wA.heap.size := hA.1.lt
    have xl := xA.lt
    have ng : g ≠ G := by omega
    have nb : b ≠ G := by have := (h.2.1.lt b rfl).2; have := HGG.out; omega
    have xD : Blk wA.drew G 56 #[.string (bstr k), .int .i64 16, .int .i64 now] := xA
    clear g1 g2 g3
    go_wp2_with fail
    go_region_held3 (fun w' => w'.cell? ⟨g, 0, none⟩ = some (.slice (some ⟨b, 0, none⟩) L.length c') ∧ w'.cell? ⟨b, j * 3, none⟩ = some (.string (bstr L[j].key)) ∧ w'.cell? ⟨b, j * 3 + 1, none⟩ = some (.int .i64 L[j].n) ∧ w'.cell? ⟨b, j * 3 + 2, none⟩ = some (.int .i64 L[j].tick))
      (first | exact ⟨k3, k0, k1, k2⟩ | exact ⟨m3, m0, m1, m2⟩ | exact ⟨(set3_cell ng).trans m3, (set3_cell nb).trans m0, (set3_cell nb).trans m1, (set3_cell nb).trans m2⟩ | go_keep)
      (first | (go_simp; go_at_call 23; refine (W _).mono ?_; rintro e w2 ⟨rfl, hb2⟩; have m0 := (hb2.cell (p := ⟨b, j * 3, none⟩) hbl).trans k0; have m1 := (hb2.cell (p := ⟨b, j * 3 + 1, none⟩) hbl).trans k1; have m2 := (hb2.cell (p := ⟨b, j * 3 + 2, none⟩) hbl).trans k2; have m3 := (hb2.cell (p := ⟨g, 0, none⟩) hgl2).trans k3; have x2 := xD.below hb2 xl; have f2 := x2.frozen 0; have f3 := x2.frozen 1; have f4 := x2.frozen 2; have n0 := x2.cell 0; have n1 := x2.cell 1; have n2 := x2.cell 2; simp at n0 n1 n2; dsimp only))
    all_goals
      obtain ⟨wB, hwB⟩ : ∃ x, (((w2.setCell ⟨G, 0, none⟩ (.string (bstr k))).setCell ⟨G, 1, none⟩ (.int .i64 mn)).setCell ⟨G, 2, none⟩ (.int .i64 mx)) = x := ⟨_, rfl⟩
      have bB : Below w1.heap.size w1 wB := by
        rw [← hwB]
        have b1 : Below w1.heap.size w1 w2 := bA.trans ((hb2.mono bA.size).fromDrew)
        exact below_at (below_at (below_at b1 (by have := HGG.out; omega) _ _) (by have := HGG.out; omega) _ _) (by have := HGG.out; omega) _ _
      have xB : Blk wB G 56 #[.string (bstr k), .int .i64 mn, .int .i64 mx] := by
        rw [← hwB]
        have := ((x2.set_ 0 (.string (bstr k))).set_ 1 (.int .i64 mn)).set_ 2 (.int .i64 mx)
        simpa using this
      rw [hwB]
      clear hwB
      have hB := h.below bB
      go_wp2_with fail
      refine (rforget_any g _ L k hn wB hB).mono ?_
      rintro e w3 ⟨u, rfl, h3, hu3, k3⟩
      have x3 := xB.keep k3 xB.lt (by omega)
      obtain ⟨A3, c3, rfl⟩ := h3.form
      have hx3 := h3.1
      have a0 := fun o => (hx3.alloc o).cell 0
      have a1 := fun o => (x3.alloc o).cell 0
      have a2 := fun o => (x3.alloc o).cell 1
      have a3 := fun o => (x3.alloc o).cell 2
      have z0 := hx3.cell 0
      have z1 := x3.cell 0
      have z2 := x3.cell 1
      have z3 := x3.cell 2
      simp at a0 a1 a2 a3 z0 z1 z2 z3
      have hsB := bB.size
      have hs3 := k3.size
      have ne3 := h3.ne
      have r3 := fun o => (show (World.drew (World.alloc w3 o)).ownsRow 0 56 3 (.slice A3 (without L k).length c3) (without L k).length (cnsV (without L k)) from row_below h3.2.1 (((Below.refl _ _).alloc (Nat.le_refl _) o).drew))
      go_wp2_with fail
      go_region_law (first
        | (refine step_append_lies _ (by rfl) _ _ _ (by rfl) 0 56 i0 _ 3 32 (by kernel_rfl) hi0 hz0 hz1 hz2 rfl (by decide) (.slice A3 (without L k).length c3) (without L k).length (cnsV (without L k)) rfl (r3 _) ⟨w3.heap.size, 0, none⟩ 1 1 (cnV ⟨k, mn, mx⟩) rfl rfl (World.news_of_block (Blk.drew (Blk.new w3 _ _))) (fun u hu => by simp [cnV] at hu; rcases hu with rfl | rfl | rfl <;> rfl) (by decide) F1.out F2.out (Nat.zero_le _) _ rfl ?_; intro gn cap w9 hown9 hgrow9 hat9 hlt9; have hb9 := (Blk.drew (hx3.alloc _)).grown hgrow9 (fun e => ne3 e.symm); have q0 := hb9.cell 0; have f0 := hb9.frozen 0; simp at q0))
      all_goals
        have kk : Keep w1.heap.size (fun k => k = g) w1 w9 := (((Keep.of_below bB).then k3 hsB (fun j _ e => e)).alloc (by omega) _).drew.grown hgrow9 (fun j hj hj2 => by have := hu3 j hj; omega) (by simp; omega)
        have hat : ∀ b, gn = b → w1.heap.size ≤ b := by
          rintro b rfl
          rcases hat9 with e | e
          · have := hu3 _ e; omega
          · simp at e; omega
        have ho9 : w9.ownsRow 0 56 3 (.slice (some ⟨gn, 0, none⟩) ((without L k).length + 1) cap) (touchL L k now).length (cnsV (touchL L k now)) := by
          unfold touchL
          rw [HV.out, cnsV_snoc, List.length_append]
          exact hown9
        have hfin := RfAt.put hb9 _ ho9 TOK.out
        go_wp2
        go_end0
        exact ⟨_, rfl, hfin, fun b e => hat b (by simpa [Value.ownBlock] using e), kk.set1 0 _⟩
end Go.Proofs.Ytefobchpcdniiaa
