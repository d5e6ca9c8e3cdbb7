/- Package heat: New, Value, Len, Forget, Touch: their contracts. -/
import Derived.Test.YtefobchpcdniiaaHm
namespace Go.Proofs.Ytefobchpcdniiaa
open Go Go.RowKit Go.Maps
set_option linter.unusedSimpArgs false
set_option linter.unnecessarySimpa false
set_option linter.unusedVariables false

theorem klaw : Keyed Try.prog 9 := string_keyed Try.underlying9
theorem zeroCnt (w : World) : (zeroValue 51).run Try.prog w = .ok (.agg #[.int .i64 0, .int .i64 0]) w := by kernel_rfl
theorem key_of (k : List UInt8) (h : k.length ≤ maxLen) : keyOf Try.prog 9 (.string (bstr k)) = some (kL k) := by
  have := Go.WideMaps.keyOf_string_mk (s := bstr k) Try.underlying9 (by simpa [bstr, ByteArray.size] using h)
  simpa [kL, bstr] using this
theorem owns_tight {P : Program} {k : TypeId} {R : Value → Option (DataW Unit × List MemPlace)} {w : World} {b n : Nat} {D : DataW Unit} (h : w.ownsMap P k R b n D) : w.ownsMap P k R b (Maps.size D) D := by
  obtain ⟨es, clock, hb, F, hs, rfl⟩ := h
  refine ⟨es, clock, hb, F, ?_, rfl⟩
  rw [Maps.size_eq, length_sorted]
  simp
theorem owns_moved {P : Program} {k : TypeId} {R : Value → Option (DataW Unit × List MemPlace)} {w w' : World} {b n : Nat} {D : DataW Unit} (h : w.ownsMap P k R b n D) (hb : w'.heap[b]? = w.heap[b]?) : w'.ownsMap P k R b n D := by
  obtain ⟨es, clock, h1, h2⟩ := h
  exact ⟨es, clock, hb.trans h1, h2⟩
theorem hthen {w w1 w2 : World} (h : Below w.heap.size w w1) (k : Below w1.heap.size w1 w2) : Below w.heap.size w w2 :=
  h.trans ((Keep.of_below (S := fun _ => False) k).mono (S' := fun _ => False) h.size (fun _ _ h => h)).below
/-- a Heat in memory: its block g, its map's block b -/
def HeatAt (w : World) (g b : Nat) (L : List Cn) : Prop := Blk w g 49 #[.map (some b)] ∧ ∃ D, w.ownsMap Try.prog 9 cntR b L.length D ∧ Reps D L
theorem HeatAt.ne {w : World} {g b : Nat} {L : List Cn} (h : HeatAt w g b L) : g ≠ b := by
  intro e
  obtain ⟨h1, D, ⟨es, clock, h2, _⟩, _⟩ := h
  subst e
  have := h1
  unfold Blk at this
  rw [h2] at this
  cases this
theorem HeatAt.lt {w : World} {g b : Nat} {L : List Cn} (h : HeatAt w g b L) : g < w.heap.size ∧ b < w.heap.size := ⟨h.1.lt, by obtain ⟨_, D, h, _⟩ := h; exact h.lt⟩
theorem heat_moved {w w' : World} {g b : Nat} {L : List Cn} (h : HeatAt w g b L) (hg : w'.heap[g]? = w.heap[g]?) (hb : w'.heap[b]? = w.heap[b]?) : HeatAt w' g b L := by
  obtain ⟨h1, D, ⟨es, clock, h2, h3⟩, h4⟩ := h
  refine ⟨?_, D, ⟨es, clock, hb.trans h2, h3⟩, h4⟩
  unfold Blk at h1 ⊢
  exact hg.trans h1
theorem HeatAt.below {w w' : World} {g b : Nat} {L : List Cn} (h : HeatAt w g b L) (k : Below w.heap.size w w') : HeatAt w' g b L := heat_moved h (k.block g h.lt.1) (k.block b h.lt.2)
theorem HeatAt.keep {w w' : World} {g b b' : Nat} {L : List Cn} (h : HeatAt w g b L) (k : Keep w.heap.size (· = b') w w') (hg : g ≠ b') (hb : b ≠ b') : HeatAt w' g b L := heat_moved h (k.block g h.lt.1 hg) (k.block b h.lt.2 hb)

set_option maxHeartbeats 1000000 in
theorem new_heat (w : World) : Calls Try.prog 10 #[] w fun e w' => ∃ g b, e = .returned (.pointer (some ⟨g, 0, none⟩)) ∧ HeatAt w' g b [] ∧ Below w.heap.size w w' ∧ w.heap.size ≤ g ∧ w.heap.size ≤ b := by
  have hmm := @run_makeMap Try.prog
  go_enter Try.func10, Try.ntmps10
  go_wp2
  go_ret
  refine ⟨_, w.heap.size, rfl, ⟨?_, .map [], ?_, reps_nil⟩, ?_, by omega, Nat.le_refl _⟩
  · exact blk_at (by simp)
  · exact (World.ownsMap_made w Try.prog 9 cntR).alloc _
  · exact ((Below.refl _ _).alloc (Nat.le_refl _) _).alloc (by simp) _

theorem val_of {D : DataW Unit} {L : List Cn} (h : Reps D L) {k : List UInt8} {v : Value} {ps : List MemPlace} (hv : cntR v = some (D.atKey (kL k) (cntD 0 0), ps)) :
    (∃ c, fnd L k = some c ∧ Maps.has D (kL k) = true ∧ v = cntV c.n c.tick ∧ c.ok) ∨ (fnd L k = none ∧ Maps.has D (kL k) = false ∧ v = cntV 0 0) := by
  obtain ⟨n, t, rfl, hz, h1, h2, h3⟩ := cntR_inv hv
  have hz := congrArg Prod.fst hz
  simp only at hz
  cases hf : fnd L k with
  | some c =>
    obtain ⟨hc, rfl⟩ := fnd_some hf
    obtain ⟨ha, hb⟩ := h.is c hc
    rw [hb] at hz
    obtain ⟨rfl, rfl⟩ := cntD_inj hz
    exact .inl ⟨c, rfl, ha, rfl, h.ok c hc⟩
  | none =>
    have ha := h.no k (fnd_none hf)
    rw [atKey_of_not_has ha] at hz
    obtain ⟨rfl, rfl⟩ := cntD_inj hz
    exact .inr ⟨rfl, ha, rfl⟩

set_option maxHeartbeats 1000000 in
theorem value_any (g b : Nat) (L : List Cn) (k : List UInt8) (now : Int) (hk : k.length ≤ maxLen) (hn : (Lit.int .i64 now).wf = true) (w : World) (h : HeatAt w g b L) :
    Calls Try.prog 15 #[.pointer (some ⟨g, 0, none⟩), .string (bstr k), .int .i64 now] w fun e w' => e = .returned (.int .i64 (valL L k now)) ∧ Below w.heap.size w w' := by
  obtain ⟨hg, D, hown, hR⟩ := h
  have c0 := hg.cell 0
  simp at c0
  have hkey := key_of k hk
  have HK := Lib.hid hkey
  have HN := Lib.hid hn
  have HR := Lib.hid hR
  clear hkey hn hR
  go_enter Try.func15, Try.ntmps15
  go_wp2_with (at_lookup; refine wpList_lookup_own_ok _ rfl _ _ 47 rfl 9 51 klaw Try.underlying47 cntR (zeroCnt _) (cntD 0 0) [] (cntR_mk (by decide)) b _ D rfl hown _ _ rfl HK.out ?_)
  intro v ps hv
  rcases val_of HR.out hv with ⟨c, hf, hh, rfl, hok⟩ | ⟨hf, hh, rfl⟩
  · rw [hh]
    unfold cntV
    have hb1 : Below w.heap.size w (w.alloc (.cells #[.int .i64 c.n, .int .i64 c.tick] 51)) := (Below.refl _ _).alloc (Nat.le_refl _) _
    have W := worth_any c.n c.tick now hok.1 hok.2.1 hok.2.2.1 HN.out
    have hval : worthH c.n c.tick now = valL L k now := by rw [valL, hf]
    have HV := Lib.hid hval
    clear hval hf
    go_wp2_with fail
    refine (W _).mono ?_
    rintro e w2 ⟨rfl, hb2⟩
    have hb2' : Below w.heap.size w w2 := hb1.trans ((Keep.of_below (S := fun _ => False) hb2).mono (S' := fun _ => False) hb1.size (fun _ _ h => h)).below
    go_wp2
    go_ret
    exact ⟨by rw [← HV.out]; rfl, hb2'⟩
  · rw [hh]
    unfold cntV
    have hval : (0 : Int) = valL L k now := by rw [valL, hf]
    have HV := Lib.hid hval
    have hbb : Below w.heap.size w (w.alloc (.cells #[.int .i64 0, .int .i64 0] 51)) := (Below.refl _ _).alloc (Nat.le_refl _) _
    clear hval hf
    go_wp2
    go_ret
    exact ⟨by rw [← HV.out]; rfl, hbb⟩
set_option maxHeartbeats 1000000 in
theorem len_any (g b : Nat) (L : List Cn) (w : World) (h : HeatAt w g b L) :
    Calls Try.prog 17 #[.pointer (some ⟨g, 0, none⟩)] w fun e w' => e = .returned (.int .i64 (L.length : Nat)) ∧ Below w.heap.size w w' := by
  obtain ⟨hg, D, hown, hR⟩ := h
  have c0 := hg.cell 0
  simp at c0
  have HS := Lib.hid hR.size
  clear hR
  go_enter Try.func17, Try.ntmps17
  go_wp2_with (at_len; refine wpList_len_own _ rfl _ 47 rfl 9 51 Try.underlying47 cntR b _ D rfl hown ?_)
  rw [HS.out]
  go_wp2
  go_ret
  exact ⟨rfl, Below.refl _ _⟩
set_option maxHeartbeats 1000000 in
theorem forget_any (g b : Nat) (L : List Cn) (k : List UInt8) (hk : k.length ≤ maxLen) (w : World) (h : HeatAt w g b L) :
    Calls Try.prog 13 #[.pointer (some ⟨g, 0, none⟩), .string (bstr k)] w fun e w' => e = .returned (.tuple #[]) ∧ HeatAt w' g b (without L k) ∧ Keep w.heap.size (· = b) w w' := by
  have hne := h.ne
  have hl := h.lt
  obtain ⟨hg, D, hown, hR⟩ := h
  have c0 := hg.cell 0
  simp at c0
  have hkey := key_of k hk
  have HK := Lib.hid hkey
  have HR := Lib.hid (hR.del k)
  have HG := Lib.hid hg
  clear hkey hR
  go_enter Try.func13, Try.ntmps13
  go_wp2_with (at_delete; refine wpList_delete_own _ rfl _ _ 47 9 rfl 51 klaw Try.underlying47 cntR b _ D rfl hown _ _ rfl HK.out ?_)
  intro w1 hown1 hturn1
  have hgr := hturn1.grown
  have hkp : Keep w.heap.size (· = b) w w1 := (Keep.refl _ _ _).grown hgr (fun k e _ => by cases e; rfl) (Nat.le_refl _)
  have hg1 : HeatAt w1 g b (without L k) := ⟨HG.out.grown hgr (by intro e; cases e; exact hne rfl), _, by have := owns_tight hown1; rwa [HR.out.size] at this, HR.out⟩
  go_wp2
  go_end0
  exact ⟨rfl, hg1, hkp⟩

theorem touched_ok {L : List Cn} (hL : ∀ c ∈ L, c.ok) {k : List UInt8} {now : Int} (hk : k.length ≤ maxLen) (hn : (Lit.int .i64 now).wf = true) : (touched L k now).ok := by
  unfold touched
  cases hf : fnd L k with
  | some c =>
    obtain ⟨hc, rfl⟩ := fnd_some hf
    obtain ⟨h1, h2, h3, h4⟩ := hL c hc
    have := worthH_lo c.n c.tick now h1
    refine ⟨?_, ?_, ?_, hk⟩
    · show 0 ≤ min (worthH c.n c.tick now + 16) 1048576; omega
    · show min (worthH c.n c.tick now + 16) 1048576 ≤ 1048576; omega
    · show (Lit.int .i64 (max now c.tick)).wf = true
      rcases Int.le_total now c.tick with h | h
      · rw [Int.max_eq_right h]; exact h3
      · rw [Int.max_eq_left h]; exact hn
  | none => exact ⟨by show (0 : Int) ≤ 16; omega, by show (16 : Int) ≤ 1048576; omega, hn, hk⟩
theorem touched_key (L : List Cn) (k : List UInt8) (now : Int) : (touched L k now).key = k := by unfold touched; cases fnd L k <;> rfl
theorem touch_len {L : List Cn} (h : (L.map Cn.key).Nodup) (k : List UInt8) (now : Int) : (touchL L k now).length ≤ L.length + 1 := by
  have := without_len (k := k) h
  rw [touchL, List.length_append, List.length_singleton]
  split at this <;> omega
set_option maxHeartbeats 1000000 in
theorem touch_any (g b : Nat) (L : List Cn) (k : List UInt8) (now : Int) (hk : k.length ≤ maxLen) (hn : (Lit.int .i64 now).wf = true) (hL : L.length < 1000000) (w : World) (h : HeatAt w g b L) :
    Calls Try.prog 11 #[.pointer (some ⟨g, 0, none⟩), .string (bstr k), .int .i64 now] w fun e w' => e = .returned (.tuple #[]) ∧ HeatAt w' g b (touchL L k now) ∧ Keep w.heap.size (· = b) w w' := by
  have hne := h.ne
  have hl := h.lt
  obtain ⟨hg, D, hown, hR⟩ := h
  have c0 := hg.cell 0
  simp at c0
  have hkey := key_of k hk
  have HK := Lib.hid hkey
  have HN := Lib.hid hn
  have hokt := touched_ok hR.ok hk hn
  have hput := hR.put (touched L k now) hokt
  have HOK2 := Lib.hid hokt
  rw [touched_key] at hput
  have HP := Lib.hid hput
  have HR := Lib.hid hR
  have HG := Lib.hid hg
  clear hkey hn hR hput hokt
  go_enter Try.func11, Try.ntmps11
  go_wp2_with (at_lookup; refine wpList_lookup_own_ok _ rfl _ _ 47 rfl 9 51 klaw Try.underlying47 cntR (zeroCnt _) (cntD 0 0) [] (cntR_mk (by decide)) b _ D rfl hown _ _ rfl HK.out ?_)
  intro v ps hv
  rcases val_of HR.out hv with ⟨c, hf, hh, rfl, hok⟩ | ⟨hf, hh, rfl⟩
  · rw [hh]
    unfold cntV
    obtain ⟨G, hG⟩ : ∃ G, w.heap.size = G := ⟨_, rfl⟩
    have W := worth_any c.n c.tick now hok.1 hok.2.1 hok.2.2.1 HN.out
    have hz0 := worthH_lo c.n c.tick now hok.1
    have hz1 := worthH_hi c.n c.tick now hok.1
    have hz2 := hok.2.1
    have hto : touched L k now = ⟨k, min (worthH c.n c.tick now + 16) 1048576, max now c.tick⟩ := by rw [touched, hf]
    obtain ⟨z, hz⟩ : ∃ z, worthH c.n c.tick now = z := ⟨_, rfl⟩
    rw [hz] at W hz0 hz1 hto
    have HOK := Lib.hid hok
    have hC : Blk (w.alloc (.cells #[.int .i64 c.n, .int .i64 c.tick] 51)) G 51 #[.int .i64 c.n, .int .i64 c.tick] := blk_at hG
    have hgC : Blk (w.alloc (.cells #[.int .i64 c.n, .int .i64 c.tick] 51)) g 49 #[.map (some b)] := hg.alloc _
    have hoC := hown.alloc (.cells #[.int .i64 c.n, .int .i64 c.tick] 51)
    have hC2 := hC.drew
    have hg2 := hgC.drew
    have k0 := hC2.cell 0
    have k1 := hC2.cell 1
    have k2 := hg2.cell 0
    simp at k0 k1 k2
    obtain ⟨mn, hmn⟩ : ∃ y, min (z + 16) 1048576 = y := ⟨_, rfl⟩
    obtain ⟨mx, hmx⟩ : ∃ y, max now c.tick = y := ⟨_, rfl⟩
    have hmn1 : (if z + 16 < 1048576 then z + 16 else 1048576) = mn := by split <;> omega
    have hmn2 : (if 1048576 < z + 16 then 1048576 else z + 16) = mn := by split <;> omega
    have hmx1 : (if now < c.tick then c.tick else now) = mx := by split <;> omega
    have hmx2 : (if c.tick < now then now else c.tick) = mx := by split <;> omega
    have e16 : IntKind.i64.wrap (z + 16) = z + 16 := IntWalk.i64_in _ ⟨by omega, by omega⟩
    rw [hmn, hmx] at hto
    have HT := Lib.hid hto
    have hok9 := HOK2.out
    rw [hto] at hok9
    have hp9 : Reps (D.put (kL k) (cntD mn mx)) (touchL L k now) := by
      have := HP.out
      rw [hto] at this
      rw [touchL, hto]
      exact this
    have HP9 := Lib.hid hp9
    have HR9 := Lib.hid (cntR_mk ⟨hok9.1, hok9.2.1, hok9.2.2.1⟩)
    have HLM := Lib.hid (show L.length < maxLen by unfold maxLen; omega)
    clear hto hf hok hz hok9 hp9
    go_wp2_with fail
    go_region_held3 (fun w' => w'.cell? ⟨g, 0, none⟩ = some (.map (some b)) ∧ w'.cell? ⟨G, 0, none⟩ = some (.int .i64 c.n) ∧ w'.cell? ⟨G, 1, none⟩ = some (.int .i64 c.tick))
      (first | exact ⟨k2, k0, k1⟩ | exact ⟨m2, m0, m1⟩ | exact ⟨n2, n0, n1⟩ | go_keep)
      (first | (go_simp; go_at_call 21; refine (W _).mono ?_; rintro e w2 ⟨rfl, hb2⟩; have m0 := (hC2.below hb2 hC2.lt).cell 0; have m1 := (hC2.below hb2 hC2.lt).cell 1; have m2 := (hg2.below hb2 hg2.lt).cell 0; simp at m0 m1 m2; obtain ⟨w9, hrun, hown9, hturn9⟩ := (owns_moved (w' := w2) (hoC.drew) (hb2.block b hoC.drew.lt)).store klaw Try.underlying47 HLM.out HK.out HR9.out; unfold cntV at hrun; have hC9 := (hC2.below hb2 hC2.lt).grown hturn9.grown (by intro e; cases e; omega); have hg9 := (hg2.below hb2 hg2.lt).grown hturn9.grown (by intro e; cases e; exact hne rfl); have n0 := hC9.cell 0; have n1 := hC9.cell 1; have n2 := hg9.cell 0; simp at n0 n1 n2; dsimp only))
    all_goals
      have hbb : Below w.heap.size w w2 := hthen (((Below.refl _ _).alloc (Nat.le_refl _) _).drew) hb2
      have hkp : Keep w.heap.size (· = b) w w9 := (Keep.of_below hbb).grown hturn9.grown (fun k e _ => by cases e; rfl) hbb.size
      have hfin : HeatAt w9 g b (touchL L k now) := ⟨hg9, _, by have := owns_tight hown9; rwa [HP9.out.size] at this, HP9.out⟩
      go_end0
      exact ⟨rfl, hfin, hkp⟩
  · rw [hh]
    unfold cntV
    obtain ⟨G, hG⟩ : ∃ G, w.heap.size = G := ⟨_, rfl⟩
    have W := worth_any 0 now now (by omega) (by omega) HN.out HN.out
    have hz0 := worthH_lo 0 now now (by omega)
    have hz1 := worthH_hi 0 now now (by omega)
    have hz : worthH 0 now now = 0 := by unfold worthH; rw [if_pos (Int.le_refl _)]
    have hto : touched L k now = ⟨k, 16, now⟩ := by rw [touched, hf]
    rw [hz] at W
    have hC : Blk (w.alloc (.cells #[.int .i64 0, .int .i64 now] 51)) G 51 #[.int .i64 0, .int .i64 now] := blk_at hG
    have hgC : Blk (w.alloc (.cells #[.int .i64 0, .int .i64 now] 51)) g 49 #[.map (some b)] := hg.alloc _
    have hoC := hown.alloc (.cells #[.int .i64 0, .int .i64 now] 51)
    have hC2 := hC.drew
    have hg2 := hgC.drew
    have k0 := hC2.cell 0
    have k1 := hC2.cell 1
    have k2 := hg2.cell 0
    simp at k0 k1 k2
    have hw16 : IntKind.i64.wrap 16 = 16 := by decide
    have e16 : (16 : Int) < 1048576 := by decide
    have hmx : max now now = now := Int.max_self _
    have HT := Lib.hid hto
    have hok9 := HOK2.out
    rw [hto] at hok9
    have hp9 : Reps (D.put (kL k) (cntD 16 now)) (touchL L k now) := by
      have := HP.out
      rw [hto] at this
      rw [touchL, hto]
      exact this
    have HP9 := Lib.hid hp9
    have HR9 := Lib.hid (cntR_mk ⟨hok9.1, hok9.2.1, hok9.2.2.1⟩)
    have HLM := Lib.hid (show L.length < maxLen by unfold maxLen; omega)
    clear hto hf hz hok9 hp9
    go_wp2_with fail
    go_region_held3 (fun w' => w'.cell? ⟨g, 0, none⟩ = some (.map (some b)) ∧ w'.cell? ⟨G, 0, none⟩ = some (.int .i64 0) ∧ w'.cell? ⟨G, 1, none⟩ = some (.int .i64 now))
      (first | exact ⟨k2, k0, k1⟩ | exact ⟨m2, m0, m1⟩ | exact ⟨n2, n0, n1⟩ | go_keep)
      (first | (go_simp; go_at_call 21; refine (W _).mono ?_; rintro e w2 ⟨rfl, hb2⟩; have m0 := (hC2.below hb2 hC2.lt).cell 0; have m1 := (hC2.below hb2 hC2.lt).cell 1; have m2 := (hg2.below hb2 hg2.lt).cell 0; simp at m0 m1 m2; obtain ⟨w9, hrun, hown9, hturn9⟩ := (owns_moved (w' := w2) (hoC.drew) (hb2.block b hoC.drew.lt)).store klaw Try.underlying47 HLM.out HK.out HR9.out; unfold cntV at hrun; have hC9 := (hC2.below hb2 hC2.lt).grown hturn9.grown (by intro e; cases e; omega); have hg9 := (hg2.below hb2 hg2.lt).grown hturn9.grown (by intro e; cases e; exact hne rfl); have n0 := hC9.cell 0; have n1 := hC9.cell 1; have n2 := hg9.cell 0; simp at n0 n1 n2; dsimp only))
    all_goals
      have hbb : Below w.heap.size w w2 := hthen (((Below.refl _ _).alloc (Nat.le_refl _) _).drew) hb2
      have hkp : Keep w.heap.size (· = b) w w9 := (Keep.of_below hbb).grown hturn9.grown (fun k e _ => by cases e; rfl) hbb.size
      have hfin : HeatAt w9 g b (touchL L k now) := ⟨hg9, _, by have := owns_tight hown9; rwa [HP9.out.size] at this, HP9.out⟩
      go_end0
      exact ⟨rfl, hfin, hkp⟩
end Go.Proofs.Ytefobchpcdniiaa
