/- Package dev: forget, Lose: contracts. -/
import Derived.Test.YtcamcjcmhjldpaaDoorDvD
namespace Go.Proofs.YtcamcjcmhjldpaaDoor
open Go.RowKit
set_option linter.unusedSimpArgs false
set_option linter.unnecessarySimpa false
set_option linter.unusedVariables false

theorem DvAt.setWs' {w w1 : World} {g b0 b1 : Nat} {v u : Value} {d : Dv} {l : List Wr} (h : DvAt w g b0 b1 v d) (hk : Keep w.heap.size (fun k => zblock v = some k) w w1) (hu : Owns w1 82 3 u l.length (wrsV l)) : DvAt (w1.setCell ⟨g, 4, none⟩ u) g b0 b1 u { d with ws := l } := by
  obtain ⟨c0, c1, hg, h0, h1⟩ := h.hx
  have n0 := h.ng0
  have n1 := h.ng1
  have hg1 := hg.keep hk hg.lt h.zg
  have r0 := row_keep h0 hk (fun k e => by cases e; exact ⟨row_lt h0, h.z0⟩)
  have r1 := row_keep h1 hk (fun k e => by cases e; exact ⟨row_lt h1, h.z1⟩)
  refine ⟨⟨c0, c1, ?_, row_set r0 (by intro e; cases e; exact n0 rfl) _, row_set r1 (by intro e; cases e; exact n1 rfl) _⟩, hu.set (hu.ne hg1 (by decide)) _, h.ne⟩
  have := hg1.set_ 4 u
  simpa using this
theorem DvAt.cell4' {w w1 : World} {g b0 b1 : Nat} {v : Value} {d : Dv} (h : DvAt w g b0 b1 v d) (hk : Keep w.heap.size (fun k => zblock v = some k) w w1) : w1.cell? ⟨g, 4, none⟩ = some v ∧ w1.frozen? ⟨g, 4, none⟩ = false := by
  obtain ⟨c0, c1, hg, h0, h1⟩ := h.hx
  have hg1 := hg.keep hk hg.lt h.zg
  have y := hg1.cell 4
  simp at y
  exact ⟨y, hg1.frozen 4⟩

set_option maxHeartbeats 1000000 in
theorem forl_any (g b0 b1 : Nat) (v : Value) (d : Dv) (kb : Nat) (w : World) (dv : Int) (hb : Blk w kb 3 #[.int .i64 dv]) (hn : d.ws.length ≤ 100000) (h : DvAt w g b0 b1 v d) :
    Calls Tryd.prog 46 #[.pointer (some ⟨g, 0, none⟩), .func (.func 50) #[] #[.pointer (some ⟨kb, 0, none⟩)]] w fun e w' => (∃ v', e = .returned (.tuple #[]) ∧ DvAt w' g b0 b1 v' { d with ws := d.ws.filter (fun x => !(x.loc.dev == dv)) } ∧ zblock v' = zblock v) ∧ Keep w.heap.size (fun k => k = g ∨ zblock v = some k) w w' := by
  obtain ⟨y4, f4⟩ := h.cell4
  go_enter Tryd.func46, Tryd.ntmps46
  go_wp2_with fail
  refine (dell_any v d.ws kb w dv hb h.hw hn).mono ?_
  rintro e w1 ⟨⟨v', rfl, hu, hz⟩, k1⟩
  obtain ⟨z4, f5⟩ := h.cell4' k1
  have hd := h.setWs' k1 hu
  have HD := Lib.hid hd
  clear hd y4 f4
  obtain ⟨A, c, rfl, _, _⟩ := hu.form
  go_wp2
  go_end0
  exact ⟨⟨_, rfl, HD.out, hz⟩, (k1.mono (Nat.le_refl _) (fun _ _ h => .inr h)).setCell (p := ⟨g, 4, none⟩) (.inr (.inl rfl)) _⟩
set_option maxHeartbeats 1000000 in
theorem fors_any (g b0 b1 : Nat) (v : Value) (d : Dv) (kb : Nat) (w : World) (lc : Lc) (hb : Blk w kb 51 #[.int .i64 lc.dev, .int .i64 lc.pos]) (hn : d.ws.length ≤ 100000) (h : DvAt w g b0 b1 v d) :
    Calls Tryd.prog 46 #[.pointer (some ⟨g, 0, none⟩), .func (.func 47) #[] #[.pointer (some ⟨kb, 0, none⟩)]] w fun e w' => (∃ v', e = .returned (.tuple #[]) ∧ DvAt w' g b0 b1 v' { d with ws := d.ws.filter (fun x => !decide (x.loc = lc)) } ∧ zblock v' = zblock v) ∧ Keep w.heap.size (fun k => k = g ∨ zblock v = some k) w w' := by
  obtain ⟨y4, f4⟩ := h.cell4
  go_enter Tryd.func46, Tryd.ntmps46
  go_wp2_with fail
  refine (dels_any v d.ws kb w lc hb h.hw hn).mono ?_
  rintro e w1 ⟨⟨v', rfl, hu, hz⟩, k1⟩
  obtain ⟨z4, f5⟩ := h.cell4' k1
  have hd := h.setWs' k1 hu
  have HD := Lib.hid hd
  clear hd y4 f4
  obtain ⟨A, c, rfl, _, _⟩ := hu.form
  go_wp2
  go_end0
  exact ⟨⟨_, rfl, HD.out, hz⟩, (k1.mono (Nat.le_refl _) (fun _ _ h => .inr h)).setCell (p := ⟨g, 4, none⟩) (.inr (.inl rfl)) _⟩

theorem zero_str (w : World) : (zeroValue 9).run Tryd.prog w = .ok (.string ⟨#[]⟩) w := by kernel_rfl
theorem zeros_strs (n : Nat) : (Builtin.zeroCells (Value.string ⟨#[]⟩).cells n).toList = secV (List.replicate n []) := by
  simp only [Value.cells, Builtin.zeroCells, secV]
  apply List.ext_getElem
  · simp
  · intro i h1 h2
    simp [Nat.mod_one]

set_option maxHeartbeats 2000000 in
theorem lose0 (g b0 b1 : Nat) (v : Value) (d : Dv) (hs : 0 < d.s0.length) (hn : d.ws.length ≤ 100000) (w : World) (h : DvAt w g b0 b1 v d) :
    Calls Tryd.prog 22 #[.pointer (some ⟨g, 0, none⟩), .int .i64 0] w fun e w' => (∃ v', e = .returned (.int .i64 0) ∧ DvAt w' g b0 b1 v' { d with s0 := List.replicate d.s0.length [], l0 := true, ws := d.ws.filter (fun x => !(x.loc.dev == 0)) } ∧ zblock v' = zblock v) ∧ Keep w.heap.size (dvB g b0 b1 v) w w' := by
  go_enter Tryd.func22, Tryd.ntmps22
  go_wp2_with fail
  obtain ⟨kb, hkb⟩ : ∃ g, w.heap.size = g := ⟨_, rfl⟩
  obtain ⟨w0, hw0⟩ : ∃ x, w.alloc (.cells #[.int .i64 0] 3) = x := ⟨_, rfl⟩
  have bx : Below w.heap.size w w0 := by rw [← hw0]; exact (Below.refl _ _).alloc (Nat.le_refl _) _
  have hx : Blk w0 kb 3 #[.int .i64 0] := by rw [← hw0, ← hkb]; exact Blk.new _ _ _
  rw [hw0]
  try rw [hkb]
  have h0 := h.below bx
  refine (is_to (show isB 0 = true from rfl) g w0).mono ?_
  rintro e _ ⟨rfl, rfl⟩
  obtain ⟨c0, c1, hg, r0, r1⟩ := h0.hx
  have y0 := hg.cell 0
  have y2 := hg.cell 2
  have f2 := hg.frozen 2
  simp at y0 y2
  have x0 := hx.cell 0
  simp at x0
  have nkg : kb ≠ g := by have := h.lt (k := g) (.inl rfl); omega
  have z0 : ∀ u, (w0.drew.setCell ⟨g, 2, none⟩ u).cell? ⟨kb, 0, none⟩ = some (.int .i64 0) := fun u => by have := ((hx.drew).far (p := ⟨g, 2, none⟩) nkg u).cell 0; simpa using this
  go_wp2_with fail
  go_region_held3 (fun w' => w'.cell? ⟨kb, 0, none⟩ = some (.int .i64 0))
    (first | exact x0 | exact z0 _ | go_keep)
    (fail)
  obtain ⟨w2, hw2⟩ : ∃ x, (w0.setCell ⟨g, 2, none⟩ (.bool true)).drew = x := ⟨_, rfl⟩
  rw [hw2]
  have hd2 : DvAt w2 g b0 b1 v { d with l0 := true } := by
    rw [← hw2]
    have n0 := h.ng0
    have n1 := h.ng1
    refine DvAt.drew ⟨⟨c0, c1, ?_, row_set r0 (by intro e; cases e; exact n0 rfl) _, row_set r1 (by intro e; cases e; exact n1 rfl) _⟩, h0.hw.set h0.zg _, h.ne⟩
    have := hg.set_ 2 (.bool true)
    simpa using this
  have k2 : Keep w.heap.size (· = g) w w2 := by rw [← hw2]; exact ((Keep.of_below bx).set1 _ _).drew
  have hx2 : Blk w2 kb 3 #[.int .i64 0] := by rw [← hw2]; exact (hx.far (p := ⟨g, 2, none⟩) nkg _).drew
  clear x0 y0 y2 f2 z0 hg r0 r1
  obtain ⟨e0, e1, hg, r0, r1⟩ := hd2.hx
  obtain ⟨w9, hcl9, ho9, hg9⟩ := row_cleared (P := Tryd.prog) w2.drew 53 9 _ 1 Tryd.underlying53 zero_str rfl (by simp [Value.cells, Value.oneCell']) b0 d.s0.length e0 e0 0 d.s0.length (secV d.s0) r0.drew (by omega) hs
  have x0 := hx2.cell 0
  have y0 := hg.cell 0
  simp at x0 y0
  have hlt0 : (0 : Int) < d.s0.length := by omega
  have nb := h.lt (k := b0) (.inr (.inl rfl))
  have nkb : kb ≠ b0 := by omega
  have hg9' := hg.drew.grown hg9 (fun e => by cases e; exact h.ng0 rfl)
  have hx9' := hx2.drew.grown hg9 (fun e => by cases e; exact nkb rfl)
  have x9 := hx9'.cell 0
  have y9 := hg9'.cell 0
  simp at x9 y9
  go_wp2_with fail
  go_region_held3 (fun w' => w'.cell? ⟨kb, 0, none⟩ = some (.int .i64 0) ∧ w'.cell? ⟨g, 0, none⟩ = some (.slice (some ⟨b0, 0, none⟩) d.s0.length e0))
    (first | exact ⟨x0, y0⟩ | exact ⟨x9, y9⟩ | go_keep)
    (fail)
  have hd9 : DvAt w9 g b0 b1 v { d with s0 := List.replicate d.s0.length [], l0 := true } := by
    refine ⟨⟨e0, e1, by simpa using hg9', ?_, row_grown r1.drew hg9 (fun k e => by cases e; intro e; cases e; exact h.ne rfl)⟩, hd2.hw.drew.grown hg9 (fun k e e2 => by cases e2; exact h.z0 e), h.ne⟩
    rw [Nat.zero_mul, List.take_zero, List.nil_append, zeros_strs] at ho9
    simpa using ho9
  have k9 : Keep w.heap.size (dvB g b0 b1 v) w w9 := (k2.mono (Nat.le_refl _) (fun _ _ e => .inl e)).drew.grown hg9 (fun k e _ => by cases e; exact .inr (.inl rfl)) k2.size
  clear x0 y0 x9 y9 hg r0 r1 hg9' ho9 hg9 hcl9
  go_wp2_with fail
  refine (forl_any g b0 b1 v { d with s0 := List.replicate d.s0.length [], l0 := true } kb w9 0 hx9' hn hd9).mono ?_
  rintro e w10 ⟨⟨v', rfl, hd10, hz⟩, k10⟩
  go_wp2
  go_ret
  exact ⟨⟨v', rfl, hd10, hz⟩, k9.trans (k10.mono k9.size (fun k _ e => by rcases e with e | e; exact .inl e; exact .inr (.inr (.inr e))))⟩

set_option maxHeartbeats 2000000 in
theorem lose1 (g b0 b1 : Nat) (v : Value) (d : Dv) (hs : 0 < d.s1.length) (hn : d.ws.length ≤ 100000) (w : World) (h : DvAt w g b0 b1 v d) :
    Calls Tryd.prog 22 #[.pointer (some ⟨g, 0, none⟩), .int .i64 1] w fun e w' => (∃ v', e = .returned (.int .i64 0) ∧ DvAt w' g b0 b1 v' { d with s1 := List.replicate d.s1.length [], l1 := true, ws := d.ws.filter (fun x => !(x.loc.dev == 1)) } ∧ zblock v' = zblock v) ∧ Keep w.heap.size (dvB g b0 b1 v) w w' := by
  go_enter Tryd.func22, Tryd.ntmps22
  go_wp2_with fail
  obtain ⟨kb, hkb⟩ : ∃ g, w.heap.size = g := ⟨_, rfl⟩
  obtain ⟨w0, hw0⟩ : ∃ x, w.alloc (.cells #[.int .i64 1] 3) = x := ⟨_, rfl⟩
  have bx : Below w.heap.size w w0 := by rw [← hw0]; exact (Below.refl _ _).alloc (Nat.le_refl _) _
  have hx : Blk w0 kb 3 #[.int .i64 1] := by rw [← hw0, ← hkb]; exact Blk.new _ _ _
  rw [hw0]
  try rw [hkb]
  have h0 := h.below bx
  refine (is_to (show isB 1 = true from rfl) g w0).mono ?_
  rintro e _ ⟨rfl, rfl⟩
  obtain ⟨c0, c1, hg, r0, r1⟩ := h0.hx
  have y0 := hg.cell 1
  have y2 := hg.cell 3
  have f2 := hg.frozen 3
  simp at y0 y2
  have x0 := hx.cell 0
  simp at x0
  have nkg : kb ≠ g := by have := h.lt (k := g) (.inl rfl); omega
  have z0 : ∀ u, (w0.drew.setCell ⟨g, 3, none⟩ u).cell? ⟨kb, 0, none⟩ = some (.int .i64 1) := fun u => by have := ((hx.drew).far (p := ⟨g, 3, none⟩) nkg u).cell 0; simpa using this
  go_wp2_with fail
  go_region_held3 (fun w' => w'.cell? ⟨kb, 0, none⟩ = some (.int .i64 1))
    (first | exact x0 | exact z0 _ | go_keep)
    (fail)
  obtain ⟨w2, hw2⟩ : ∃ x, (w0.setCell ⟨g, 3, none⟩ (.bool true)).drew = x := ⟨_, rfl⟩
  rw [hw2]
  have hd2 : DvAt w2 g b0 b1 v { d with l1 := true } := by
    rw [← hw2]
    have n0 := h.ng0
    have n1 := h.ng1
    refine DvAt.drew ⟨⟨c0, c1, ?_, row_set r0 (by intro e; cases e; exact n0 rfl) _, row_set r1 (by intro e; cases e; exact n1 rfl) _⟩, h0.hw.set h0.zg _, h.ne⟩
    have := hg.set_ 3 (.bool true)
    simpa using this
  have k2 : Keep w.heap.size (· = g) w w2 := by rw [← hw2]; exact ((Keep.of_below bx).set1 _ _).drew
  have hx2 : Blk w2 kb 3 #[.int .i64 1] := by rw [← hw2]; exact (hx.far (p := ⟨g, 3, none⟩) nkg _).drew
  clear x0 y0 y2 f2 z0 hg r0 r1
  obtain ⟨e0, e1, hg, r0, r1⟩ := hd2.hx
  obtain ⟨w9, hcl9, ho9, hg9⟩ := row_cleared (P := Tryd.prog) w2.drew 53 9 _ 1 Tryd.underlying53 zero_str rfl (by simp [Value.cells, Value.oneCell']) b1 d.s1.length e1 e1 0 d.s1.length (secV d.s1) r1.drew (by omega) hs
  have x0 := hx2.cell 0
  have y0 := hg.cell 1
  simp at x0 y0
  have hlt0 : (1 : Int) < 2 := by omega
  have nb := h.lt (k := b1) (.inr (.inr (.inl rfl)))
  have nkb : kb ≠ b1 := by omega
  have hg9' := hg.drew.grown hg9 (fun e => by cases e; exact h.ng1 rfl)
  have hx9' := hx2.drew.grown hg9 (fun e => by cases e; exact nkb rfl)
  have x9 := hx9'.cell 0
  have y9 := hg9'.cell 1
  simp at x9 y9
  go_wp2_with fail
  go_region_held3 (fun w' => w'.cell? ⟨kb, 0, none⟩ = some (.int .i64 1) ∧ w'.cell? ⟨g, 1, none⟩ = some (.slice (some ⟨b1, 0, none⟩) d.s1.length e1))
    (first | exact ⟨x0, y0⟩ | exact ⟨x9, y9⟩ | go_keep)
    (fail)
  have hd9 : DvAt w9 g b0 b1 v { d with s1 := List.replicate d.s1.length [], l1 := true } := by
    refine ⟨⟨e0, e1, by simpa using hg9', row_grown r0.drew hg9 (fun k e => by cases e; intro e; cases e; exact h.ne rfl), ?_⟩, hd2.hw.drew.grown hg9 (fun k e e2 => by cases e2; exact h.z1 e), h.ne⟩
    rw [Nat.zero_mul, List.take_zero, List.nil_append, zeros_strs] at ho9
    simpa using ho9
  have k9 : Keep w.heap.size (dvB g b0 b1 v) w w9 := (k2.mono (Nat.le_refl _) (fun _ _ e => .inl e)).drew.grown hg9 (fun k e _ => by cases e; exact .inr (.inr (.inl rfl))) k2.size
  clear x0 y0 x9 y9 hg r0 r1 hg9' ho9 hg9 hcl9
  go_wp2_with fail
  refine (forl_any g b0 b1 v { d with s1 := List.replicate d.s1.length [], l1 := true } kb w9 1 hx9' hn hd9).mono ?_
  rintro e w10 ⟨⟨v', rfl, hd10, hz⟩, k10⟩
  go_wp2
  go_ret
  exact ⟨⟨v', rfl, hd10, hz⟩, k9.trans (k10.mono k9.size (fun k _ e => by rcases e with e | e; exact .inl e; exact .inr (.inr (.inr e))))⟩

/-- a sector is spoilt: what waits for it waits no more -/
def Dv.spoil (d : Dv) (x : Wr) : Dv := ({ d with ws := d.ws.filter (fun y => !decide (y.loc = x.loc)) } : Dv).put x
set_option maxHeartbeats 1000000 in
theorem spoil_ok (g b0 b1 : Nat) (v : Value) (d : Dv) (l : Lc) (s : List UInt8) (he : Hid (mayE d l s = 0)) (hn : d.ws.length ≤ 100000) (w : World) (h : DvAt w g b0 b1 v d) :
    Calls Tryd.prog 21 #[.pointer (some ⟨g, 0, none⟩), .agg #[.int .i64 l.dev, .int .i64 l.pos], .string (bstr s)] w fun e w' => (∃ v', e = .returned (.int .i64 0) ∧ DvAt w' g b0 b1 v' (d.spoil ⟨l, s⟩) ∧ zblock v' = zblock v) ∧ Keep w.heap.size (dvB g b0 b1 v) w w' := by
  go_enter Tryd.func21, Tryd.ntmps21
  go_wp2_with fail
  obtain ⟨kb, hkb⟩ : ∃ g, w.heap.size = g := ⟨_, rfl⟩
  obtain ⟨w0, hw0⟩ : ∃ x, w.alloc (.cells #[.int .i64 l.dev, .int .i64 l.pos] 51) = x := ⟨_, rfl⟩
  have bx : Below w.heap.size w w0 := by rw [← hw0]; exact (Below.refl _ _).alloc (Nat.le_refl _) _
  have hx : Blk w0 kb 51 #[.int .i64 l.dev, .int .i64 l.pos] := by rw [← hw0, ← hkb]; exact Blk.new _ _ _
  rw [hw0]
  try rw [hkb]
  have h0 := h.below bx
  refine (may_to he.out g b0 b1 v w0 h0).mono ?_
  rintro e w1 ⟨rfl, c1⟩
  have h1 := h0.below c1
  have hx1 := hx.below c1 hx.lt
  have k1 := bx.trans (c1.mono bx.size)
  go_wp2_with fail
  refine (fors_any g b0 b1 v d kb w1 l hx1 hn h1).mono ?_
  rintro e w2 ⟨⟨v', rfl, hd2, hz⟩, k2⟩
  have nkg : kb ≠ g := by have := h.lt (k := g) (.inl rfl); omega
  have hkv : zblock v ≠ some kb := by intro e; have := h.hw.lt e; omega
  have hx2 := hx1.keep k2 hx1.lt (by rintro (e | e); exact nkg e; exact hkv e)
  have y0 := hx2.cell 0
  have y1 := hx2.cell 1
  simp at y0 y1
  have hhas : Hid (({ d with ws := d.ws.filter (fun y => !decide (y.loc = l)) } : Dv).has (⟨l, s⟩ : Wr).loc) := by
    have := he.out
    unfold mayE at this
    split at this
    · cases this
    · rename_i hh
      simp at hh
      refine Lib.hid ⟨?_, hh.2.1, ?_⟩
      · simpa using hh.1
      · have := hh.2.2.1
        unfold Dv.sec at this ⊢
        exact this
  go_wp2_with fail
  refine (dput_any g b0 b1 v' { d with ws := d.ws.filter (fun y => !decide (y.loc = l)) } ⟨l, s⟩ hhas.out w2 hd2).mono ?_
  rintro e w3 ⟨rfl, hd3, k3⟩
  go_wp2
  go_ret
  exact ⟨⟨v', rfl, hd3, hz⟩, ((Keep.of_below k1).trans (k2.mono k1.size (fun k _ e => by rcases e with e | e; exact .inl e; exact .inr (.inr (.inr e))))).trans (k3.mono (Nat.le_trans k1.size k2.size) (fun k _ e => by rcases e with e | e; exact .inr (.inl e); exact .inr (.inr (.inl e))))⟩
theorem spoil_bad {e0 : Int} (g b0 b1 : Nat) (v : Value) (d : Dv) (l : Lc) (s : List UInt8) (he : Hid (mayE d l s = e0)) (hz : (e0 != 0) = true) (w : World) (h : DvAt w g b0 b1 v d) :
    Calls Tryd.prog 21 #[.pointer (some ⟨g, 0, none⟩), .agg #[.int .i64 l.dev, .int .i64 l.pos], .string (bstr s)] w fun e w' => e = .returned (.int .i64 e0) ∧ Below w.heap.size w w' := by
  go_enter Tryd.func21, Tryd.ntmps21
  go_wp2_with fail
  obtain ⟨G, hG⟩ : ∃ g, w.heap.size = g := ⟨_, rfl⟩
  obtain ⟨w0, hw0⟩ : ∃ x, w.alloc (.cells #[.int .i64 l.dev, .int .i64 l.pos] 51) = x := ⟨_, rfl⟩
  have bx : Below w.heap.size w w0 := by rw [← hw0]; exact (Below.refl _ _).alloc (Nat.le_refl _) _
  rw [hw0]
  try rw [hG]
  refine (may_to he.out g b0 b1 v w0 (h.below bx)).mono ?_
  rintro e w1 ⟨rfl, c1⟩
  go_wp2
  go_ret
  exact ⟨rfl, bx.trans (c1.mono bx.size)⟩
theorem spoil_nil (l : Lc) (s : List UInt8) (w : World) :
    Calls Tryd.prog 21 #[.pointer none, .agg #[.int .i64 l.dev, .int .i64 l.pos], .string (bstr s)] w fun e w' => e = .returned (.int .i64 1) ∧ Below w.heap.size w w' := by
  go_enter Tryd.func21, Tryd.ntmps21
  go_wp2_with fail
  obtain ⟨G, hG⟩ : ∃ g, w.heap.size = g := ⟨_, rfl⟩
  obtain ⟨w0, hw0⟩ : ∃ x, w.alloc (.cells #[.int .i64 l.dev, .int .i64 l.pos] 51) = x := ⟨_, rfl⟩
  have bx : Below w.heap.size w w0 := by rw [← hw0]; exact (Below.refl _ _).alloc (Nat.le_refl _) _
  rw [hw0]
  try rw [hG]
  refine (may_nil l s w0).mono ?_
  rintro e w1 ⟨rfl, c1⟩
  go_wp2
  go_ret
  exact ⟨rfl, bx.trans (c1.mono bx.size)⟩
theorem lose_bad (g b0 b1 : Nat) (v : Value) (d : Dv) (dev : Int) (hb : Hid (isB dev = false)) (w : World) (h : DvAt w g b0 b1 v d) :
    Calls Tryd.prog 22 #[.pointer (some ⟨g, 0, none⟩), .int .i64 dev] w fun e w' => e = .returned (.int .i64 1) ∧ Below w.heap.size w w' := by
  go_enter Tryd.func22, Tryd.ntmps22
  go_wp2_with fail
  obtain ⟨G, hG⟩ : ∃ g, w.heap.size = g := ⟨_, rfl⟩
  obtain ⟨w0, hw0⟩ : ∃ x, w.alloc (.cells #[.int .i64 dev] 3) = x := ⟨_, rfl⟩
  have bx : Below w.heap.size w w0 := by rw [← hw0]; exact (Below.refl _ _).alloc (Nat.le_refl _) _
  rw [hw0]
  try rw [hG]
  refine (is_to hb.out g w0).mono ?_
  rintro e _ ⟨rfl, rfl⟩
  go_wp2
  go_ret
  exact ⟨rfl, bx⟩
theorem lose_nil (dev : Int) (w : World) :
    Calls Tryd.prog 22 #[.pointer none, .int .i64 dev] w fun e w' => e = .returned (.int .i64 1) ∧ Below w.heap.size w w' := by
  go_enter Tryd.func22, Tryd.ntmps22
  go_wp2_with fail
  obtain ⟨G, hG⟩ : ∃ g, w.heap.size = g := ⟨_, rfl⟩
  obtain ⟨w0, hw0⟩ : ∃ x, w.alloc (.cells #[.int .i64 dev] 3) = x := ⟨_, rfl⟩
  have bx : Below w.heap.size w w0 := by rw [← hw0]; exact (Below.refl _ _).alloc (Nat.le_refl _) _
  rw [hw0]
  try rw [hG]
  refine (is_nil dev w0).mono ?_
  rintro e _ ⟨rfl, rfl⟩
  go_wp2
  go_ret
  exact ⟨rfl, bx⟩

theorem done_nil (f : Value) (w : World) :
    Calls Tryd.prog 41 #[.pointer none, f] w fun e w' => e = .returned (.int .i64 1) ∧ w = w' := by
  go_enter Tryd.func41, Tryd.ntmps41
  go_wp2
  go_ret
  exact ⟨rfl, rfl⟩
theorem flush_nil (w : World) :
    Calls Tryd.prog 18 #[.pointer none] w fun e w' => e = .returned (.int .i64 1) ∧ w = w' := by
  go_enter Tryd.func18, Tryd.ntmps18
  go_wp2_with fail
  refine (done_nil _ w).mono ?_
  rintro e _ ⟨rfl, rfl⟩
  go_wp2
  go_ret
  exact ⟨rfl, rfl⟩
theorem crash_nil (A : Option Addr) (n c : Nat) (w : World) :
    Calls Tryd.prog 19 #[.pointer none, .slice A n c] w fun e w' => e = .returned (.int .i64 1) ∧ Below w.heap.size w w' := by
  go_enter Tryd.func19, Tryd.ntmps19
  go_wp2_with fail
  obtain ⟨kb, hkb⟩ : ∃ g, w.heap.size = g := ⟨_, rfl⟩
  obtain ⟨w0, hw0⟩ : ∃ x, w.alloc (.cells #[.slice A n c] 38) = x := ⟨_, rfl⟩
  have bx : Below w.heap.size w w0 := by rw [← hw0]; exact (Below.refl _ _).alloc (Nat.le_refl _) _
  rw [hw0]
  try rw [hkb]
  refine (done_nil _ w0).mono ?_
  rintro e _ ⟨rfl, rfl⟩
  go_wp2
  go_ret
  exact ⟨rfl, bx⟩

end Go.Proofs.YtcamcjcmhjldpaaDoor
