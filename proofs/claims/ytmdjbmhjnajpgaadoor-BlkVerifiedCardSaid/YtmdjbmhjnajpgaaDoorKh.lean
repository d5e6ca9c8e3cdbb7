/- Package blk for the walks of laws: Write, Mend on devices in use; alike, Bools, verified. -/
import Derived.Test.YtmdjbmhjnajpgaaDoorKg
import Derived.Test.YtmdjbmhjnajpgaaDoorOfb
namespace Go.Proofs.YtmdjbmhjnajpgaaDoor
open Go Go.RowKit
set_option linter.unusedSimpArgs false
set_option linter.unnecessarySimpa false
set_option linter.unusedVariables false

/-- places that a walk has made, apart from the devices' blocks -/
def PtOn (S : Nat → Prop) (w : World) (v : Value) (l : List Lc) : Prop := LocsOn (fun j => j < w.heap.size ∧ ¬ S j) w v l
section
variable {S S2 : Nat → Prop} {w w' : World} {v : Value} {l : List Lc}
theorem PtOn.below (h : PtOn S w v l) (k : Below w.heap.size w w') : PtOn S w' v l := (LocsOn.keep h (fun j hj => k.block j hj.1)).weak (fun j hj => ⟨Nat.lt_of_lt_of_le hj.1 k.size, hj.2⟩)
theorem PtOn.post (h : PtOn S w v l) (gS : ∀ j, S2 j → S j ∨ w.heap.size ≤ j) (kS : Keep w.heap.size S w w') : PtOn S2 w' v l := (LocsOn.keep h (fun j hj => kS.block j hj.1 hj.2)).weak (fun j hj => ⟨Nat.lt_of_lt_of_le hj.1 kS.size, fun e => (gS j e).elim hj.2 (fun e => by omega)⟩)
theorem PtOn.at_ (h : PtOn S w v l) : LocsAt w.heap.size w v l := LocsOn.at_ h (fun j e => e.1)
end
theorem wrK_two {a b : Lc} {load : List UInt8} {d : Dv} : wrK [a, b] load d 2 = (d.write a load).write b load := by simp [wrK]
/-- Write where it goes well -/
theorem bwr_ok {p : Pt} {d d2 : Dv} {load : List UInt8} {birth : Int} (hp : p = ⟨p.locs, load.length, birth, shaL load⟩) (hck : ckE p = 0) (hsz : ∀ l ∈ p.locs, l.pos < if isB l.dev then ((d.sec l.dev).length : Int) else 0) (hg : p.locs.any (goneL d) = false) (hd : wrK p.locs load d p.locs.length = d2) (hn : d.ws.length ≤ 90000)
    (S : Nat → Prop) (g : Nat) (v : Value) (w wi : World) (hb : Below w.heap.size w wi) (hR : RootsAt wi) (hv : PtOn S wi v p.locs) (h : Lv w wi S g d) :
    Calls Tryd.prog 10 #[.pointer (some ⟨g, 0, none⟩), v, .string (bstr load), .int .i64 birth] wi fun e wj => ∃ u S', e = .returned (.tuple #[.agg #[u, .int .i64 p.len, .int .i64 p.birth, .string (bstr p.sum)], .int .i64 0]) ∧ Lv w wj S' g d2 ∧ (∀ j, S' j → S j ∨ wi.heap.size ≤ j) ∧ Keep wi.heap.size S wi wj ∧ Below w.heap.size w wj ∧ PtOn S' wj u p.locs := by
  subst hd
  obtain ⟨ls, ln, bi, su⟩ := p
  simp only [Pt.mk.injEq, true_and] at hp
  obtain ⟨rfl, rfl, rfl⟩ := hp
  refine (write_dev S g d v ls load bi hck hsz hn w wi hb hR hv h).mono ?_
  rintro e wj ⟨-, hx⟩
  obtain ⟨u, S', rfl, h1, h2, h3, h4, h5⟩ := hx hg
  exact ⟨u, S', rfl, h1, h2, h3, h4, h5.weak (fun j hj => ⟨hj.2.1, hj.2.2⟩)⟩
theorem bwr_gone {p : Pt} {d : Dv} {load : List UInt8} {birth : Int} (hp : p = ⟨p.locs, load.length, birth, shaL load⟩) (hck : ckE p = 0) (hsz : ∀ l ∈ p.locs, l.pos < if isB l.dev then ((d.sec l.dev).length : Int) else 0) (hg : p.locs.any (goneL d) = true) (hn : d.ws.length ≤ 90000)
    (S : Nat → Prop) (g : Nat) (v : Value) (w wi : World) (hb : Below w.heap.size w wi) (hR : RootsAt wi) (hv : PtOn S wi v p.locs) (h : Lv w wi S g d) :
    Calls Tryd.prog 10 #[.pointer (some ⟨g, 0, none⟩), v, .string (bstr load), .int .i64 birth] wi fun e wj => e = .returned (.tuple #[.agg #[.slice none 0 0, .int .i64 0, .int .i64 0, .string ⟨#[]⟩], .int .i64 5]) ∧ Below wi.heap.size wi wj := by
  obtain ⟨ls, ln, bi, su⟩ := p
  simp only [Pt.mk.injEq, true_and] at hp
  obtain ⟨rfl, rfl, rfl⟩ := hp
  refine (write_dev S g d v ls load bi hck hsz hn w wi hb hR hv h).mono ?_
  rintro e wj ⟨hx, -⟩
  exact hx hg
theorem mend_to {p : Pt} {d d2 : Dv} {x : List UInt8} {i : Int} {n : Nat} (hx : readB d.read p = ((x, i), 0)) (hm : mendK p.locs (goodAt d.read p) x d p.locs.length = (d2, n)) (hn : d.ws.length ≤ 90000)
    (S : Nat → Prop) (g : Nat) (v : Value) (w wi : World) (hb : Below w.heap.size w wi) (hR : RootsAt wi) (hv : PtOn S wi v p.locs) (h : Lv w wi S g d) :
    Calls Tryd.prog 14 #[.pointer (some ⟨g, 0, none⟩), .agg #[v, .int .i64 p.len, .int .i64 p.birth, .string (bstr p.sum)]] wi fun e wj => e = .returned (.tuple #[.int .i64 (n : Nat), .int .i64 0]) ∧ LvPost w wi S g d2 wj := by
  have := mend_any S g d v p x i hx hn w wi hb hR hv h
  rw [hm] at this
  exact this
theorem rof_to {s q : List UInt8} (h : shaL s = q) (hs : s.length ≤ 8000) (w : World) :
    Calls Tryd.prog 31 #[.string (bstr s)] w fun e w' => e = .returned (.string (bstr q)) ∧ Below w.heap.size w w' := by subst h; exact of_ref s hs w
def alikeB (a b : List UInt8) : Bool := decide (a.length = b.length) && decide (shaL a = shaL b)
set_option maxRecDepth 100000 in
set_option maxHeartbeats 8000000 in
theorem alike_any (a b : List UInt8) (ha : a.length ≤ 8000) (hb : b.length ≤ 8000) (w : World) :
    Calls Tryd.prog 17 #[.string (bstr a), .string (bstr b)] w fun e w' => e = .returned (.bool (alikeB a b)) ∧ Below w.heap.size w w' := by
  have bel : Below w.heap.size w w := Below.refl _ _
  obtain ⟨x, hx⟩ : ∃ x, shaL a = x := ⟨_, rfl⟩
  obtain ⟨y, hy⟩ : ∃ x, shaL b = x := ⟨_, rfl⟩
  have HX := Lib.hid hx
  have HY := Lib.hid hy
  have hal : alikeB a b = (decide (a.length = b.length) && decide (x = y)) := by unfold alikeB; rw [hx, hy]
  rw [hal]
  clear hal hx hy
  by_cases h1 : a.length = b.length
  · have q1 : ((a.length : Int) == (b.length : Int)) = true := by simp [h1]
    rw [decide_eq_true h1, Bool.true_and]
    clear h1
    by_cases h2 : x = y
    · have q2 : (x == y) = true := by simp [h2]
      rw [decide_eq_true h2]
      clear h2
      go_enter Tryd.func17, Tryd.ntmps17
      go_wp2_with fail
      refine (rof_to HX.out ha _).mono ?_
      rintro e w1 ⟨rfl, k1⟩
      have bel := hthen bel k1
      clear k1
      go_wp2_with fail
      refine (rof_to HY.out hb _).mono ?_
      rintro e w2 ⟨rfl, k2⟩
      have bel := hthen bel k2
      clear k2
      go_wp2
      go_ret
      exact ⟨rfl, bel⟩
    · have q2 : (x == y) = false := beq_eq_false_iff_ne.2 h2
      rw [decide_eq_false h2]
      clear h2
      go_enter Tryd.func17, Tryd.ntmps17
      go_wp2_with fail
      refine (rof_to HX.out ha _).mono ?_
      rintro e w1 ⟨rfl, k1⟩
      have bel := hthen bel k1
      clear k1
      go_wp2_with fail
      refine (rof_to HY.out hb _).mono ?_
      rintro e w2 ⟨rfl, k2⟩
      have bel := hthen bel k2
      clear k2
      go_wp2
      go_ret
      exact ⟨rfl, bel⟩
  · have q1 : ((a.length : Int) == (b.length : Int)) = false := beq_eq_false_iff_ne.2 (by omega)
    rw [decide_eq_false h1, Bool.false_and]
    clear h1
    go_enter Tryd.func17, Tryd.ntmps17
    go_wp2
    go_ret
    exact ⟨rfl, bel⟩
theorem cell_lt2 {w : World} {p : Addr} {v : Value} (h : w.cell? p = some v) : p.block < w.heap.size := by
  unfold World.cell? at h
  cases ho : w.heap[p.block]? with
  | none => simp [ho] at h
  | some o => exact (Array.getElem?_eq_some_iff.1 ho).1
/-- a slice of booleans in memory -/
def RowB (w : World) (v : Value) (l : List Bool) : Prop := ∃ A c, v = .slice A l.length c ∧ (0 < l.length → ∃ ad : Addr, A = some ad ∧ ∀ i (h : i < l.length), w.cell? (ad.add i) = some (.bool l[i]))
theorem RowB.of_row {w : World} {base : Nat} {v : Value} {l : List Bool} (h : w.ownsRow base 4 1 v l.length (boolV l)) : RowB w v l := by
  rcases h.2 with ⟨rfl, h0⟩ | ⟨g, cap, cur, rfl, _⟩
  · exact ⟨none, 0, by rw [h0], fun h1 => by omega⟩
  · refine ⟨_, cap, rfl, fun h0 => ⟨_, rfl, fun i hi => ?_⟩⟩
    have := h.cellAt i (by omega)
    rw [show (boolV l)[i]? = some (.bool l[i]) by simp [boolV, hi]] at this
    rw [show (⟨g, 0, none⟩ : Addr).add i = ⟨g, i, none⟩ by unfold Addr.add; split <;> simp_all]
    exact this
set_option maxRecDepth 100000 in
set_option maxHeartbeats 8000000 in
theorem bools_any (l : List Bool) (hl : l.length ≤ 1000) (v u : Value) (w : World) (hv : RowB w v l) (hu : RowB w u l) :
    Calls Tryd.prog 18 #[v, u] w fun e w' => e = .returned (.bool true) ∧ Below w.heap.size w w' := by
  obtain ⟨A, c, rfl, hA⟩ := hv
  obtain ⟨C, d, rfl, hC⟩ := hu
  have q0 : ((l.length : Int) == (l.length : Int)) = true := by simp
  go_enter Tryd.func18, Tryd.ntmps18
  go_wp2_with fail
  go_loopw [5] (fun i wr => ∃ k : Nat, k ≤ l.length ∧ i = .int .i64 k ∧ Below w.heap.size w wr) (fun i _ => l.length - (intOf i).toNat)
  case atStart => exact ⟨0, by omega, rfl, Below.refl _ _⟩
  case round =>
    obtain ⟨k, hk, rfl, bel⟩ := hrel
    by_cases hlt : k < l.length
    · have q1 : decide ((k : Int) < l.length) = true := decide_eq_true (by omega)
      obtain ⟨ad, rfl, ha⟩ := hA (by omega)
      obtain ⟨ae, rfl, hc⟩ := hC (by omega)
      have c1 := (bel.cell (cell_lt2 (ha k hlt))).trans (ha k hlt)
      have c2 := (bel.cell (cell_lt2 (hc k hlt))).trans (hc k hlt)
      obtain ⟨b, hb⟩ : ∃ b, l[k] = b := ⟨_, rfl⟩
      rw [hb] at c1 c2
      have q2 : (b == b) = true := by simp
      have T0 : (0 : Int) ≤ k := by omega
      have T1 : (k : Int) < l.length := by omega
      clear ha hc hA hC hb
      go_wp2_with fail
      have bel := bel.drew
      refine wp_region_noPanic ?_
      refine wp_region_held_drew (S := (fun w' => w'.cell? (ad.add k) = some (.bool b) ∧ w'.cell? (ae.add k) = some (.bool b))) (by kernel_rfl) ?hS0 (fun hHeld => ?_)
      case hS0 => (exact ⟨c1, c2⟩)
      generalize hZ : wr.drew = wd21 at *
      clear hZ
      refine wpAnyH_take (i := 0) (oi := ⟨some 17, _, _, _, _, _⟩) (v := ?_) rfl (by kernel_rfl) (by kernel_rfl) (by kernel_rfl) (fun _ _ _ h => h) (Or.inl ⟨by kernel_rfl, ?_⟩) hHeld ?_
      rotate_left
      · (intro w hSw; (try dsimp only at hSw); go_simp; try with_reducible rfl)
      try simp only [Act.put, List.getElem_toArray, List.getElem_cons_succ, List.getElem_cons_zero, List.setIfInBounds_toArray, List.set_cons_zero, List.set_cons_succ]
      refine wpAnyH_take (i := 1) (oi := ⟨some 18, _, _, _, _, _⟩) (v := ?_) rfl (by kernel_rfl) (by kernel_rfl) (by kernel_rfl) (fun _ _ _ h => h) (Or.inl ⟨by kernel_rfl, ?_⟩) hHeld ?_
      rotate_left
      · (intro w hSw; (try dsimp only at hSw); go_simp; try with_reducible rfl)
      try simp only [Act.put, List.getElem_toArray, List.getElem_cons_succ, List.getElem_cons_zero, List.setIfInBounds_toArray, List.set_cons_zero, List.set_cons_succ]
      refine wpAnyH_take (i := 2) (oi := ⟨some 19, _, _, _, _, _⟩) (v := ?_) rfl (by kernel_rfl) (by kernel_rfl) (by kernel_rfl) (fun _ _ _ h => h) (Or.inl ⟨by kernel_rfl, ?_⟩) hHeld ?_
      rotate_left
      · (intro w hSw; (try dsimp only at hSw); go_simp; try with_reducible rfl)
      try simp only [Act.put, List.getElem_toArray, List.getElem_cons_succ, List.getElem_cons_zero, List.setIfInBounds_toArray, List.set_cons_zero, List.set_cons_succ]
      refine wpAnyH_take (i := 3) (oi := ⟨some 20, _, _, _, _, _⟩) (v := ?_) rfl (by kernel_rfl) (by kernel_rfl) (by kernel_rfl) (fun _ _ _ h => h) (Or.inl ⟨by kernel_rfl, ?_⟩) hHeld ?_
      rotate_left
      · (intro w hSw; (try dsimp only at hSw); go_simp; try with_reducible rfl)
      try simp only [Act.put, List.getElem_toArray, List.getElem_cons_succ, List.getElem_cons_zero, List.setIfInBounds_toArray, List.set_cons_zero, List.set_cons_succ]
      refine wpAnyH_take (i := 4) (oi := ⟨some 21, _, _, _, _, _⟩) (v := ?_) rfl (by kernel_rfl) (by kernel_rfl) (by kernel_rfl) (fun _ _ _ h => h) (Or.inl ⟨by kernel_rfl, ?_⟩) hHeld ?_
      rotate_left
      · (intro w hSw; (try dsimp only at hSw); go_simp; try with_reducible rfl)
      try simp only [Act.put, List.getElem_toArray, List.getElem_cons_succ, List.getElem_cons_zero, List.setIfInBounds_toArray, List.set_cons_zero, List.set_cons_succ]
      refine wpAnyH_take (i := 5) (oi := ⟨some 22, _, _, _, _, _⟩) (v := ?_) rfl (by kernel_rfl) (by kernel_rfl) (by kernel_rfl) (fun _ _ _ h => h) (Or.inl ⟨by kernel_rfl, ?_⟩) hHeld ?_
      rotate_left
      · (intro w hSw; (try dsimp only at hSw); go_simp; try with_reducible rfl)
      try simp only [Act.put, List.getElem_toArray, List.getElem_cons_succ, List.getElem_cons_zero, List.setIfInBounds_toArray, List.set_cons_zero, List.set_cons_succ]
      refine wpAnyH_take (i := 6) (oi := ⟨some 23, _, _, _, _, _⟩) (v := ?_) rfl (by kernel_rfl) (by kernel_rfl) (by kernel_rfl) (fun _ _ _ h => h) (Or.inl ⟨by kernel_rfl, ?_⟩) hHeld ?_
      rotate_left
      · (intro w hSw; (try dsimp only at hSw); go_simp; try with_reducible rfl)
      try simp only [Act.put, List.getElem_toArray, List.getElem_cons_succ, List.getElem_cons_zero, List.setIfInBounds_toArray, List.set_cons_zero, List.set_cons_succ]
      refine wpAnyH_take (i := 7) (oi := ⟨some 24, _, _, _, _, _⟩) (v := ?_) rfl (by kernel_rfl) (by kernel_rfl) (by kernel_rfl) (fun _ _ _ h => h) (Or.inl ⟨by kernel_rfl, ?_⟩) hHeld ?_
      rotate_left
      · (intro w hSw; (try dsimp only at hSw); go_simp; try with_reducible rfl)
      try simp only [Act.put, List.getElem_toArray, List.getElem_cons_succ, List.getElem_cons_zero, List.setIfInBounds_toArray, List.set_cons_zero, List.set_cons_succ]
      refine wpAnyH_take (i := 8) (oi := ⟨some 25, _, _, _, _, _⟩) (v := ?_) rfl (by kernel_rfl) (by kernel_rfl) (by kernel_rfl) (fun _ _ _ h => h) (Or.inl ⟨by kernel_rfl, ?_⟩) hHeld ?_
      rotate_left
      · (intro w hSw; (try dsimp only at hSw); go_simp; try with_reducible rfl)
      try simp only [Act.put, List.getElem_toArray, List.getElem_cons_succ, List.getElem_cons_zero, List.setIfInBounds_toArray, List.set_cons_zero, List.set_cons_succ]
      refine wpAnyH_done (by kernel_rfl) ?_ _
      refine NoPanic.normal ?_
      go_wp2
      go_roundw
      case rel => exact ⟨k + 1, by omega, by go_num, bel⟩
      case measure => simp [intOf]; omega
    · obtain rfl : k = l.length := by omega
      have q1 : decide (((l.length : Nat) : Int) < (l.length : Int)) = false := by simp
      go_wp2
      go_ret
      exact ⟨rfl, bel⟩
set_option maxRecDepth 100000 in
set_option maxHeartbeats 8000000 in
theorem verified_any (dp : Option Addr) (v : Value) (rd : Lc → List UInt8 × Int) (p : Pt) (w : World) (hR : RootsAt w) (hv : LocsAt w.heap.size w v p.locs) (hrd : ∀ T : Nat → Prop, (∀ j, T j → w.heap.size ≤ j) → Reads (.pointer dp) rd T w) :
    Calls Tryd.prog 12 #[.pointer dp, .agg #[v, .int .i64 p.len, .int .i64 p.birth, .string (bstr p.sum)]] w fun e w' => e = .returned (.bool true) ∧ Below w.heap.size w w' := by
  obtain ⟨A, c, rfl, hc, hm⟩ := hv.form
  have bel : Below w.heap.size w w := Below.refl _ _
  obtain ⟨⟨⟨x, i⟩, e0⟩, hx⟩ : ∃ y, readB rd p = y := ⟨_, rfl⟩
  have HX := Lib.hid hx
  by_cases h0 : e0 = 0
  · subst h0
    obtain ⟨o1, o2, o3, o4⟩ := readB_ok hx
    have hlen : p.len ≤ 960 := by have := (ok_facts o1).2.2.2.2.2.1; simp [inI] at this; omega
    have HS := Lib.hid o3
    have HL : Hid (x.length ≤ 8000) := Lib.hid (by omega)
    have q1 : ((x.length : Int) == p.len) = true := by simp [o2]
    have q2 : (p.sum == p.sum) = true := by simp
    have q3 : decide (i < (p.locs.length : Int)) = true := decide_eq_true o4
    clear hx o1 o2 o3 o4 hlen
    go_enter Tryd.func12, Tryd.ntmps12
    go_wp2_with fail
    obtain ⟨w1, hw1⟩ : ∃ x, w.alloc (.cells #[.slice A p.locs.length c, .int .i64 p.len, .int .i64 p.birth, .string (bstr p.sum)] 25) = x := ⟨_, rfl⟩
    obtain ⟨ib0, hib0⟩ : ∃ i, w.heap.size = i := ⟨_, rfl⟩
    have b0 : Blk w1 ib0 25 #[.slice A p.locs.length c, .int .i64 p.len, .int .i64 p.birth, .string (bstr p.sum)] := by rw [← hw1, ← hib0]; exact Blk.new _ _ _
    have k1 : Below w.heap.size w w1 := by rw [← hw1]; exact (Below.refl _ _).alloc (Nat.le_refl _) _
    have zb0 : w1.heap.size = ib0 + 1 := by rw [← hw1, ← hib0]; simp
    rw [hw1, hib0]
    have ob0 : w.heap.size ≤ ib0 := by rw [← hib0]; exact bel.size
    have hR := hR.moved k1
    have bel := hthen bel k1
    clear k1
    clear hw1 hib0
    have b0c0 := b0.cell 0
    have b0c1 := b0.cell 1
    have b0c2 := b0.cell 2
    have b0c3 := b0.cell 3
    simp at b0c0 b0c1 b0c2 b0c3
    have b0lt := b0.lt
    try (go_wp2_with fail)
    refine (bread_to HX.out _ hR (hv.keep bel bel.size) (fun T hT => (hrd T (fun j e => Nat.le_trans bel.size (hT j e))).moved bel)).mono ?_
    rintro e w2 ⟨rfl, k2⟩
    clear b0c0 b0c1 b0c2 b0c3 b0lt
    have b0 := b0.below k2 b0.lt
    have hR := hR.moved k2
    have bel := hthen bel k2
    clear k2
    have b0c0 := b0.cell 0
    have b0c1 := b0.cell 1
    have b0c2 := b0.cell 2
    have b0c3 := b0.cell 3
    simp at b0c0 b0c1 b0c2 b0c3
    have b0lt := b0.lt
    go_wp2_with fail
    clear b0c0 b0c1 b0c2 b0c3 b0lt
    have hR := hR.moved (Below.refl _ _).drew
    have bel := bel.drew
    have b0 := b0.drew
    refine wp_region_noPanic ?_
    refine wp_region_held_drew (S := (fun w' => w'.cell? ⟨ib0, 0, none⟩ = some (.slice A p.locs.length c) ∧ w'.cell? ⟨ib0, 1, none⟩ = some (.int .i64 p.len) ∧ w'.cell? ⟨ib0, 2, none⟩ = some (.int .i64 p.birth) ∧ w'.cell? ⟨ib0, 3, none⟩ = some (.string (bstr p.sum)))) (by kernel_rfl) ?hS0 (fun hHeld => ?_)
    case hS0 => (have q0 := b0.cell 0; have q1 := b0.cell 1; have q2 := b0.cell 2; have q3 := b0.cell 3; simp at q0 q1 q2 q3; exact ⟨q0, q1, q2, q3⟩)
    generalize hZ : w2.drew = wd3 at *
    clear hZ
    refine wpAnyH_take (i := 0) (oi := ⟨some 23, _, _, _, _, _⟩) (v := ?_) rfl (by kernel_rfl) (by kernel_rfl) (by kernel_rfl) (fun _ _ _ h => h) (Or.inl ⟨by kernel_rfl, ?_⟩) hHeld ?_
    rotate_left
    · (intro w hSw; (try dsimp only at hSw); go_simp; try with_reducible rfl)
    try simp only [Act.put, List.getElem_toArray, List.getElem_cons_succ, List.getElem_cons_zero, List.setIfInBounds_toArray, List.set_cons_zero, List.set_cons_succ]
    refine wpAnyH_take (i := 1) (oi := ⟨some 24, _, _, _, _, _⟩) (v := ?_) rfl (by kernel_rfl) (by kernel_rfl) (by kernel_rfl) (fun _ _ _ h => h) (Or.inl ⟨by kernel_rfl, ?_⟩) hHeld ?_
    rotate_left
    · (intro w hSw; (try dsimp only at hSw); go_simp; try with_reducible rfl)
    try simp only [Act.put, List.getElem_toArray, List.getElem_cons_succ, List.getElem_cons_zero, List.setIfInBounds_toArray, List.set_cons_zero, List.set_cons_succ]
    refine wpAnyH_take (i := 2) (oi := ⟨some 25, _, _, _, _, _⟩) (v := ?_) rfl (by kernel_rfl) (by kernel_rfl) (by kernel_rfl) (fun _ _ _ h => h) (Or.inl ⟨by kernel_rfl, ?_⟩) hHeld ?_
    rotate_left
    · (intro w hSw; (try dsimp only at hSw); go_simp; try with_reducible rfl)
    try simp only [Act.put, List.getElem_toArray, List.getElem_cons_succ, List.getElem_cons_zero, List.setIfInBounds_toArray, List.set_cons_zero, List.set_cons_succ]
    refine wpAnyH_take (i := 3) (oi := ⟨some 26, _, _, _, _, _⟩) (v := ?_) rfl (by kernel_rfl) (by kernel_rfl) (by kernel_rfl) (fun _ _ _ h => h) (Or.inl ⟨by kernel_rfl, ?_⟩) hHeld ?_
    rotate_left
    · (intro w hSw; (try dsimp only at hSw); go_simp; try with_reducible rfl)
    try simp only [Act.put, List.getElem_toArray, List.getElem_cons_succ, List.getElem_cons_zero, List.setIfInBounds_toArray, List.set_cons_zero, List.set_cons_succ]
    refine wpAnyH_take (i := 4) (oi := ⟨some 27, _, _, _, _, _⟩) (v := ?_) rfl (by kernel_rfl) (by kernel_rfl) (by kernel_rfl) (fun _ _ _ h => h) (Or.inl ⟨by kernel_rfl, ?_⟩) hHeld ?_
    rotate_left
    · (intro w hSw; (try dsimp only at hSw); go_simp; try with_reducible rfl)
    try simp only [Act.put, List.getElem_toArray, List.getElem_cons_succ, List.getElem_cons_zero, List.setIfInBounds_toArray, List.set_cons_zero, List.set_cons_succ]
    refine wpAnyH_take (i := 5) (oi := ⟨some 28, _, _, _, _, _⟩) (v := ?_) rfl (by kernel_rfl) (by kernel_rfl) (by kernel_rfl) (fun _ _ _ h => h) (Or.inl ⟨by kernel_rfl, ?_⟩) hHeld ?_
    rotate_left
    · (intro w hSw; (try dsimp only at hSw); go_simp; try with_reducible rfl)
    try simp only [Act.put, List.getElem_toArray, List.getElem_cons_succ, List.getElem_cons_zero, List.setIfInBounds_toArray, List.set_cons_zero, List.set_cons_succ]
    refine wpAnyH_take (i := 6) (oi := ⟨some 29, _, _, _, _, _⟩) (v := ?_) rfl (by kernel_rfl) (by kernel_rfl) (by kernel_rfl) (fun _ _ _ h => h) (Or.inl ⟨by kernel_rfl, ?_⟩) hHeld ?_
    rotate_left
    · (intro w hSw; (try dsimp only at hSw); go_simp; try with_reducible rfl)
    try simp only [Act.put, List.getElem_toArray, List.getElem_cons_succ, List.getElem_cons_zero, List.setIfInBounds_toArray, List.set_cons_zero, List.set_cons_succ]
    refine wpAnyH_take (i := 8) (oi := ⟨some 31, _, _, _, _, _⟩) (v := ?_) rfl (by kernel_rfl) (by kernel_rfl) (by kernel_rfl) (fun _ _ _ h => h) (Or.inl ⟨by kernel_rfl, ?_⟩) hHeld ?_
    rotate_left
    · (intro w hSw; (try dsimp only at hSw); go_simp; try with_reducible rfl)
    try simp only [Act.put, List.getElem_toArray, List.getElem_cons_succ, List.getElem_cons_zero, List.setIfInBounds_toArray, List.set_cons_zero, List.set_cons_succ]
    refine wpAnyH_take (i := 9) (oi := ⟨some 32, _, _, _, _, _⟩) (v := ?_) rfl (by kernel_rfl) (by kernel_rfl) (by kernel_rfl) (fun _ _ _ h => h) (Or.inl ⟨by kernel_rfl, ?_⟩) hHeld ?_
    rotate_left
    · (intro w hSw; (try dsimp only at hSw); go_simp; try with_reducible rfl)
    try simp only [Act.put, List.getElem_toArray, List.getElem_cons_succ, List.getElem_cons_zero, List.setIfInBounds_toArray, List.set_cons_zero, List.set_cons_succ]
    refine wpAnyH_ready (rs := [7]) (by kernel_rfl) (by simp) ?_
    refine (AllReadyH.cons rfl (fun K hK => ?_) AllReadyH.nil)
    try rw [if_pos (by kernel_rfl)]
    go_simp
    go_at_call 31
    refine (rof_to HS.out HL.out _).mono ?_
    rintro e w4 ⟨rfl, k4⟩
    have b0 := b0.below k4 b0.lt
    have hR := hR.moved k4
    have bel := hthen bel k4
    clear k4
    try dsimp only
    refine hK.out _ _ (by have q0 := b0.cell 0; have q1 := b0.cell 1; have q2 := b0.cell 2; have q3 := b0.cell 3; simp at q0 q1 q2 q3; exact ⟨q0, q1, q2, q3⟩) (fun hHeld => ?_)
    clear hK K
    try simp only [Act.put, List.getElem_toArray, List.getElem_cons_succ, List.getElem_cons_zero, List.setIfInBounds_toArray, List.set_cons_zero, List.set_cons_succ]
    refine wpAnyH_take (i := 10) (oi := ⟨some 33, _, _, _, _, _⟩) (v := ?_) rfl (by kernel_rfl) (by kernel_rfl) (by kernel_rfl) (fun _ _ _ h => h) (Or.inl ⟨by kernel_rfl, ?_⟩) hHeld ?_
    rotate_left
    · (intro w hSw; (try dsimp only at hSw); go_simp; try with_reducible rfl)
    try simp only [Act.put, List.getElem_toArray, List.getElem_cons_succ, List.getElem_cons_zero, List.setIfInBounds_toArray, List.set_cons_zero, List.set_cons_succ]
    refine wpAnyH_take (i := 11) (oi := ⟨some 34, _, _, _, _, _⟩) (v := ?_) rfl (by kernel_rfl) (by kernel_rfl) (by kernel_rfl) (fun _ _ _ h => h) (Or.inl ⟨by kernel_rfl, ?_⟩) hHeld ?_
    rotate_left
    · (intro w hSw; (try dsimp only at hSw); go_simp; try with_reducible rfl)
    try simp only [Act.put, List.getElem_toArray, List.getElem_cons_succ, List.getElem_cons_zero, List.setIfInBounds_toArray, List.set_cons_zero, List.set_cons_succ]
    refine wpAnyH_take (i := 12) (oi := ⟨some 35, _, _, _, _, _⟩) (v := ?_) rfl (by kernel_rfl) (by kernel_rfl) (by kernel_rfl) (fun _ _ _ h => h) (Or.inl ⟨by kernel_rfl, ?_⟩) hHeld ?_
    rotate_left
    · (intro w hSw; (try dsimp only at hSw); go_simp; try with_reducible rfl)
    try simp only [Act.put, List.getElem_toArray, List.getElem_cons_succ, List.getElem_cons_zero, List.setIfInBounds_toArray, List.set_cons_zero, List.set_cons_succ]
    refine wpAnyH_take (i := 13) (oi := ⟨some 36, _, _, _, _, _⟩) (v := ?_) rfl (by kernel_rfl) (by kernel_rfl) (by kernel_rfl) (fun _ _ _ h => h) (Or.inl ⟨by kernel_rfl, ?_⟩) hHeld ?_
    rotate_left
    · (intro w hSw; (try dsimp only at hSw); go_simp; try with_reducible rfl)
    try simp only [Act.put, List.getElem_toArray, List.getElem_cons_succ, List.getElem_cons_zero, List.setIfInBounds_toArray, List.set_cons_zero, List.set_cons_succ]
    refine wpAnyH_take (i := 14) (oi := ⟨some 37, _, _, _, _, _⟩) (v := ?_) rfl (by kernel_rfl) (by kernel_rfl) (by kernel_rfl) (fun _ _ _ h => h) (Or.inl ⟨by kernel_rfl, ?_⟩) hHeld ?_
    rotate_left
    · (intro w hSw; (try dsimp only at hSw); go_simp; try with_reducible rfl)
    try simp only [Act.put, List.getElem_toArray, List.getElem_cons_succ, List.getElem_cons_zero, List.setIfInBounds_toArray, List.set_cons_zero, List.set_cons_succ]
    refine wpAnyH_take (i := 15) (oi := ⟨some 38, _, _, _, _, _⟩) (v := ?_) rfl (by kernel_rfl) (by kernel_rfl) (by kernel_rfl) (fun _ _ _ h => h) (Or.inl ⟨by kernel_rfl, ?_⟩) hHeld ?_
    rotate_left
    · (intro w hSw; (try dsimp only at hSw); go_simp; try with_reducible rfl)
    try simp only [Act.put, List.getElem_toArray, List.getElem_cons_succ, List.getElem_cons_zero, List.setIfInBounds_toArray, List.set_cons_zero, List.set_cons_succ]
    refine wpAnyH_take (i := 16) (oi := ⟨some 39, _, _, _, _, _⟩) (v := ?_) rfl (by kernel_rfl) (by kernel_rfl) (by kernel_rfl) (fun _ _ _ h => h) (Or.inl ⟨by kernel_rfl, ?_⟩) hHeld ?_
    rotate_left
    · (intro w hSw; (try dsimp only at hSw); go_simp; try with_reducible rfl)
    try simp only [Act.put, List.getElem_toArray, List.getElem_cons_succ, List.getElem_cons_zero, List.setIfInBounds_toArray, List.set_cons_zero, List.set_cons_succ]
    refine wpAnyH_take (i := 17) (oi := ⟨some 40, _, _, _, _, _⟩) (v := ?_) rfl (by kernel_rfl) (by kernel_rfl) (by kernel_rfl) (fun _ _ _ h => h) (Or.inl ⟨by kernel_rfl, ?_⟩) hHeld ?_
    rotate_left
    · (intro w hSw; (try dsimp only at hSw); go_simp; try with_reducible rfl)
    try simp only [Act.put, List.getElem_toArray, List.getElem_cons_succ, List.getElem_cons_zero, List.setIfInBounds_toArray, List.set_cons_zero, List.set_cons_succ]
    refine wpAnyH_take (i := 18) (oi := ⟨some 41, _, _, _, _, _⟩) (v := ?_) rfl (by kernel_rfl) (by kernel_rfl) (by kernel_rfl) (fun _ _ _ h => h) (Or.inl ⟨by kernel_rfl, ?_⟩) hHeld ?_
    rotate_left
    · (intro w hSw; (try dsimp only at hSw); go_simp; try with_reducible rfl)
    try simp only [Act.put, List.getElem_toArray, List.getElem_cons_succ, List.getElem_cons_zero, List.setIfInBounds_toArray, List.set_cons_zero, List.set_cons_succ]
    refine wpAnyH_take (i := 19) (oi := ⟨some 4, _, _, _, _, _⟩) (v := ?_) rfl (by kernel_rfl) (by kernel_rfl) (by kernel_rfl) (fun _ _ _ h => h) (Or.inl ⟨by kernel_rfl, ?_⟩) hHeld ?_
    rotate_left
    · (intro w hSw; (try dsimp only at hSw); go_simp; try with_reducible rfl)
    try simp only [Act.put, List.getElem_toArray, List.getElem_cons_succ, List.getElem_cons_zero, List.setIfInBounds_toArray, List.set_cons_zero, List.set_cons_succ]
    refine wpAnyH_done (by kernel_rfl) ?_ _
    refine NoPanic.normal ?_
    go_wp2
    go_ret
    exact ⟨rfl, bel⟩
  · obtain ⟨rfl, rfl⟩ := readB_err hx h0
    have q1 : (e0 == 0) = false := beq_eq_false_iff_ne.2 h0
    clear hx h0
    go_enter Tryd.func12, Tryd.ntmps12
    go_wp2_with fail
    obtain ⟨w1, hw1⟩ : ∃ x, w.alloc (.cells #[.slice A p.locs.length c, .int .i64 p.len, .int .i64 p.birth, .string (bstr p.sum)] 25) = x := ⟨_, rfl⟩
    obtain ⟨ib0, hib0⟩ : ∃ i, w.heap.size = i := ⟨_, rfl⟩
    have b0 : Blk w1 ib0 25 #[.slice A p.locs.length c, .int .i64 p.len, .int .i64 p.birth, .string (bstr p.sum)] := by rw [← hw1, ← hib0]; exact Blk.new _ _ _
    have k1 : Below w.heap.size w w1 := by rw [← hw1]; exact (Below.refl _ _).alloc (Nat.le_refl _) _
    have zb0 : w1.heap.size = ib0 + 1 := by rw [← hw1, ← hib0]; simp
    rw [hw1, hib0]
    have ob0 : w.heap.size ≤ ib0 := by rw [← hib0]; exact bel.size
    have hR := hR.moved k1
    have bel := hthen bel k1
    clear k1
    clear hw1 hib0
    have b0c0 := b0.cell 0
    have b0c1 := b0.cell 1
    have b0c2 := b0.cell 2
    have b0c3 := b0.cell 3
    simp at b0c0 b0c1 b0c2 b0c3
    have b0lt := b0.lt
    try (go_wp2_with fail)
    refine (bread_to HX.out _ hR (hv.keep bel bel.size) (fun T hT => (hrd T (fun j e => Nat.le_trans bel.size (hT j e))).moved bel)).mono ?_
    rintro e w2 ⟨rfl, k2⟩
    clear b0c0 b0c1 b0c2 b0c3 b0lt
    have b0 := b0.below k2 b0.lt
    have hR := hR.moved k2
    have bel := hthen bel k2
    clear k2
    have b0c0 := b0.cell 0
    have b0c1 := b0.cell 1
    have b0c2 := b0.cell 2
    have b0c3 := b0.cell 3
    simp at b0c0 b0c1 b0c2 b0c3
    have b0lt := b0.lt
    go_wp2
    go_ret
    exact ⟨rfl, bel⟩
end Go.Proofs.YtmdjbmhjnajpgaaDoor
