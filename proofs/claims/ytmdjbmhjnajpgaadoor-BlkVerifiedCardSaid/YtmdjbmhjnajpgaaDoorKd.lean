/- Package blk: Mend: contract. -/
import Derived.Test.YtmdjbmhjnajpgaaDoorKc
namespace Go.Proofs.YtmdjbmhjnajpgaaDoor
open Go Go.RowKit
set_option linter.unusedSimpArgs false
set_option linter.unnecessarySimpa false
set_option linter.unusedVariables false

theorem write_ws (d : Dv) (l : Lc) (s : List UInt8) : (d.write l s).ws.length ≤ d.ws.length + 1 := by
  unfold Dv.write
  split <;> simp
/-- places in memory that keeps to Q -/
def LocsOn (Q : Nat → Prop) (w : World) (v : Value) (l : List Lc) : Prop :=
  ∃ A c, v = .slice A l.length c ∧ l.length ≤ c ∧ c ≤ 9223372036854775807 ∧
    (0 < l.length → ∃ ad : Addr, A = some ad ∧ Q ad.block ∧ ∀ i (h : i < l.length), w.cell? (ad.add (i * 2)) = some (.int .i64 l[i].dev) ∧ w.cell? (ad.add (i * 2 + 1)) = some (.int .i64 l[i].pos))
theorem LocsOn.at_ {Q : Nat → Prop} {B : Nat} {w : World} {v : Value} {l : List Lc} (h : LocsOn Q w v l) (hQ : ∀ j, Q j → j < B) : LocsAt B w v l := by
  obtain ⟨A, c, e, h1, h2, h3⟩ := h
  exact ⟨A, c, e, h1, h2, fun h0 => by obtain ⟨ad, e, hq, hx⟩ := h3 h0; exact ⟨ad, e, hQ _ hq, hx⟩⟩
theorem LocsAt.on {B : Nat} {w : World} {v : Value} {l : List Lc} (h : LocsAt B w v l) : LocsOn (· < B) w v l := h
theorem LocsOn.weak {Q Q' : Nat → Prop} {w : World} {v : Value} {l : List Lc} (h : LocsOn Q w v l) (hQ : ∀ j, Q j → Q' j) : LocsOn Q' w v l := by
  obtain ⟨A, c, e, h1, h2, h3⟩ := h
  exact ⟨A, c, e, h1, h2, fun h0 => by obtain ⟨ad, e, hq, hx⟩ := h3 h0; exact ⟨ad, e, hQ _ hq, hx⟩⟩
theorem LocsOn.keep {Q : Nat → Prop} {w w' : World} {v : Value} {l : List Lc} (h : LocsOn Q w v l) (hQ : ∀ j, Q j → w'.heap[j]? = w.heap[j]?) : LocsOn Q w' v l := by
  obtain ⟨A, c, e, h1, h2, h3⟩ := h
  refine ⟨A, c, e, h1, h2, fun h0 => ?_⟩
  obtain ⟨ad, e, hq, hx⟩ := h3 h0
  refine ⟨ad, e, hq, fun i hi => ?_⟩
  have e : ∀ k, Q (ad.add k).block := fun k => by unfold Addr.add; split <;> exact hq
  rw [World.cell?_of_block (hQ _ (e _)), World.cell?_of_block (hQ _ (e _))]
  exact hx i hi
/-- what is mended: what is not good is written again -/
def mendK (ls : List Lc) (gd : Lc → Bool) (load : List UInt8) (d : Dv) : Nat → Dv × Nat
  | 0 => (d, 0)
  | k + 1 => match ls[k]? with
    | some l => if gd l = true then mendK ls gd load d k else ((mendK ls gd load d k).1.write l load, if mayE (mendK ls gd load d k).1 l load = 0 then (mendK ls gd load d k).2 + 1 else (mendK ls gd load d k).2)
    | none => mendK ls gd load d k
theorem mendK_len {ls : List Lc} {gd : Lc → Bool} {load : List UInt8} {d : Dv} : ∀ k, (mendK ls gd load d k).2 ≤ k ∧ (mendK ls gd load d k).1.ws.length ≤ d.ws.length + k
  | 0 => ⟨Nat.le_refl _, Nat.le_refl _⟩
  | k + 1 => by
    have ih := mendK_len (ls := ls) (gd := gd) (load := load) (d := d) k
    rw [mendK]
    split
    · rename_i l _
      split
      · omega
      · refine ⟨?_, ?_⟩
        · simp only; split <;> omega
        · have := write_ws (mendK ls gd load d k).1 l load
          simp only; omega
    · omega
theorem mendK_good {ls : List Lc} {gd : Lc → Bool} {load : List UInt8} {d : Dv} {k : Nat} (hk : k < ls.length) (h : gd ls[k] = true) : mendK ls gd load d (k + 1) = mendK ls gd load d k := by
  rw [mendK, List.getElem?_eq_getElem hk]
  simp only
  rw [if_pos h]
theorem mendK_bad {ls : List Lc} {gd : Lc → Bool} {load : List UInt8} {d : Dv} {k : Nat} (hk : k < ls.length) (h : gd ls[k] = false) : mendK ls gd load d (k + 1) = ((mendK ls gd load d k).1.write ls[k] load, if mayE (mendK ls gd load d k).1 ls[k] load = 0 then (mendK ls gd load d k).2 + 1 else (mendK ls gd load d k).2) := by
  rw [mendK, List.getElem?_eq_getElem hk]
  simp only
  rw [if_neg (by rw [h]; exact Bool.false_ne_true)]
theorem bread_to {dp : Option Addr} {v : Value} {rd : Lc → List UInt8 × Int} {p : Pt} {x : List UInt8} {i e0 : Int} (hx : readB rd p = ((x, i), e0)) (w : World) (hR : RootsAt w) (hv : LocsAt w.heap.size w v p.locs) (hrd : ∀ T : Nat → Prop, (∀ j, T j → w.heap.size ≤ j) → Reads (.pointer dp) rd T w) :
    Calls Tryd.prog 13 #[.pointer dp, .agg #[v, .int .i64 p.len, .int .i64 p.birth, .string (bstr p.sum)]] w fun e w' => e = .returned (.tuple #[.string (bstr x), .int .i64 i, .int .i64 e0]) ∧ Below w.heap.size w w' := by
  have := bread_any dp v rd p w hR hv hrd
  rw [hx] at this
  exact this
theorem Lv.rd {w wi : World} {S : Nat → Prop} {g : Nat} {d : Dv} (h : Lv w wi S g d) (hn : d.ws.length ≤ 100000) : ∀ T : Nat → Prop, (∀ j, T j → wi.heap.size ≤ j) → Reads (.pointer (some ⟨g, 0, none⟩)) d.read T wi :=
  fun T hT => h.reads hn (fun k hk e => by have := hT k e; have := h.o.lt k hk; omega)
theorem goods_len (rd : Lc → List UInt8 × Int) (p : Pt) : (boolV (goodsL rd p)).length = p.locs.length := by simp [boolV, goodsL]
theorem goods_get (rd : Lc → List UInt8 × Int) (p : Pt) (k : Nat) (hk : k < p.locs.length) : (boolV (goodsL rd p))[k]? = some (.bool (goodAt rd p p.locs[k])) := by simp [boolV, goodsL, hk]

set_option maxRecDepth 100000 in
set_option maxHeartbeats 8000000 in
theorem mend_bad (dp : Option Addr) (v : Value) (rd : Lc → List UInt8 × Int) (p : Pt) (x : List UInt8) (i e0 : Int) (hx : readB rd p = ((x, i), e0)) (h0 : e0 ≠ 0) (w : World) (hR : RootsAt w) (hv : LocsAt w.heap.size w v p.locs) (hrd : ∀ T : Nat → Prop, (∀ j, T j → w.heap.size ≤ j) → Reads (.pointer dp) rd T w) :
    Calls Tryd.prog 14 #[.pointer dp, .agg #[v, .int .i64 p.len, .int .i64 p.birth, .string (bstr p.sum)]] w fun e w' => e = .returned (.tuple #[.int .i64 0, .int .i64 e0]) ∧ Below w.heap.size w w' := by
  obtain ⟨A, c, rfl, hc, hm⟩ := hv.form
  have bel : Below w.heap.size w w := Below.refl _ _
  have HX := Lib.hid hx
  have q0 : (e0 == 0) = false := beq_eq_false_iff_ne.2 h0
  clear hx h0
  go_enter Tryd.func14, Tryd.ntmps14
  go_wp2_with fail
  obtain ⟨w1, hw1⟩ : ∃ x, w.alloc (.cells #[.slice A p.locs.length c, .int .i64 p.len, .int .i64 p.birth, .string (bstr p.sum)] 25) = x := ⟨_, rfl⟩
  obtain ⟨ib0, hib0⟩ : ∃ i, w.heap.size = i := ⟨_, rfl⟩
  have b0 : Blk w1 ib0 25 #[.slice A p.locs.length c, .int .i64 p.len, .int .i64 p.birth, .string (bstr p.sum)] := by rw [← hw1, ← hib0]; exact Blk.new _ _ _
  have k1 : Below w.heap.size w w1 := by rw [← hw1]; exact (Below.refl _ _).alloc (Nat.le_refl _) _
  have zb0 : w1.heap.size = ib0 + 1 := by rw [← hw1, ← hib0]; simp
  rw [hw1, hib0]
  have ob0 : w.heap.size ≤ ib0 := by rw [← hib0]; exact bel.size
  have hR := hR.moved k1
  have bel := hthen bel k1
  clear k1
  clear hw1 hib0
  have b0c0 := b0.cell 0
  have b0c1 := b0.cell 1
  have b0c2 := b0.cell 2
  have b0c3 := b0.cell 3
  simp at b0c0 b0c1 b0c2 b0c3
  have b0lt := b0.lt
  try (go_wp2_with fail)
  refine (bread_to HX.out _ hR (hv.keep bel bel.size) (fun T hT => (hrd T (fun j e => Nat.le_trans bel.size (hT j e))).moved bel)).mono ?_
  rintro e w2 ⟨rfl, k2⟩
  clear b0c0 b0c1 b0c2 b0c3 b0lt
  have b0 := b0.below k2 b0.lt
  have hR := hR.moved k2
  have bel := hthen bel k2
  clear k2
  have b0c0 := b0.cell 0
  have b0c1 := b0.cell 1
  have b0c2 := b0.cell 2
  have b0c3 := b0.cell 3
  simp at b0c0 b0c1 b0c2 b0c3
  have b0lt := b0.lt
  go_wp2
  go_ret2
  exact ⟨rfl, bel⟩

set_option maxRecDepth 100000 in
set_option maxHeartbeats 8000000 in
theorem mend_any (S : Nat → Prop) (g : Nat) (d : Dv) (v : Value) (p : Pt) (x : List UInt8) (i : Int) (hx : readB d.read p = ((x, i), 0)) (hn : d.ws.length ≤ 90000) (w wi : World) (hb : Below w.heap.size w wi) (hR : RootsAt wi) (hv : LocsOn (fun j => j < wi.heap.size ∧ ¬ S j) wi v p.locs) (h : Lv w wi S g d) :
    Calls Tryd.prog 14 #[.pointer (some ⟨g, 0, none⟩), .agg #[v, .int .i64 p.len, .int .i64 p.birth, .string (bstr p.sum)]] wi fun e wj => e = .returned (.tuple #[.int .i64 ((mendK p.locs (goodAt d.read p) x d p.locs.length).2 : Nat), .int .i64 0]) ∧ LvPost w wi S g (mendK p.locs (goodAt d.read p) x d p.locs.length).1 wj := by
  have hva : LocsAt wi.heap.size wi v p.locs := hv.at_ (fun j e => e.1)
  obtain ⟨A, c, rfl, hc, hm⟩ := hva.form
  have hck : ckE p = 0 := by
    rcases ckE_cases p with e | e
    · exact e
    · unfold readB at hx
      rw [if_neg (by rw [e]; decide)] at hx
      cases hx
  have hl := ok_facts hck
  have hl1 : 1 ≤ p.locs.length := hl.2.1
  have hl2 : p.locs.length ≤ 2 := hl.1
  have bel : Below wi.heap.size wi wi := Below.refl _ _
  have HX := Lib.hid hx
  have HCK := Lib.hid hck
  have HV := Lib.hid hv
  have LV0 := Lib.hid h
  have hnn : d.ws.length ≤ 100000 := by omega
  clear hx hck hl hv
  go_enter Tryd.func14, Tryd.ntmps14
  go_wp2_with fail
  obtain ⟨w1, hw1⟩ : ∃ x, wi.alloc (.cells #[.slice A p.locs.length c, .int .i64 p.len, .int .i64 p.birth, .string (bstr p.sum)] 25) = x := ⟨_, rfl⟩
  obtain ⟨ib0, hib0⟩ : ∃ i, wi.heap.size = i := ⟨_, rfl⟩
  have b0 : Blk w1 ib0 25 #[.slice A p.locs.length c, .int .i64 p.len, .int .i64 p.birth, .string (bstr p.sum)] := by rw [← hw1, ← hib0]; exact Blk.new _ _ _
  have k1 : Below wi.heap.size wi w1 := by rw [← hw1]; exact (Below.refl _ _).alloc (Nat.le_refl _) _
  have zb0 : w1.heap.size = ib0 + 1 := by rw [← hw1, ← hib0]; simp
  rw [hw1, hib0]
  have ob0 : wi.heap.size ≤ ib0 := by rw [← hib0]; exact bel.size
  have hR := hR.moved k1
  have bel := hthen bel k1
  clear k1
  clear hw1 hib0
  have b0c0 := b0.cell 0
  have b0c1 := b0.cell 1
  have b0c2 := b0.cell 2
  have b0c3 := b0.cell 3
  simp at b0c0 b0c1 b0c2 b0c3
  have b0lt := b0.lt
  try (go_wp2_with fail)
  refine (bread_to HX.out _ hR (hva.keep bel bel.size) ((LV0.out.below bel).rd hnn)).mono ?_
  rintro e w2 ⟨rfl, k2⟩
  clear b0c0 b0c1 b0c2 b0c3 b0lt
  have b0 := b0.below k2 b0.lt
  have hR := hR.moved k2
  have bel := hthen bel k2
  clear k2
  have b0c0 := b0.cell 0
  have b0c1 := b0.cell 1
  have b0c2 := b0.cell 2
  have b0c3 := b0.cell 3
  simp at b0c0 b0c1 b0c2 b0c3
  have b0lt := b0.lt
  go_wp2_with fail
  have sz2 := bel.size
  refine (good_any _ _ _ p _ hR (hva.keep bel bel.size) HCK.out ((LV0.out.below bel).rd hnn)).mono ?_
  rintro e w3 ⟨u, rfl, row, k3⟩
  clear b0c0 b0c1 b0c2 b0c3 b0lt
  have b0 := b0.below k3 b0.lt
  have hR := hR.moved k3
  have bel := hthen bel k3
  clear k3
  obtain ⟨gu, cu, rfl, _, _⟩ := row.form (by omega)
  have hgu := (row.lt gu rfl).1
  have hgl := (row.lt gu rfl).2
  have row0 := row.at0
  have hib := b0.lt
  have nS0 : ¬ S ib0 := fun e => by have := h.o.lt _ e; omega
  have nSu : ¬ S gu := fun e => by have := h.o.lt _ e; have := bel.size; omega
  have lv := h.below bel
  have hk0 : Keep wi.heap.size S wi w3 := Keep.of_below bel
  have hbW := hthen hb (bel.mono (Nat.le_refl _))
  clear row hgu hgl
  go_wp2_with fail
  go_loopw [9, 26] (fun nv i wr => ∃ (k : Nat) (S' : Nat → Prop), k ≤ p.locs.length ∧ i = .int .i64 k ∧ nv = .int .i64 ((mendK p.locs (goodAt d.read p) x d k).2 : Nat) ∧ Lv w wr S' g (mendK p.locs (goodAt d.read p) x d k).1 ∧ (∀ j, S' j → S j ∨ wi.heap.size ≤ j) ∧ Keep wi.heap.size S wi wr ∧ Below w.heap.size w wr ∧ Blk wr ib0 25 #[.slice A p.locs.length c, .int .i64 p.len, .int .i64 p.birth, .string (bstr p.sum)] ∧ ¬ S' ib0 ∧ wr.ownsRow 0 4 1 (.slice (some ⟨gu, 0, none⟩) p.locs.length cu) p.locs.length (boolV (goodsL d.read p)) ∧ ¬ S' gu) (fun _ i _ => p.locs.length - (intOf i).toNat)
  case atStart => exact ⟨0, S, by omega, rfl, rfl, lv, fun j e => .inl e, hk0, hbW, b0, nS0, row0, nSu⟩
  case round =>
    clear lv hk0 hbW b0 nS0 row0 nSu bel hR
    obtain ⟨k, S', hk, rfl, rfl, lv, gW, hkp, hbW, b0, nS0, row, nSu⟩ := hrel
    obtain ⟨nk, hwk⟩ := mendK_len (ls := p.locs) (gd := goodAt d.read p) (load := x) (d := d) k
    by_cases hlt : k < p.locs.length
    · have q1 : decide ((k : Int) < p.locs.length) = true := decide_eq_true (by omega)
      have hgc := row.cellAt k (by omega)
      have ggk := goods_get d.read p k hlt
      rw [ggk] at hgc
      have b0c0 := b0.cell 0
      simp at b0c0
      have b0lt := b0.lt
      have hmg := mendK_good (load := x) (d := d) (gd := goodAt d.read p) hlt
      have hmb := mendK_bad (load := x) (d := d) (gd := goodAt d.read p) hlt
      have hvr : LocsAt wi.heap.size wr (.slice A p.locs.length c) p.locs := (HV.out.keep (fun j e => hkp.block j e.1 e.2)).at_ (fun j e => e.1)
      obtain ⟨ad, rfl, had, hx0, hy0⟩ := hvr.get k hlt
      obtain ⟨l, hl⟩ : ∃ l, p.locs[k] = l := ⟨_, rfl⟩
      rw [hl] at hmg hmb hgc hx0 hy0
      obtain ⟨⟨dk, mk⟩, hdk⟩ : ∃ y, mendK p.locs (goodAt d.read p) x d k = y := ⟨_, rfl⟩
      rw [hdk] at lv nk hwk hmg hmb
      simp only at lv nk hwk hmg hmb
      try rw [hdk]
      have HMG := Lib.hid hmg
      have HMB := Lib.hid hmb
      clear hmg hmb hdk ggk
      by_cases hg : goodAt d.read p l = true
      · have e := HMG.out hg
        have HE := Lib.hid e
        rw [hg] at hgc
        clear e hg HMG HMB hx0 hy0
        go_wp2
        go_roundw
        case rel => exact ⟨k + 1, S', by omega, by go_num, by rw [HE.out], by rw [HE.out]; exact lv, gW, hkp, hbW, b0, nS0, row, nSu⟩
        case measure => simp [intOf]; omega
      · have hg2 : goodAt d.read p l = false := by simpa using hg
        have e := HMB.out hg2
        obtain ⟨er, her⟩ : ∃ y, mayE dk l x = y := ⟨_, rfl⟩
        rw [her] at e
        have HE := Lib.hid e
        have HER := Lib.hid her
        have HWK : Hid (dk.ws.length ≤ 100000) := Lib.hid (by omega)
        rw [hg2] at hgc
        have T0 : (0 : Int) ≤ k := by omega
        have T1 : (k : Int) < p.locs.length := by omega
        clear e her hg hg2 HMG HMB
        go_wp2_with fail
        refine (writeL (e0 := er) S' g dk l x HER.out HWK.out w _ hbW lv).mono ?_
        rintro e wj ⟨rfl, S2, lv2, gS, kS, bel2⟩
        have c0 : ¬ S2 ib0 := fun e => (gS _ e).elim nS0 (fun e => by omega)
        have hgl := (row.lt gu rfl).2
        have cu0 : ¬ S2 gu := fun e => (gS _ e).elim nSu (fun e => by omega)
        have b02 := b0.keep kS b0.lt nS0
        have row2 := row_keep row kS (fun j e => by cases e; exact ⟨hgl, nSu⟩)
        have hkp2 := hkp.then kS hkp.size (fun j hj e => (gW j e).elim (fun e => e) (fun e => absurd e (by omega)))
        have gW2 : ∀ j, S2 j → S j ∨ wi.heap.size ≤ j := fun j e => (gS j e).elim (gW j) (fun e => .inr (Nat.le_trans hkp.size e))
        clear kS gS lv b0 row hkp gW hgl hx0 hy0 hgc b0c0 hvr
        by_cases h0 : er = 0
        · subst h0
          have WN := Lib.hid (show wrap64 ((mk : Int) + 1) = (mk : Int) + 1 from IntWalk.wrap64_in _ ⟨by omega, by omega⟩)
          go_wp2
          go_roundw
          case rel => exact ⟨k + 1, S2, by omega, by go_num, by rw [HE.out]; first | (simp; done) | (simp; exact WN.out), by rw [HE.out]; exact lv2, gW2, hkp2, bel2, b02, c0, row2, cu0⟩
          case measure => simp [intOf]; omega
        · have q0 : (er == 0) = false := beq_eq_false_iff_ne.2 h0
          go_wp2
          go_roundw
          case rel => exact ⟨k + 1, S2, by omega, by go_num, by rw [HE.out]; simp [h0], by rw [HE.out]; exact lv2, gW2, hkp2, bel2, b02, c0, row2, cu0⟩
          case measure => simp [intOf]; omega
    · obtain rfl : k = p.locs.length := by omega
      have q1 : decide (((p.locs.length : Nat) : Int) < (p.locs.length : Int)) = false := by simp
      go_wp2
      go_ret2
      exact ⟨rfl, S', lv, gW, hkp, hbW⟩
end Go.Proofs.YtmdjbmhjnajpgaaDoor
