/- Package dev: slices.DeleteFunc at the closures of Lose and Spoil: contracts. -/
import Derived.Test.YtcamcjcmhjldpaaDoorDvC
namespace Go.Proofs.YtcamcjcmhjldpaaDoor
open Go.RowKit
set_option linter.unusedSimpArgs false
set_option linter.unnecessarySimpa false
set_option linter.unusedVariables false

/-- what slices.DeleteFunc has done when it has come to element j -/
structure Kept (p : Wr → Bool) (l : List Wr) (j i : Nat) (cur : List Wr) : Prop where
  len : cur.length = l.length
  lt : i < j
  le : j ≤ l.length
  low : cur.take i = (l.take j).filter fun x => !p x
  high : cur.drop j = l.drop j
theorem Kept.at {p : Wr → Bool} {l : List Wr} {j i : Nat} {cur : List Wr} (h : Kept p l j i cur) (hj : j < l.length) : cur[j]'(by have := h.len; omega) = l[j] := by
  have e1 := List.getElem?_drop (xs := cur) (i := j) (j := 0)
  have e2 := List.getElem?_drop (xs := l) (i := j) (j := 0)
  rw [h.high] at e1
  rw [e1] at e2
  have hl := h.len
  rw [Nat.add_zero, List.getElem?_eq_getElem (by omega), List.getElem?_eq_getElem hj] at e2
  simpa using e2
theorem Kept.skip {p : Wr → Bool} {l : List Wr} {j i : Nat} {cur : List Wr} (h : Kept p l j i cur) (hj : j < l.length) (hp : p l[j] = true) : Kept p l (j + 1) i cur := by
  refine ⟨h.len, by have := h.lt; omega, hj, ?_, ?_⟩
  · rw [List.take_succ_eq_append_getElem hj, List.filter_append, h.low]; simp [hp]
  · have := congrArg (List.drop 1) h.high
    simpa [List.drop_drop] using this
theorem Kept.keep {p : Wr → Bool} {l : List Wr} {j i : Nat} {cur : List Wr} (h : Kept p l j i cur) (hj : j < l.length) (hp : p l[j] = false) : Kept p l (j + 1) (i + 1) (cur.set i l[j]) := by
  have hl := h.len
  have hlt := h.lt
  refine ⟨by simpa using h.len, by omega, hj, ?_, ?_⟩
  · have hi : i < (cur.set i l[j]).length := by rw [List.length_set]; omega
    rw [List.take_succ_eq_append_getElem hi, List.take_set_of_le (Nat.le_refl _), List.getElem_set_self, List.take_succ_eq_append_getElem hj, List.filter_append, h.low]
    simp [hp]
  · rw [List.drop_set_of_lt (by omega)]
    have := congrArg (List.drop 1) h.high
    simpa [List.drop_drop] using this
theorem Kept.start {p : Wr → Bool} {l : List Wr} {k : Nat} (hk : k < l.length) (hp : p l[k] = true) (hno : ∀ x ∈ l.take k, p x = false) : Kept p l (k + 1) k l := by
  refine ⟨rfl, by omega, hk, ?_, rfl⟩
  rw [List.take_succ_eq_append_getElem hk, List.filter_append]
  simp [hp]
  rw [List.filter_eq_self.2]
  intro x hx
  simp [hno x hx]
theorem Kept.done {p : Wr → Bool} {l : List Wr} {i : Nat} {cur : List Wr} (h : Kept p l l.length i cur) : cur.take i = l.filter fun x => !p x := by
  have := h.low
  rwa [List.take_length] at this
theorem wrsV_set : ∀ (l : List Wr) (i : Nat) (x : Wr), (((wrsV l).set (i * 3) (.int .i64 x.loc.dev)).set (i * 3 + 1) (.int .i64 x.loc.pos)).set (i * 3 + 2) (.string (bstr x.text)) = wrsV (l.set i x)
  | [], i, x => by simp [wrsV]
  | a :: l, 0, x => by simp [wrsV, wrV]
  | a :: l, i + 1, x => by
    have ih := wrsV_set l i x
    have e : ∀ (b : Wr) (m : List Wr), wrsV (b :: m) = .int .i64 b.loc.dev :: .int .i64 b.loc.pos :: .string (bstr b.text) :: wrsV m := fun _ _ => rfl
    rw [List.set_cons_succ, e, e, show (i + 1) * 3 = i * 3 + 1 + 1 + 1 by omega, ← ih]
    simp [List.set_cons_succ]
theorem wrsV_take (l : List Wr) : ∀ i, (wrsV l).take (i * 3) = wrsV (l.take i) := by
  induction l with
  | nil => intro i; simp [wrsV]
  | cons a l ih =>
    intro i
    cases i with
    | zero => simp [wrsV]
    | succ i =>
      have e : ∀ (b : Wr) (m : List Wr), wrsV (b :: m) = .int .i64 b.loc.dev :: .int .i64 b.loc.pos :: .string (bstr b.text) :: wrsV m := fun _ _ => rfl
      rw [List.take_succ_cons, e, e, show (i + 1) * 3 = i * 3 + 1 + 1 + 1 by omega, ← ih i]
      simp [List.take_succ_cons]
theorem wrsV_len (l : List Wr) : (wrsV l).length = l.length * 3 := by
  induction l with
  | nil => rfl
  | cons a l ih =>
    have e : ∀ (b : Wr) (m : List Wr), wrsV (b :: m) = .int .i64 b.loc.dev :: .int .i64 b.loc.pos :: .string (bstr b.text) :: wrsV m := fun _ _ => rfl
    rw [e]; simp [ih]; omega

def zWr : Wr := ⟨⟨0, 0⟩, []⟩
theorem zero_wr (w : World) : (zeroValue 82).run Tryd.prog w = .ok (.agg #[.int .i64 0, .int .i64 0, .string ⟨#[]⟩]) w := by kernel_rfl

set_option maxHeartbeats 2000000 in
theorem dell_any (v : Value) (l : List Wr) (kb : Nat) (w : World) (dv : Int) (hb : Blk w kb 3 #[.int .i64 dv]) (hown : Owns w 82 3 v l.length (wrsV l)) (hn : l.length ≤ 100000) :
    Calls Tryd.prog 65 #[v, .func (.func 50) #[] #[.pointer (some ⟨kb, 0, none⟩)]] w fun e w' => (∃ v', e = .returned v' ∧ Owns w' 82 3 v' (l.filter (fun x => !(fun x => x.loc.dev == dv) x)).length (wrsV (l.filter (fun x => !(fun x => x.loc.dev == dv) x))) ∧ zblock v' = zblock v) ∧ Keep w.heap.size (fun k => zblock v = some k) w w' := by
  obtain ⟨A, c, rfl, hlc, hcm⟩ := hown.form
  go_enter Tryd.func65, Tryd.ntmps65
  go_wp2_with fail
  refine (idxl_any _ l kb w dv hb hown hn).mono ?_
  rintro e w1 ⟨⟨i, rfl, hi⟩, b1⟩
  rcases hi with ⟨rfl, hno⟩ | ⟨k, hk, rfl, hp, hno⟩
  · have hfil : l.filter (fun x => !(fun x => x.loc.dev == dv) x) = l := List.filter_eq_self.2 (fun x hx => by have := hno x hx; simpa using this)
    have ho1 := Lib.hid (hown.below b1)
    have HF := Lib.hid hfil
    clear hno hfil hown
    go_wp2
    go_ret
    exact ⟨⟨_, rfl, by rw [HF.out]; exact ho1.out, rfl⟩, Keep.of_below b1⟩
  · have q1 : ((k : Int) == -1) = false := beq_eq_false_iff_ne.2 (by omega)
    obtain ⟨gr, rfl⟩ : ∃ gr, A = some ⟨gr, 0, none⟩ := by
      rcases (hown.row (by omega)).2 with ⟨_, h0⟩ | ⟨gr, cap, cur, e, _⟩
      · omega
      · simp at e; exact ⟨gr, e.1⟩
    have hst := Lib.hid (Kept.start (p := fun x => x.loc.dev == dv) hk hp hno)
    have zr : Hid (zblock (.slice (some ⟨gr, 0, none⟩) l.length c) = some gr) := by rw [zblock_some (by omega)]; exact Lib.hid rfl
    have hbr : kb ≠ gr := by
      intro e; subst e
      exact (row_ne (hown.row (by omega)) hb (by decide)) rfl
    have hbl := hb.lt
    have hown1 := (hown.below b1).row (by omega)
    have bsz := b1.size
    clear hown hp hno
    go_wp2
    go_loopw [5, 6] (fun u5 u6 wr => ∃ (i j : Nat) (cur : List Wr), u5 = .int .i64 i ∧ u6 = .int .i64 j ∧ Hid (Kept (fun x => x.loc.dev == dv) l j i cur) ∧ j ≤ l.length ∧ i < j ∧ wr.ownsRow 0 82 3 (.slice (some ⟨gr, 0, none⟩) l.length c) l.length (wrsV cur) ∧ Keep w.heap.size (· = gr) w wr) (fun _ u6 _ => l.length - (intOf u6).toNat)
    case atStart => exact ⟨k, k + 1, l, rfl, by go_num, hst, by omega, by omega, hown1, Keep.of_below b1⟩
    case round =>
      obtain ⟨i, j, cur, rfl, rfl, HK, hjl, hij, ho, kw⟩ := hrel
      have hcl : Hid (cur.length = l.length) := Lib.hid HK.out.len
      have ksz := kw.size
      by_cases hlt : j < l.length
      · obtain ⟨g1, g2, g3⟩ := wrsV_get cur j (by rw [hcl.out]; exact hlt)
        have y0 := ho.cellAt (j * 3) (by omega)
        have y1 := ho.cellAt (j * 3 + 1) (by omega)
        have y2 := ho.cellAt (j * 3 + 2) (by omega)
        rw [g1] at y0
        rw [g2] at y1
        rw [g3] at y2
        rw [HK.out.at hlt] at y0 y1 y2
        clear g1 g2 g3
        obtain ⟨b, hb2⟩ : ∃ b, (fun x => x.loc.dev == dv) l[j] = b := ⟨_, rfl⟩
        have HB := Lib.hid hb2
        go_wp2_with fail
        obtain ⟨w5, hw5⟩ : ∃ x, wr.alloc (.cells #[.int .i64 l[j].loc.dev, .int .i64 l[j].loc.pos, .string (bstr l[j].text)] 82) = x := ⟨_, rfl⟩
        obtain ⟨gl, hgl⟩ : ∃ g, wr.heap.size = g := ⟨_, rfl⟩
        have bl : Below wr.heap.size wr w5 := by rw [← hw5]; exact (Below.refl _ _).alloc (Nat.le_refl _) _
        have hl : Blk w5 gl 82 #[.int .i64 l[j].loc.dev, .int .i64 l[j].loc.pos, .string (bstr l[j].text)] := by rw [← hw5, ← hgl]; exact Blk.new _ _ _
        have hgr := row_lt ho
        rw [hw5]
        try rw [hgl]
        clear y0 y1 y2
        refine (ls1_any kb dv l[j] w5 ((hb.keep kw hbl hbr).below bl (by omega))).mono ?_
        rintro e w6 ⟨rfl, b6⟩
        try simp only at hb2
        rw [hb2]
        clear hb2
        have ho6 := row_below (row_below ho bl) b6
        have hl6 := hl.below b6 hl.lt
        have k6 : Keep w.heap.size (· = gr) w w6 := (kw.trans ((Keep.of_below bl).mono (B' := w.heap.size) (S' := (· = gr)) ksz (fun _ _ h => h))).trans ((Keep.of_below b6).mono (B' := w.heap.size) (S' := (· = gr)) (by have := bl.size; omega) (fun _ _ h => h))
        cases b
        · obtain ⟨d1, d2, d3⟩ := wrsV_get cur i (by rw [hcl.out]; omega)
          have x0 := ho6.cellAt (i * 3) (by omega)
          have x1 := ho6.cellAt (i * 3 + 1) (by omega)
          have x2 := ho6.cellAt (i * 3 + 2) (by omega)
          rw [d1] at x0
          rw [d2] at x1
          rw [d3] at x2
          clear d1 d2 d3
          have f0 := ho6.frozenAt (i * 3)
          have f1 := ho6.frozenAt (i * 3 + 1)
          have f2 := ho6.frozenAt (i * 3 + 2)
          have z0 := hl6.cell 0
          have z1 := hl6.cell 1
          have z2 := hl6.cell 2
          simp at z0 z1 z2
          have hfin : ((((w6.setCell ⟨gr, i * 3, none⟩ (.int .i64 l[j].loc.dev)).setCell ⟨gr, i * 3 + 1, none⟩ (.int .i64 l[j].loc.pos)).setCell ⟨gr, i * 3 + 2, none⟩ (.string (bstr l[j].text))).ownsRow 0 82 3 (.slice (some ⟨gr, 0, none⟩) l.length c) l.length (wrsV (cur.set i l[j]))) := by
            rw [← wrsV_set]
            exact ((((ho6.stored (i * 3) _).1).stored (i * 3 + 1) _).1.stored (i * 3 + 2) _).1
          have HFIN := Lib.hid hfin
          clear hfin
          have ho6' := Lib.hid ho6
          clear ho6
          go_wp2
          go_round
          case rel => exact ⟨i + 1, j + 1, cur.set i l[j], by go_num, by go_num, Lib.hid (HK.out.keep hlt HB.out), by omega, by omega, HFIN.out, ((k6.set1 _ _).set1 _ _).set1 _ _⟩
          case measure => simp [intOf]; omega
        · go_wp2
          go_round
          case rel => exact ⟨i, j + 1, cur, rfl, by go_num, Lib.hid (HK.out.skip hlt HB.out), by omega, by omega, ho6, k6⟩
          case measure => simp [intOf]; omega
      · obtain rfl : j = l.length := by omega
        obtain ⟨w9, hcl9, ho9, hg9⟩ := row_cleared (P := Tryd.prog) wr 73 82 _ 3 Tryd.underlying73 zero_wr rfl (by simp [Value.cells, Value.oneCell']) gr l.length c (c - i) i (l.length - i) (wrsV cur) ho (by omega) (by omega)
        have hfin : Hid (w9.ownsRow 0 82 3 (.slice (some ⟨gr, 0, none⟩) i c) i (wrsV (cur.take i))) := by
          have := row_cut ho9 (i := i) (by omega)
          rw [List.take_append_of_le_length (by rw [List.length_take, wrsV_len, hcl.out]; omega), List.take_take, Nat.min_self, wrsV_take] at this
          exact Lib.hid this
        have kw9 : Keep w.heap.size (· = gr) w w9 := kw.grown hg9 (fun k e _ => by cases e; rfl) ksz
        have hlen : Hid ((l.filter (fun x => !(fun x => x.loc.dev == dv) x)).length = i) := by
          rw [← HK.out.done, List.length_take, hcl.out]; exact Lib.hid (by omega)
        clear ho9 ho
        go_wp2
        go_ret
        refine ⟨⟨.slice (some ⟨gr, 0, none⟩) i c, rfl, ?_, ?_⟩, kw9.mono (Nat.le_refl _) (fun k _ e => by rw [zr.out, e])⟩
        · have e1 := HK.out.done
          rw [← e1]
          have e2 : (cur.take i).length = i := by rw [List.length_take, hcl.out]; omega
          rw [e2]
          exact Owns.of hfin.out (by omega)
        · rw [zr.out, zblock_some (by omega)]

set_option maxHeartbeats 2000000 in
theorem dels_any (v : Value) (l : List Wr) (kb : Nat) (w : World) (lc : Lc) (hb : Blk w kb 51 #[.int .i64 lc.dev, .int .i64 lc.pos]) (hown : Owns w 82 3 v l.length (wrsV l)) (hn : l.length ≤ 100000) :
    Calls Tryd.prog 65 #[v, .func (.func 47) #[] #[.pointer (some ⟨kb, 0, none⟩)]] w fun e w' => (∃ v', e = .returned v' ∧ Owns w' 82 3 v' (l.filter (fun x => !(fun x => decide (x.loc = lc)) x)).length (wrsV (l.filter (fun x => !(fun x => decide (x.loc = lc)) x))) ∧ zblock v' = zblock v) ∧ Keep w.heap.size (fun k => zblock v = some k) w w' := by
  obtain ⟨A, c, rfl, hlc, hcm⟩ := hown.form
  go_enter Tryd.func65, Tryd.ntmps65
  go_wp2_with fail
  refine (idxs_any _ l kb w lc hb hown hn).mono ?_
  rintro e w1 ⟨⟨i, rfl, hi⟩, b1⟩
  rcases hi with ⟨rfl, hno⟩ | ⟨k, hk, rfl, hp, hno⟩
  · have hfil : l.filter (fun x => !(fun x => decide (x.loc = lc)) x) = l := List.filter_eq_self.2 (fun x hx => by have := hno x hx; simpa using this)
    have ho1 := Lib.hid (hown.below b1)
    have HF := Lib.hid hfil
    clear hno hfil hown
    go_wp2
    go_ret
    exact ⟨⟨_, rfl, by rw [HF.out]; exact ho1.out, rfl⟩, Keep.of_below b1⟩
  · have q1 : ((k : Int) == -1) = false := beq_eq_false_iff_ne.2 (by omega)
    obtain ⟨gr, rfl⟩ : ∃ gr, A = some ⟨gr, 0, none⟩ := by
      rcases (hown.row (by omega)).2 with ⟨_, h0⟩ | ⟨gr, cap, cur, e, _⟩
      · omega
      · simp at e; exact ⟨gr, e.1⟩
    have hst := Lib.hid (Kept.start (p := fun x => decide (x.loc = lc)) hk hp hno)
    have zr : Hid (zblock (.slice (some ⟨gr, 0, none⟩) l.length c) = some gr) := by rw [zblock_some (by omega)]; exact Lib.hid rfl
    have hbr : kb ≠ gr := by
      intro e; subst e
      exact (row_ne (hown.row (by omega)) hb (by decide)) rfl
    have hbl := hb.lt
    have hown1 := (hown.below b1).row (by omega)
    have bsz := b1.size
    clear hown hp hno
    go_wp2
    go_loopw [5, 6] (fun u5 u6 wr => ∃ (i j : Nat) (cur : List Wr), u5 = .int .i64 i ∧ u6 = .int .i64 j ∧ Hid (Kept (fun x => decide (x.loc = lc)) l j i cur) ∧ j ≤ l.length ∧ i < j ∧ wr.ownsRow 0 82 3 (.slice (some ⟨gr, 0, none⟩) l.length c) l.length (wrsV cur) ∧ Keep w.heap.size (· = gr) w wr) (fun _ u6 _ => l.length - (intOf u6).toNat)
    case atStart => exact ⟨k, k + 1, l, rfl, by go_num, hst, by omega, by omega, hown1, Keep.of_below b1⟩
    case round =>
      obtain ⟨i, j, cur, rfl, rfl, HK, hjl, hij, ho, kw⟩ := hrel
      have hcl : Hid (cur.length = l.length) := Lib.hid HK.out.len
      have ksz := kw.size
      by_cases hlt : j < l.length
      · obtain ⟨g1, g2, g3⟩ := wrsV_get cur j (by rw [hcl.out]; exact hlt)
        have y0 := ho.cellAt (j * 3) (by omega)
        have y1 := ho.cellAt (j * 3 + 1) (by omega)
        have y2 := ho.cellAt (j * 3 + 2) (by omega)
        rw [g1] at y0
        rw [g2] at y1
        rw [g3] at y2
        rw [HK.out.at hlt] at y0 y1 y2
        clear g1 g2 g3
        obtain ⟨b, hb2⟩ : ∃ b, (fun x => decide (x.loc = lc)) l[j] = b := ⟨_, rfl⟩
        have HB := Lib.hid hb2
        go_wp2_with fail
        obtain ⟨w5, hw5⟩ : ∃ x, wr.alloc (.cells #[.int .i64 l[j].loc.dev, .int .i64 l[j].loc.pos, .string (bstr l[j].text)] 82) = x := ⟨_, rfl⟩
        obtain ⟨gl, hgl⟩ : ∃ g, wr.heap.size = g := ⟨_, rfl⟩
        have bl : Below wr.heap.size wr w5 := by rw [← hw5]; exact (Below.refl _ _).alloc (Nat.le_refl _) _
        have hl : Blk w5 gl 82 #[.int .i64 l[j].loc.dev, .int .i64 l[j].loc.pos, .string (bstr l[j].text)] := by rw [← hw5, ← hgl]; exact Blk.new _ _ _
        have hgr := row_lt ho
        rw [hw5]
        try rw [hgl]
        clear y0 y1 y2
        refine (sp1_any kb lc l[j] w5 ((hb.keep kw hbl hbr).below bl (by omega))).mono ?_
        rintro e w6 ⟨rfl, b6⟩
        try simp only at hb2
        rw [hb2]
        clear hb2
        have ho6 := row_below (row_below ho bl) b6
        have hl6 := hl.below b6 hl.lt
        have k6 : Keep w.heap.size (· = gr) w w6 := (kw.trans ((Keep.of_below bl).mono (B' := w.heap.size) (S' := (· = gr)) ksz (fun _ _ h => h))).trans ((Keep.of_below b6).mono (B' := w.heap.size) (S' := (· = gr)) (by have := bl.size; omega) (fun _ _ h => h))
        cases b
        · obtain ⟨d1, d2, d3⟩ := wrsV_get cur i (by rw [hcl.out]; omega)
          have x0 := ho6.cellAt (i * 3) (by omega)
          have x1 := ho6.cellAt (i * 3 + 1) (by omega)
          have x2 := ho6.cellAt (i * 3 + 2) (by omega)
          rw [d1] at x0
          rw [d2] at x1
          rw [d3] at x2
          clear d1 d2 d3
          have f0 := ho6.frozenAt (i * 3)
          have f1 := ho6.frozenAt (i * 3 + 1)
          have f2 := ho6.frozenAt (i * 3 + 2)
          have z0 := hl6.cell 0
          have z1 := hl6.cell 1
          have z2 := hl6.cell 2
          simp at z0 z1 z2
          have hfin : ((((w6.setCell ⟨gr, i * 3, none⟩ (.int .i64 l[j].loc.dev)).setCell ⟨gr, i * 3 + 1, none⟩ (.int .i64 l[j].loc.pos)).setCell ⟨gr, i * 3 + 2, none⟩ (.string (bstr l[j].text))).ownsRow 0 82 3 (.slice (some ⟨gr, 0, none⟩) l.length c) l.length (wrsV (cur.set i l[j]))) := by
            rw [← wrsV_set]
            exact ((((ho6.stored (i * 3) _).1).stored (i * 3 + 1) _).1.stored (i * 3 + 2) _).1
          have HFIN := Lib.hid hfin
          clear hfin
          have ho6' := Lib.hid ho6
          clear ho6
          go_wp2
          go_round
          case rel => exact ⟨i + 1, j + 1, cur.set i l[j], by go_num, by go_num, Lib.hid (HK.out.keep hlt HB.out), by omega, by omega, HFIN.out, ((k6.set1 _ _).set1 _ _).set1 _ _⟩
          case measure => simp [intOf]; omega
        · go_wp2
          go_round
          case rel => exact ⟨i, j + 1, cur, rfl, by go_num, Lib.hid (HK.out.skip hlt HB.out), by omega, by omega, ho6, k6⟩
          case measure => simp [intOf]; omega
      · obtain rfl : j = l.length := by omega
        obtain ⟨w9, hcl9, ho9, hg9⟩ := row_cleared (P := Tryd.prog) wr 73 82 _ 3 Tryd.underlying73 zero_wr rfl (by simp [Value.cells, Value.oneCell']) gr l.length c (c - i) i (l.length - i) (wrsV cur) ho (by omega) (by omega)
        have hfin : Hid (w9.ownsRow 0 82 3 (.slice (some ⟨gr, 0, none⟩) i c) i (wrsV (cur.take i))) := by
          have := row_cut ho9 (i := i) (by omega)
          rw [List.take_append_of_le_length (by rw [List.length_take, wrsV_len, hcl.out]; omega), List.take_take, Nat.min_self, wrsV_take] at this
          exact Lib.hid this
        have kw9 : Keep w.heap.size (· = gr) w w9 := kw.grown hg9 (fun k e _ => by cases e; rfl) ksz
        have hlen : Hid ((l.filter (fun x => !(fun x => decide (x.loc = lc)) x)).length = i) := by
          rw [← HK.out.done, List.length_take, hcl.out]; exact Lib.hid (by omega)
        clear ho9 ho
        go_wp2
        go_ret
        refine ⟨⟨.slice (some ⟨gr, 0, none⟩) i c, rfl, ?_, ?_⟩, kw9.mono (Nat.le_refl _) (fun k _ e => by rw [zr.out, e])⟩
        · have e1 := HK.out.done
          rw [← e1]
          have e2 : (cur.take i).length = i := by rw [List.length_take, hcl.out]; omega
          rw [e2]
          exact Owns.of hfin.out (by omega)
        · rw [zr.out, zblock_some (by omega)]

end Go.Proofs.YtcamcjcmhjldpaaDoor
