/- Package dev: Read: its contract. -/
import Derived.Test.YtcamcjcmhjldpaaDoorDvG
namespace Go.Proofs.YtcamcjcmhjldpaaDoor
open Go.RowKit Go.Shelf
set_option linter.unusedSimpArgs false
set_option linter.unnecessarySimpa false
set_option linter.unusedVariables false

attribute [local go_sem] Oper.semAt_some

/-- what is read at a place: the last write that waits there, or the sector -/
def Dv.look (d : Dv) (l : Lc) : List UInt8 := d.ws.foldl (fun s x => if x.loc = l then x.text else s) ((d.sec l.dev).getD l.pos.toNat [])
theorem fold_none {l : Lc} : ∀ (ws : List Wr) (s : List UInt8), (∀ x ∈ ws, x.loc ≠ l) → ws.foldl (fun s x => if x.loc = l then x.text else s) s = s
  | [], _, _ => rfl
  | a :: ws, s, h => by
    rw [List.foldl_cons, if_neg (h a (by simp))]
    exact fold_none ws s (fun x hx => h x (by simp [hx]))
theorem look_none {d : Dv} {l : Lc} {pre : List IW} (hc : Came d.ws 0 pre) (h : ∀ y ∈ pre, y.2.loc ≠ l) : d.look l = (d.sec l.dev).getD l.pos.toNat [] := by
  refine fold_none _ _ (fun x hx => ?_)
  have : x ∈ pre.map Prod.snd := by rw [hc.2]; simpa using hx
  obtain ⟨y, hy, rfl⟩ := List.mem_map.1 this
  exact h y hy
theorem look_hit {d : Dv} {l : Lc} {m : Nat} {pre : List IW} {x : IW} (hc : Came d.ws m (pre ++ [x])) (h : ∀ y ∈ pre, y.2.loc ≠ l) (hx : x.2.loc = l) : d.look l = x.2.text := by
  have e1 : d.ws.drop m = x.2 :: (pre.map Prod.snd).reverse := by
    have := congrArg List.reverse hc.2
    rw [List.reverse_reverse, List.map_append, List.reverse_append] at this
    exact this.symm
  unfold Dv.look
  rw [← List.take_append_drop m d.ws, e1, List.foldl_append, List.foldl_cons, if_pos hx]
  refine fold_none _ _ (fun y hy => ?_)
  rw [List.mem_reverse] at hy
  obtain ⟨z, hz, rfl⟩ := List.mem_map.1 hy
  exact h z hz

theorem blk_own {β : Type} (g : Nat) (t : TypeId) (f : β → Array Value) : Own (fun s W => Blk W g t (f s)) := fun s X Y row hs hg hrow =>
  hs.grown hg (fun e' => by obtain ⟨o, ho, hc⟩ := hrow g e'.symm; rw [show X.heap[g]? = _ from hs] at ho; cases ho; cases hc)
theorem blk_kept {X Y : World} {row : Option Nat} {g : Nat} {t : TypeId} {cs : Array Value} (h : Blk X g t cs) (hg : X.grownBy Y row) (hr : ∀ r, row = some r → ∃ o : Obj, X.heap[r]? = some o ∧ o.isCells = false) : Blk Y g t cs :=
  h.grown hg (fun e' => by obtain ⟨o, ho, hc⟩ := hr g e'.symm; rw [show X.heap[g]? = _ from h] at ho; cases ho; cases hc)

theorem cell_far {X : World} {p q : Addr} {u : Value} (h : X.cell? p = some u) (hne : p.block ≠ q.block) (x : Value) : (X.setCell q x).cell? p = some u := by
  rw [← h]
  exact World.cell?_of_block (Below.heap_setCell X q x p.block hne)

/-- what Read's loop keeps -/
def RdI (w : World) (G B : Nat) (lc : Lc) (pre : List IW) (W : World) : Prop :=
  (B ≤ W.heap.size ∧ (∀ y ∈ pre, y.2.loc ≠ lc) ∧ Blk W G 51 #[.int .i64 lc.dev, .int .i64 lc.pos] ∧ Blk W (G + 1) 9 #[.string ⟨#[]⟩] ∧ Blk W (G + 1 + 1) 25 #[.int .i64 0]) ∧ Below w.heap.size w W
def RdX (w : World) (G : Nat) (lc : Lc) (c : Code) (pre : List IW) (W : World) : Prop :=
  (c = .ret ∧ ∃ pre' x, pre = pre' ++ [x] ∧ (∀ y ∈ pre', y.2.loc ≠ lc) ∧ x.2.loc = lc ∧ Blk W (G + 1) 9 #[.string (bstr x.2.text)] ∧ Blk W (G + 1 + 1) 25 #[.int .i64 0]) ∧ Below w.heap.size w W
theorem rdI_own (w : World) (G B : Nat) (lc : Lc) (hB : w.heap.size ≤ B) : OwnFrom B (RdI w G B lc) :=
  OwnFrom.and (Own.from (fun s X Y row hs hg hr => ⟨Nat.le_trans hs.1 hg.size, hs.2.1, blk_kept hs.2.2.1 hg hr, blk_kept hs.2.2.2.1 hg hr, blk_kept hs.2.2.2.2 hg hr⟩) _) (ownFrom_below (Nat.le_refl _) hB)
theorem rdX_own (w : World) (G B : Nat) (lc : Lc) (hB : w.heap.size ≤ B) (c : Code) : OwnFrom B (RdX w G lc c) :=
  OwnFrom.and (Own.from (fun s X Y row hs hg hr => by
    obtain ⟨h1, pre', x, h2, h3, h4, h5, h6⟩ := hs
    exact ⟨h1, pre', x, h2, h3, h4, blk_kept h5 hg hr, blk_kept h6 hg hr⟩) _) (ownFrom_below (Nat.le_refl _) hB)

set_option maxRecDepth 100000 in
set_option maxHeartbeats 4000000 in
theorem read_ok0 (g b0 b1 : Nat) (v : Value) (d : Dv) (k : Nat) (he : Hid (mayE d ⟨0, k⟩ [] = 0)) (hn : d.ws.length ≤ 100000) (w : World) (h : DvAt w g b0 b1 v d) :
    Calls Tryd.prog 44 #[.pointer (some ⟨g, 0, none⟩), .agg #[.int .i64 0, .int .i64 k]] w fun e w' => e = .returned (.tuple #[.string (bstr (d.look ⟨0, k⟩)), .int .i64 0]) ∧ Below w.heap.size w w' := by
  refine (callsIn_wide (n := 6)).1 ?_
  refine callsIn_of_wp_marks Tryd.func44 rfl trivial ?_ rfl
  simp only [Tryd.ntmps44, List.size_toArray, List.length_cons, List.length_nil, Nat.reduceAdd, Nat.reduceSub, Array.replicate_succ, Array.replicate_zero, List.push_toArray, List.append_toArray, List.nil_append, List.cons_append]
  refine wpIn_wide.2 ?_
  go_wp2_with fail
  obtain ⟨G, hG⟩ : ∃ g, w.heap.size = g := ⟨_, rfl⟩
  obtain ⟨w0, hw0⟩ : ∃ x, ((w.alloc (.cells #[.int .i64 0, .int .i64 k] 51)).alloc (.cells #[.string ⟨#[]⟩] 9)).alloc (.cells #[.int .i64 0] 25) = x := ⟨_, rfl⟩
  have bx : Below w.heap.size w w0 := by rw [← hw0]; exact (((Below.refl _ _).alloc (Nat.le_refl _) _).alloc (by simp) _).alloc (by simp; omega) _
  have hx : Blk w0 G 51 #[.int .i64 0, .int .i64 k] := by rw [← hw0, ← hG]; exact ((Blk.new _ _ _).alloc _).alloc _
  have hr : Blk w0 (G + 1) 9 #[.string ⟨#[]⟩] := by rw [← hw0, ← hG]; exact (blk_at (by simp)).alloc _
  have hq : Blk w0 (G + 1 + 1) 25 #[.int .i64 0] := by rw [← hw0, ← hG]; exact blk_at (by simp)
  rw [hw0]
  try rw [hG]
  refine (may_to he.out g b0 b1 v w0 (h.below bx)).mono ?_
  rintro e w1 ⟨rfl, c1⟩
  have k1 := bx.trans (c1.mono bx.size)
  have h1 := h.below k1
  have hx1 := hx.below c1 hx.lt
  have hr1 := hr.below c1 hr.lt
  have hq1 := hq.below c1 hq.lt
  have y4 := h1.cell4.1
  obtain ⟨A, c, rfl, _, _⟩ := h.form
  go_wp2_with fail
  refine (bw_any _ _ _ w1).mono ?_
  rintro e w2 ⟨rfl, hw2⟩
  have b2 : Below w1.heap.size w1 w2 := by rw [← hw2]; exact (Below.refl _ _).alloc (Nat.le_refl _) _
  have hb2 : Blk w2 w1.heap.size 73 #[.slice A d.ws.length c] := by rw [← hw2]; exact Blk.new _ _ _
  have k2 := k1.trans (b2.mono k1.size)
  have h2 := h.below k2
  have hx2 := hx1.below b2 hx1.lt
  have hr2 := hr1.below b2 hr1.lt
  have hq2 := hq1.below b2 hq1.lt
  have hsz2 : w1.heap.size < w2.heap.size := hb2.lt
  have hG2 : G + 1 + 1 < w2.heap.size := hq2.lt
  clear hw2 hw0 hx hr hq hx1 hr1 hq1 y4
  go_wp2_with fail
  have hzl : ∀ j, zblock (.slice A d.ws.length c) = some j → j < w2.heap.size := fun j e => h2.hw.lt e
  refine wpIn_wide.1 (?_ : Code.wpIn Fence.wide 6 _ _ _ _ _)
  refine wpIn_rangeFunc_ownH rfl (by decide) (gf := 71) (lb := #[.pointer (some ⟨w1.heap.size, 0, none⟩)]) rfl trivial (enters_of Tryd.func71 (by kernel_rfl) rfl)
    (bw_stops Fence.wide 5 trivial rfl (by decide) w1.heap.size w2.heap.size _ d.ws hn w2 hsz2 (Nat.le_refl _) (by have := hb2.cell 0; simpa using this) h2.hw hzl) belowK_t (belowK_b (Nat.le_refl _)) (Below.refl _ _) (fun _ => rfl)
    (RdI w G w2.heap.size ⟨0, k⟩) (RdX w G ⟨0, k⟩) (rdI_own w G _ _ k2.size) (rdX_own w G _ _ k2.size) ⟨⟨Nat.le_refl _, by simp, hx2, hr2, hq2⟩, k2⟩
    (fun x a' W => ∃ Bx, G + 1 + 1 < Bx ∧ Blk W Bx 82 #[.int .i64 x.2.loc.dev, .int .i64 x.2.loc.pos, .string (bstr x.2.text)] ∧ a' = { tmps := #[.pointer (some ⟨g, 0, none⟩), .agg #[.int .i64 0, .int .i64 k], undef, .pointer (some ⟨G, 0, none⟩), .pointer (some ⟨G + 1, 0, none⟩), .pointer (some ⟨G + 1 + 1, 0, none⟩), .int .i64 0, undef, .pointer (some ⟨Bx, 0, none⟩), .pointer (some ⟨g, 0, none⟩), .agg #[.int .i64 0, .int .i64 k], .int .i64 0, .int .i64 0, .bool false, undef, .pointer (some ⟨g, 0, none⟩), .pointer (some ⟨g, 0, none⟩), .pointer (some ⟨g, 4, none⟩), .slice A d.ws.length c, .func (.func 71) #[] #[.pointer (some ⟨w1.heap.size, 0, none⟩)], .int .i64 (x.1 : Int), .agg #[.int .i64 x.2.loc.dev, .int .i64 x.2.loc.pos, .string (bstr x.2.text)], undef, undef, undef, undef, undef, undef, undef, undef, undef, undef, undef, undef, undef, undef, undef, undef, undef], defers := [] })
    (fun x a' _ X Y row hs hg hr => by obtain ⟨Bx, h1, h2, h3⟩ := hs; exact ⟨Bx, h1, blk_kept h2 hg (fun r e => (hr r e).2), h3⟩)
    ?assign ?body ?done ?stop
  case assign =>
    rintro l pre x W K ⟨⟨hB2, hp, bx, br, bq⟩, hB⟩ hK
    simp only [encIW]
    gi_wp2
    exact hK _ _ ((KeepsOthers.alloc _ _).from _) ((Below.refl _ W).alloc hB2 _) ⟨⟨by simp; omega, hp, bx.alloc _, br.alloc _, bq.alloc _⟩, hB.alloc hB.size _⟩ ⟨W.heap.size, bq.lt, Blk.new W _ _, rfl⟩
  case body =>
    rintro l pre ⟨ix, ⟨⟨dv, ps⟩, tx⟩⟩ a' W hl ⟨r, hr⟩ ⟨⟨hB2, hp, bx, br, bq⟩, hB⟩ ⟨Bx, hBx, bX, rfl⟩ hlt
    have x0 := bx.cell 0
    have x1 := bx.cell 1
    have r0 := br.cell 0
    have rf := br.frozen 0
    have q0 := bq.cell 0
    have qf := bq.frozen 0
    have e0 := bX.cell 0
    have e1 := bX.cell 1
    have e2 := bX.cell 2
    simp at x0 x1 r0 q0 e0 e1 e2
    gi_wp2
    · refine ⟨((KeepsOthers.setCell _ _ _).from _).trans ((KeepsOthers.setCell _ _ _).from _), ⟨rfl, pre, _, rfl, hp, rfl, ?_, ?_⟩, below_at (below_at hB (by omega) _ _) (by omega) _ _⟩
      · have := (br.set_ 0 (.string (bstr tx))).far (p := ⟨G + 1 + 1, 0, none⟩) (by simp) (.int .i64 0)
        simpa using this
      · have := (bq.far (p := ⟨G + 1, 0, none⟩) (by simp) (.string (bstr tx))).set_ 0 (.int .i64 0)
        simpa using this
    · rename_i hne
      exact ⟨KeepsFrom.refl _ _, Below.refl _ _, ⟨hB2, fun y hy => (List.mem_append.1 hy).elim (hp y) (fun e e' => by simp at e; subst e; simp at e'; exact hne e'), bx, br, bq⟩, hB⟩
    · rename_i hne
      exact ⟨KeepsFrom.refl _ _, Below.refl _ _, ⟨hB2, fun y hy => (List.mem_append.1 hy).elim (hp y) (fun e e' => by simp at e; subst e; simp at e'; exact hne e'.1), bx, br, bq⟩, hB⟩
  case done =>
    rintro D ys W hD hys ⟨⟨hB2, hne, bx, br, bq⟩, hB⟩ hK
    have hlook := Lib.hid (look_none hys hne)
    obtain ⟨c0, c1, hg, q0, q1⟩ := (h.below hB).hx
    have hmay := he.out
    have hk : k < d.s0.length := by
      unfold mayE at hmay
      split at hmay
      · cases hmay
      · rename_i hh
        simp [Dv.sec] at hh
        omega
    have hkl : (k : Int) < d.s0.length := by omega
    have hk0 : (0 : Int) ≤ k := by omega
    have hls : d.look ⟨0, k⟩ = d.s0[k] := by
      rw [hlook.out]
      simp [Dv.sec, hk]
    have HLS := Lib.hid hls
    clear hls hmay hlook
    have x0 := bx.cell 0
    have x1 := bx.cell 1
    have y0 := hg.cell 0
    have s0 := q0.cellAt k (by omega)
    rw [secV_get _ _ hk] at s0
    have r0 := br.cell 0
    have rf := br.frozen 0
    have t0 := bq.cell 0
    have tf := bq.frozen 0
    simp at x0 x1 y0 r0 t0
    have hgl := h.lt (k := g) (.inl rfl)
    have hbl := h.lt (k := b0) (.inr (.inl rfl))
    go_wp2_with fail
    go_region_held3 (fun w' => w'.cell? ⟨G, 0, none⟩ = some (.int .i64 0) ∧ w'.cell? ⟨G, 1, none⟩ = some (.int .i64 k) ∧ w'.cell? ⟨g, 0, none⟩ = some (.slice (some ⟨b0, 0, none⟩) d.s0.length c0) ∧ w'.cell? ⟨b0, k, none⟩ = some (.string (bstr d.s0[k])))
      (first | exact ⟨x0, x1, y0, s0⟩ | exact ⟨cell_far x0 (by simp) _, cell_far x1 (by simp) _, cell_far y0 (by simp; omega) _, cell_far s0 (by simp; omega) _⟩ | exact ⟨cell_far (cell_far x0 (by simp) _) (by simp; omega) _, cell_far (cell_far x1 (by simp) _) (by simp; omega) _, cell_far (cell_far y0 (by simp; omega) _) (by simp; omega) _, cell_far (cell_far s0 (by simp; omega) _) (by simp; omega) _⟩ | go_keep)
      (fail)
    obtain ⟨W9, hW9⟩ : ∃ X, ((W.setCell ⟨G + 1, 0, none⟩ (.string (bstr d.s0[k]))).setCell ⟨G + 1 + 1, 0, none⟩ (.int .i64 0)).drew = X := ⟨_, rfl⟩
    have hgt := bq.lt
    have hDl : G + 1 + 1 < D := by omega
    have hK9 : W9.heap[D]? = some (.deferred (some [])) := by
      rw [← hW9]
      exact (Below.heap_setCell _ ⟨G + 1 + 1, 0, none⟩ _ D (by simp; omega)).trans ((Below.heap_setCell _ ⟨G + 1, 0, none⟩ _ D (by simp; omega)).trans hK)
    have b9 : Below w.heap.size w W9 := by rw [← hW9]; exact (below_at (below_at hB (by omega) _ _) (by omega) _ _).drew
    have br9 : Blk W9 (G + 1) 9 #[.string (bstr d.s0[k])] := by
      rw [← hW9]
      have := ((br.set_ 0 (.string (bstr d.s0[k]))).far (p := ⟨G + 1 + 1, 0, none⟩) (by simp) (.int .i64 0)).drew
      simpa using this
    have bq9 : Blk W9 (G + 1 + 1) 25 #[.int .i64 0] := by
      rw [← hW9]
      have := ((bq.far (p := ⟨G + 1, 0, none⟩) (by simp) (.string (bstr d.s0[k]))).set_ 0 (.int .i64 0)).drew
      simpa using this
    rw [hW9]
    clear x0 x1 y0 s0 r0 rf t0 tf hg q0 q1 hW9
    go_wp2
    refine ⟨by simp, .inl ⟨_, _, rfl, run_takeDeferred hK9, ?_⟩⟩
    have br' := blk_kept br9 (grownBy_putObj' W9 D (.deferred none)) (fun r e => by cases e; exact ⟨_, hK9, rfl⟩)
    have bq' := blk_kept bq9 (grownBy_putObj' W9 D (.deferred none)) (fun r e => by cases e; exact ⟨_, hK9, rfl⟩)
    have r0 := br'.cell 0
    have q0 := bq'.cell 0
    simp at r0 q0
    refine ⟨.tuple #[.string (bstr d.s0[k]), .int .i64 0], ?_, by rw [HLS.out], b9.trans (belowK_b (w := w) (Nat.le_refl _) W9 D _ _ (by have := k2.size; omega) hK9 rfl rfl)⟩
    simp [results, Tryd.f44, go_sem, r0, q0]
  case stop =>
    rintro D c pre W hD hpre ⟨⟨rfl, pre', x, rfl, hne, hx, br, bq⟩, hB⟩ hK
    obtain ⟨m, hm⟩ := hpre
    have hlook := look_hit hm hne hx
    gi_wp2
    refine ⟨by simp, .inl ⟨_, _, rfl, run_takeDeferred hK, ?_⟩⟩
    have br' := blk_kept br (grownBy_putObj' W D (.deferred none)) (fun r e => by cases e; exact ⟨_, hK, rfl⟩)
    have bq' := blk_kept bq (grownBy_putObj' W D (.deferred none)) (fun r e => by cases e; exact ⟨_, hK, rfl⟩)
    have r0 := br'.cell 0
    have q0 := bq'.cell 0
    simp at r0 q0
    refine ⟨.tuple #[.string (bstr x.2.text), .int .i64 0], ?_, by rw [hlook], hB.trans (belowK_b (w := w) (Nat.le_refl _) W D _ _ (by have := k2.size; omega) hK rfl rfl)⟩
    simp [results, Tryd.f44, go_sem, r0, q0]

set_option maxRecDepth 100000 in
set_option maxHeartbeats 4000000 in
theorem read_ok1 (g b0 b1 : Nat) (v : Value) (d : Dv) (k : Nat) (he : Hid (mayE d ⟨1, k⟩ [] = 0)) (hn : d.ws.length ≤ 100000) (w : World) (h : DvAt w g b0 b1 v d) :
    Calls Tryd.prog 44 #[.pointer (some ⟨g, 0, none⟩), .agg #[.int .i64 1, .int .i64 k]] w fun e w' => e = .returned (.tuple #[.string (bstr (d.look ⟨1, k⟩)), .int .i64 0]) ∧ Below w.heap.size w w' := by
  refine (callsIn_wide (n := 6)).1 ?_
  refine callsIn_of_wp_marks Tryd.func44 rfl trivial ?_ rfl
  simp only [Tryd.ntmps44, List.size_toArray, List.length_cons, List.length_nil, Nat.reduceAdd, Nat.reduceSub, Array.replicate_succ, Array.replicate_zero, List.push_toArray, List.append_toArray, List.nil_append, List.cons_append]
  refine wpIn_wide.2 ?_
  go_wp2_with fail
  obtain ⟨G, hG⟩ : ∃ g, w.heap.size = g := ⟨_, rfl⟩
  obtain ⟨w0, hw0⟩ : ∃ x, ((w.alloc (.cells #[.int .i64 1, .int .i64 k] 51)).alloc (.cells #[.string ⟨#[]⟩] 9)).alloc (.cells #[.int .i64 0] 25) = x := ⟨_, rfl⟩
  have bx : Below w.heap.size w w0 := by rw [← hw0]; exact (((Below.refl _ _).alloc (Nat.le_refl _) _).alloc (by simp) _).alloc (by simp; omega) _
  have hx : Blk w0 G 51 #[.int .i64 1, .int .i64 k] := by rw [← hw0, ← hG]; exact ((Blk.new _ _ _).alloc _).alloc _
  have hr : Blk w0 (G + 1) 9 #[.string ⟨#[]⟩] := by rw [← hw0, ← hG]; exact (blk_at (by simp)).alloc _
  have hq : Blk w0 (G + 1 + 1) 25 #[.int .i64 0] := by rw [← hw0, ← hG]; exact blk_at (by simp)
  rw [hw0]
  try rw [hG]
  refine (may_to he.out g b0 b1 v w0 (h.below bx)).mono ?_
  rintro e w1 ⟨rfl, c1⟩
  have k1 := bx.trans (c1.mono bx.size)
  have h1 := h.below k1
  have hx1 := hx.below c1 hx.lt
  have hr1 := hr.below c1 hr.lt
  have hq1 := hq.below c1 hq.lt
  have y4 := h1.cell4.1
  obtain ⟨A, c, rfl, _, _⟩ := h.form
  go_wp2_with fail
  refine (bw_any _ _ _ w1).mono ?_
  rintro e w2 ⟨rfl, hw2⟩
  have b2 : Below w1.heap.size w1 w2 := by rw [← hw2]; exact (Below.refl _ _).alloc (Nat.le_refl _) _
  have hb2 : Blk w2 w1.heap.size 73 #[.slice A d.ws.length c] := by rw [← hw2]; exact Blk.new _ _ _
  have k2 := k1.trans (b2.mono k1.size)
  have h2 := h.below k2
  have hx2 := hx1.below b2 hx1.lt
  have hr2 := hr1.below b2 hr1.lt
  have hq2 := hq1.below b2 hq1.lt
  have hsz2 : w1.heap.size < w2.heap.size := hb2.lt
  have hG2 : G + 1 + 1 < w2.heap.size := hq2.lt
  clear hw2 hw0 hx hr hq hx1 hr1 hq1 y4
  go_wp2_with fail
  have hzl : ∀ j, zblock (.slice A d.ws.length c) = some j → j < w2.heap.size := fun j e => h2.hw.lt e
  refine wpIn_wide.1 (?_ : Code.wpIn Fence.wide 6 _ _ _ _ _)
  refine wpIn_rangeFunc_ownH rfl (by decide) (gf := 71) (lb := #[.pointer (some ⟨w1.heap.size, 0, none⟩)]) rfl trivial (enters_of Tryd.func71 (by kernel_rfl) rfl)
    (bw_stops Fence.wide 5 trivial rfl (by decide) w1.heap.size w2.heap.size _ d.ws hn w2 hsz2 (Nat.le_refl _) (by have := hb2.cell 0; simpa using this) h2.hw hzl) belowK_t (belowK_b (Nat.le_refl _)) (Below.refl _ _) (fun _ => rfl)
    (RdI w G w2.heap.size ⟨1, k⟩) (RdX w G ⟨1, k⟩) (rdI_own w G _ _ k2.size) (rdX_own w G _ _ k2.size) ⟨⟨Nat.le_refl _, by simp, hx2, hr2, hq2⟩, k2⟩
    (fun x a' W => ∃ Bx, G + 1 + 1 < Bx ∧ Blk W Bx 82 #[.int .i64 x.2.loc.dev, .int .i64 x.2.loc.pos, .string (bstr x.2.text)] ∧ a' = { tmps := #[.pointer (some ⟨g, 0, none⟩), .agg #[.int .i64 1, .int .i64 k], undef, .pointer (some ⟨G, 0, none⟩), .pointer (some ⟨G + 1, 0, none⟩), .pointer (some ⟨G + 1 + 1, 0, none⟩), .int .i64 0, undef, .pointer (some ⟨Bx, 0, none⟩), .pointer (some ⟨g, 0, none⟩), .agg #[.int .i64 1, .int .i64 k], .int .i64 0, .int .i64 0, .bool false, undef, .pointer (some ⟨g, 0, none⟩), .pointer (some ⟨g, 0, none⟩), .pointer (some ⟨g, 4, none⟩), .slice A d.ws.length c, .func (.func 71) #[] #[.pointer (some ⟨w1.heap.size, 0, none⟩)], .int .i64 (x.1 : Int), .agg #[.int .i64 x.2.loc.dev, .int .i64 x.2.loc.pos, .string (bstr x.2.text)], undef, undef, undef, undef, undef, undef, undef, undef, undef, undef, undef, undef, undef, undef, undef, undef, undef], defers := [] })
    (fun x a' _ X Y row hs hg hr => by obtain ⟨Bx, h1, h2, h3⟩ := hs; exact ⟨Bx, h1, blk_kept h2 hg (fun r e => (hr r e).2), h3⟩)
    ?assign ?body ?done ?stop
  case assign =>
    rintro l pre x W K ⟨⟨hB2, hp, bx, br, bq⟩, hB⟩ hK
    simp only [encIW]
    gi_wp2
    exact hK _ _ ((KeepsOthers.alloc _ _).from _) ((Below.refl _ W).alloc hB2 _) ⟨⟨by simp; omega, hp, bx.alloc _, br.alloc _, bq.alloc _⟩, hB.alloc hB.size _⟩ ⟨W.heap.size, bq.lt, Blk.new W _ _, rfl⟩
  case body =>
    rintro l pre ⟨ix, ⟨⟨dv, ps⟩, tx⟩⟩ a' W hl ⟨r, hr⟩ ⟨⟨hB2, hp, bx, br, bq⟩, hB⟩ ⟨Bx, hBx, bX, rfl⟩ hlt
    have x0 := bx.cell 0
    have x1 := bx.cell 1
    have r0 := br.cell 0
    have rf := br.frozen 0
    have q0 := bq.cell 0
    have qf := bq.frozen 0
    have e0 := bX.cell 0
    have e1 := bX.cell 1
    have e2 := bX.cell 2
    simp at x0 x1 r0 q0 e0 e1 e2
    gi_wp2
    · refine ⟨((KeepsOthers.setCell _ _ _).from _).trans ((KeepsOthers.setCell _ _ _).from _), ⟨rfl, pre, _, rfl, hp, rfl, ?_, ?_⟩, below_at (below_at hB (by omega) _ _) (by omega) _ _⟩
      · have := (br.set_ 0 (.string (bstr tx))).far (p := ⟨G + 1 + 1, 0, none⟩) (by simp) (.int .i64 0)
        simpa using this
      · have := (bq.far (p := ⟨G + 1, 0, none⟩) (by simp) (.string (bstr tx))).set_ 0 (.int .i64 0)
        simpa using this
    · rename_i hne
      exact ⟨KeepsFrom.refl _ _, Below.refl _ _, ⟨hB2, fun y hy => (List.mem_append.1 hy).elim (hp y) (fun e e' => by simp at e; subst e; simp at e'; exact hne e'), bx, br, bq⟩, hB⟩
    · rename_i hne
      exact ⟨KeepsFrom.refl _ _, Below.refl _ _, ⟨hB2, fun y hy => (List.mem_append.1 hy).elim (hp y) (fun e e' => by simp at e; subst e; simp at e'; exact hne e'.1), bx, br, bq⟩, hB⟩
  case done =>
    rintro D ys W hD hys ⟨⟨hB2, hne, bx, br, bq⟩, hB⟩ hK
    have hlook := Lib.hid (look_none hys hne)
    obtain ⟨c0, c1, hg, q0, q1⟩ := (h.below hB).hx
    have hmay := he.out
    have hk : k < d.s1.length := by
      unfold mayE at hmay
      split at hmay
      · cases hmay
      · rename_i hh
        simp [Dv.sec] at hh
        omega
    have hkl : (k : Int) < d.s1.length := by omega
    have hk0 : (0 : Int) ≤ k := by omega
    have hls : d.look ⟨1, k⟩ = d.s1[k] := by
      rw [hlook.out]
      simp [Dv.sec, hk]
    have HLS := Lib.hid hls
    clear hls hmay hlook
    have x0 := bx.cell 0
    have x1 := bx.cell 1
    have y0 := hg.cell 1
    have s0 := q1.cellAt k (by omega)
    rw [secV_get _ _ hk] at s0
    have r0 := br.cell 0
    have rf := br.frozen 0
    have t0 := bq.cell 0
    have tf := bq.frozen 0
    simp at x0 x1 y0 r0 t0
    have hgl := h.lt (k := g) (.inl rfl)
    have hbl := h.lt (k := b1) (.inr (.inr (.inl rfl)))
    go_wp2_with fail
    go_region_held3 (fun w' => w'.cell? ⟨G, 0, none⟩ = some (.int .i64 1) ∧ w'.cell? ⟨G, 1, none⟩ = some (.int .i64 k) ∧ w'.cell? ⟨g, 1, none⟩ = some (.slice (some ⟨b1, 0, none⟩) d.s1.length c1) ∧ w'.cell? ⟨b1, k, none⟩ = some (.string (bstr d.s1[k])))
      (first | exact ⟨x0, x1, y0, s0⟩ | exact ⟨cell_far x0 (by simp) _, cell_far x1 (by simp) _, cell_far y0 (by simp; omega) _, cell_far s0 (by simp; omega) _⟩ | exact ⟨cell_far (cell_far x0 (by simp) _) (by simp; omega) _, cell_far (cell_far x1 (by simp) _) (by simp; omega) _, cell_far (cell_far y0 (by simp; omega) _) (by simp; omega) _, cell_far (cell_far s0 (by simp; omega) _) (by simp; omega) _⟩ | go_keep)
      (fail)
    obtain ⟨W9, hW9⟩ : ∃ X, ((W.setCell ⟨G + 1, 0, none⟩ (.string (bstr d.s1[k]))).setCell ⟨G + 1 + 1, 0, none⟩ (.int .i64 0)).drew = X := ⟨_, rfl⟩
    have hgt := bq.lt
    have hDl : G + 1 + 1 < D := by omega
    have hK9 : W9.heap[D]? = some (.deferred (some [])) := by
      rw [← hW9]
      exact (Below.heap_setCell _ ⟨G + 1 + 1, 0, none⟩ _ D (by simp; omega)).trans ((Below.heap_setCell _ ⟨G + 1, 0, none⟩ _ D (by simp; omega)).trans hK)
    have b9 : Below w.heap.size w W9 := by rw [← hW9]; exact (below_at (below_at hB (by omega) _ _) (by omega) _ _).drew
    have br9 : Blk W9 (G + 1) 9 #[.string (bstr d.s1[k])] := by
      rw [← hW9]
      have := ((br.set_ 0 (.string (bstr d.s1[k]))).far (p := ⟨G + 1 + 1, 0, none⟩) (by simp) (.int .i64 0)).drew
      simpa using this
    have bq9 : Blk W9 (G + 1 + 1) 25 #[.int .i64 0] := by
      rw [← hW9]
      have := ((bq.far (p := ⟨G + 1, 0, none⟩) (by simp) (.string (bstr d.s1[k]))).set_ 0 (.int .i64 0)).drew
      simpa using this
    rw [hW9]
    clear x0 x1 y0 s0 r0 rf t0 tf hg q0 q1 hW9
    go_wp2
    refine ⟨by simp, .inl ⟨_, _, rfl, run_takeDeferred hK9, ?_⟩⟩
    have br' := blk_kept br9 (grownBy_putObj' W9 D (.deferred none)) (fun r e => by cases e; exact ⟨_, hK9, rfl⟩)
    have bq' := blk_kept bq9 (grownBy_putObj' W9 D (.deferred none)) (fun r e => by cases e; exact ⟨_, hK9, rfl⟩)
    have r0 := br'.cell 0
    have q0 := bq'.cell 0
    simp at r0 q0
    refine ⟨.tuple #[.string (bstr d.s1[k]), .int .i64 0], ?_, by rw [HLS.out], b9.trans (belowK_b (w := w) (Nat.le_refl _) W9 D _ _ (by have := k2.size; omega) hK9 rfl rfl)⟩
    simp [results, Tryd.f44, go_sem, r0, q0]
  case stop =>
    rintro D c pre W hD hpre ⟨⟨rfl, pre', x, rfl, hne, hx, br, bq⟩, hB⟩ hK
    obtain ⟨m, hm⟩ := hpre
    have hlook := look_hit hm hne hx
    gi_wp2
    refine ⟨by simp, .inl ⟨_, _, rfl, run_takeDeferred hK, ?_⟩⟩
    have br' := blk_kept br (grownBy_putObj' W D (.deferred none)) (fun r e => by cases e; exact ⟨_, hK, rfl⟩)
    have bq' := blk_kept bq (grownBy_putObj' W D (.deferred none)) (fun r e => by cases e; exact ⟨_, hK, rfl⟩)
    have r0 := br'.cell 0
    have q0 := bq'.cell 0
    simp at r0 q0
    refine ⟨.tuple #[.string (bstr x.2.text), .int .i64 0], ?_, by rw [hlook], hB.trans (belowK_b (w := w) (Nat.le_refl _) W D _ _ (by have := k2.size; omega) hK rfl rfl)⟩
    simp [results, Tryd.f44, go_sem, r0, q0]

/-- what Read answers -/
def Dv.read (d : Dv) (l : Lc) : List UInt8 × Int := if mayE d l [] = 0 then (d.look l, 0) else ([], mayE d l [])
theorem may_zero {d : Dv} {l : Lc} {s : List UInt8} (h : mayE d l s = 0) : d.has l := by
  unfold mayE at h
  split at h
  · cases h
  · rename_i hh
    simp at hh
    exact ⟨hh.1, hh.2.1, hh.2.2.1⟩
theorem read_bad {e0 : Int} (g b0 b1 : Nat) (v : Value) (d : Dv) (l : Lc) (he : Hid (mayE d l [] = e0)) (hz : (e0 != 0) = true) (w : World) (h : DvAt w g b0 b1 v d) :
    Calls Tryd.prog 44 #[.pointer (some ⟨g, 0, none⟩), .agg #[.int .i64 l.dev, .int .i64 l.pos]] w fun e w' => e = .returned (.tuple #[.string (bstr []), .int .i64 e0]) ∧ Below w.heap.size w w' := by
  go_enter Tryd.func44, Tryd.ntmps44
  go_wp2_with fail
  obtain ⟨G, hG⟩ : ∃ g, w.heap.size = g := ⟨_, rfl⟩
  obtain ⟨w0, hw0⟩ : ∃ x, ((w.alloc (.cells #[.int .i64 l.dev, .int .i64 l.pos] 51)).alloc (.cells #[.string ⟨#[]⟩] 9)).alloc (.cells #[.int .i64 0] 25) = x := ⟨_, rfl⟩
  have bx : Below w.heap.size w w0 := by rw [← hw0]; exact (((Below.refl _ _).alloc (Nat.le_refl _) _).alloc (by simp) _).alloc (by simp; omega) _
  have hr : Blk w0 (G + 1) 9 #[.string ⟨#[]⟩] := by rw [← hw0, ← hG]; exact (blk_at (by simp)).alloc _
  have hq : Blk w0 (G + 1 + 1) 25 #[.int .i64 0] := by rw [← hw0, ← hG]; exact blk_at (by simp)
  rw [hw0]
  try rw [hG]
  refine (may_to he.out g b0 b1 v w0 (h.below bx)).mono ?_
  rintro e w1 ⟨rfl, c1⟩
  have k1 := bx.trans (c1.mono bx.size)
  have hr1 := hr.below c1 hr.lt
  have hq1 := hq.below c1 hq.lt
  have r0 := hr1.cell 0
  have rf := hr1.frozen 0
  have q0 := hq1.cell 0
  have qf := hq1.frozen 0
  simp at r0 q0
  have br := (hr1.set_ 0 (.string ⟨#[]⟩)).far (p := ⟨G + 1 + 1, 0, none⟩) (by simp) (.int .i64 e0)
  have bq := (hq1.far (p := ⟨G + 1, 0, none⟩) (by simp) (.string ⟨#[]⟩)).set_ 0 (.int .i64 e0)
  have R0 := br.cell 0
  have Q0 := bq.cell 0
  simp at R0 Q0
  go_wp2
  refine bodyPost_ret (v := .tuple #[.string (bstr []), .int .i64 e0]) (by simp [results, Tryd.f44, go_sem, R0, Q0]) rfl ⟨rfl, below_at (below_at k1 (by omega) _ _) (by omega) _ _⟩
theorem read_nil (l : Lc) (w : World) :
    Calls Tryd.prog 44 #[.pointer none, .agg #[.int .i64 l.dev, .int .i64 l.pos]] w fun e w' => e = .returned (.tuple #[.string (bstr []), .int .i64 1]) ∧ Below w.heap.size w w' := by
  go_enter Tryd.func44, Tryd.ntmps44
  go_wp2_with fail
  obtain ⟨G, hG⟩ : ∃ g, w.heap.size = g := ⟨_, rfl⟩
  obtain ⟨w0, hw0⟩ : ∃ x, ((w.alloc (.cells #[.int .i64 l.dev, .int .i64 l.pos] 51)).alloc (.cells #[.string ⟨#[]⟩] 9)).alloc (.cells #[.int .i64 0] 25) = x := ⟨_, rfl⟩
  have bx : Below w.heap.size w w0 := by rw [← hw0]; exact (((Below.refl _ _).alloc (Nat.le_refl _) _).alloc (by simp) _).alloc (by simp; omega) _
  have hr : Blk w0 (G + 1) 9 #[.string ⟨#[]⟩] := by rw [← hw0, ← hG]; exact (blk_at (by simp)).alloc _
  have hq : Blk w0 (G + 1 + 1) 25 #[.int .i64 0] := by rw [← hw0, ← hG]; exact blk_at (by simp)
  rw [hw0]
  try rw [hG]
  refine (may_nil l [] w0).mono ?_
  rintro e w1 ⟨rfl, c1⟩
  have k1 := bx.trans (c1.mono bx.size)
  have hr1 := hr.below c1 hr.lt
  have hq1 := hq.below c1 hq.lt
  have r0 := hr1.cell 0
  have rf := hr1.frozen 0
  have q0 := hq1.cell 0
  have qf := hq1.frozen 0
  simp at r0 q0
  have br := (hr1.set_ 0 (.string ⟨#[]⟩)).far (p := ⟨G + 1 + 1, 0, none⟩) (by simp) (.int .i64 1)
  have bq := (hq1.far (p := ⟨G + 1, 0, none⟩) (by simp) (.string ⟨#[]⟩)).set_ 0 (.int .i64 1)
  have R0 := br.cell 0
  have Q0 := bq.cell 0
  simp at R0 Q0
  go_wp2
  refine bodyPost_ret (v := .tuple #[.string (bstr []), .int .i64 1]) (by simp [results, Tryd.f44, go_sem, R0, Q0]) rfl ⟨rfl, below_at (below_at k1 (by omega) _ _) (by omega) _ _⟩

theorem dread_any (g b0 b1 : Nat) (v : Value) (d : Dv) (l : Lc) (hn : d.ws.length ≤ 100000) (w : World) (h : DvAt w g b0 b1 v d) :
    Calls Tryd.prog 44 #[.pointer (some ⟨g, 0, none⟩), .agg #[.int .i64 l.dev, .int .i64 l.pos]] w fun e w' => e = .returned (.tuple #[.string (bstr (d.read l).1), .int .i64 (d.read l).2]) ∧ Below w.heap.size w w' := by
  by_cases he : mayE d l [] = 0
  · obtain ⟨dev, pos⟩ := l
    obtain ⟨h1, h2, h3⟩ := may_zero he
    simp only at h1 h2 h3 ⊢
    obtain ⟨k, rfl⟩ : ∃ k : Nat, pos = k := ⟨pos.toNat, by omega⟩
    have h01 : dev = 0 ∨ dev = 1 := by simpa [isB] using h1
    have e : d.read ⟨dev, k⟩ = (d.look ⟨dev, k⟩, 0) := by unfold Dv.read; rw [if_pos he]
    rw [e]
    rcases h01 with rfl | rfl
    · exact read_ok0 g b0 b1 v d k (Lib.hid he) hn w h
    · exact read_ok1 g b0 b1 v d k (Lib.hid he) hn w h
  · have e : d.read l = ([], mayE d l []) := by unfold Dv.read; rw [if_neg he]
    rw [e]
    exact read_bad g b0 b1 v d l (Lib.hid rfl) (by simpa using he) w h

end Go.Proofs.YtcamcjcmhjldpaaDoor
