/- Package blk: Good: contract. -/
import Derived.Test.YtmdjbmhjnajpgaaDoorKa
namespace Go.Proofs.YtmdjbmhjnajpgaaDoor
open Go Go.RowKit Go.Shelf
set_option linter.unusedSimpArgs false
set_option linter.unnecessarySimpa false
set_option linter.unusedVariables false

attribute [local go_sem] Oper.semAt_some

theorem copies_any (dp : Option Addr) (v : Value) (p : Pt) (w : World) :
    Calls Tryd.prog 32 #[.pointer dp, .agg #[v, .int .i64 p.len, .int .i64 p.birth, .string (bstr p.sum)]] w fun e w' =>
      e = .returned (.func (.func 47) #[] #[.pointer (some ⟨w.heap.size + 1, 0, none⟩), .pointer (some ⟨w.heap.size, 0, none⟩)]) ∧ (w.alloc (.cells #[.pointer dp] 27)).alloc (.cells #[v, .int .i64 p.len, .int .i64 p.birth, .string (bstr p.sum)] 25) = w' := by
  go_enter Tryd.func32, Tryd.ntmps32
  go_wp2
  go_ret
  exact ⟨rfl, rfl⟩
theorem row_lower {w : World} {base base' n size : Nat} {e : TypeId} {v : Value} {xs : List Value} (h : w.ownsRow base e size v n xs) (hb : base' ≤ base) : w.ownsRow base' e size v n xs := by
  rcases h.2 with h0 | ⟨g, cap, cur, rfl, h1, h2⟩
  · exact ⟨h.1, .inl h0⟩
  · exact ⟨h.1, .inr ⟨g, cap, cur, rfl, Nat.le_trans hb h1, h2⟩⟩
def boolV (l : List Bool) : List Value := l.map Value.bool
def goodsL (rd : Lc → List UInt8 × Int) (p : Pt) : List Bool := p.locs.map (goodAt rd p)
theorem bool_info : (Tryd.prog.info? 4).map (fun i => (i.zero, i.size, i.bytes)) = some (some (.bool false), 1, 1) := by kernel_rfl

set_option maxRecDepth 100000 in
set_option maxHeartbeats 8000000 in
theorem good_any (dp : Option Addr) (v : Value) (rd : Lc → List UInt8 × Int) (p : Pt) (w : World) (hR : RootsAt w) (hv : LocsAt w.heap.size w v p.locs) (hck : ckE p = 0) (hrd : ∀ T : Nat → Prop, (∀ j, T j → w.heap.size ≤ j) → Reads (.pointer dp) rd T w) :
    Calls Tryd.prog 19 #[.pointer dp, .agg #[v, .int .i64 p.len, .int .i64 p.birth, .string (bstr p.sum)]] w fun e w' => ∃ u, e = .returned u ∧ w'.ownsRow w.heap.size 4 1 u p.locs.length (boolV (goodsL rd p)) ∧ Below w.heap.size w w' := by
  have hlen : p.len ≤ 960 := by have := (ok_facts hck).2.2.2.2.2.1; simp [inI] at this; omega
  have hl2 := (ok_facts hck).1
  obtain ⟨A, c, rfl, hc, hm⟩ := hv.form
  have bel : Below w.heap.size w w := Below.refl _ _
  have HCK := Lib.hid hck
  have HRW := Lib.hid hR
  clear hck
  refine (callsIn_wide (n := 6)).1 ?_
  refine callsIn_of_wp_marks Tryd.func19 rfl trivial ?_ rfl
  simp only [Tryd.ntmps19, List.size_toArray, List.length_cons, List.length_nil, Nat.reduceAdd, Nat.reduceSub, Array.replicate_succ, Array.replicate_zero, List.push_toArray, List.append_toArray, List.nil_append, List.cons_append]
  refine wpIn_wide.2 ?_
  go_wp2_with fail
  obtain ⟨w1, hw1⟩ : ∃ x, w.alloc (.cells #[.slice A p.locs.length c, .int .i64 p.len, .int .i64 p.birth, .string (bstr p.sum)] 25) = x := ⟨_, rfl⟩
  obtain ⟨ib0, hib0⟩ : ∃ i, w.heap.size = i := ⟨_, rfl⟩
  have b0 : Blk w1 ib0 25 #[.slice A p.locs.length c, .int .i64 p.len, .int .i64 p.birth, .string (bstr p.sum)] := by rw [← hw1, ← hib0]; exact Blk.new _ _ _
  have k1 : Below w.heap.size w w1 := by rw [← hw1]; exact (Below.refl _ _).alloc (Nat.le_refl _) _
  have zb0 : w1.heap.size = ib0 + 1 := by rw [← hw1, ← hib0]; simp
  rw [hw1, hib0]
  have ob0 : w.heap.size ≤ ib0 := by rw [← hib0]; exact bel.size
  have bel := hthen bel k1
  clear k1
  clear hw1 hib0
  have b0c0 := b0.cell 0
  have b0c1 := b0.cell 1
  have b0c2 := b0.cell 2
  have b0c3 := b0.cell 3
  simp at b0c0 b0c1 b0c2 b0c3
  have b0lt := b0.lt
  try (go_wp2_with fail)
  refine (check_to HCK.out w.heap.size _ (hv.keep bel (Nat.le_refl _)) bel.size).mono ?_
  rintro e w2 ⟨rfl, k2⟩
  clear b0c0 b0c1 b0c2 b0c3 b0lt
  have b0 := b0.below k2 b0.lt
  have bel := hthen bel k2
  clear k2
  have b0c0 := b0.cell 0
  have b0c1 := b0.cell 1
  have b0c2 := b0.cell 2
  have b0c3 := b0.cell 3
  simp at b0c0 b0c1 b0c2 b0c3
  have b0lt := b0.lt
  go_wp2_with fail
  clear b0c0 b0c1 b0c2 b0c3 b0lt
  obtain ⟨w3, hw3⟩ : ∃ x, w2.alloc (.cells #[.slice none 0 0] 48) = x := ⟨_, rfl⟩
  obtain ⟨ibl, hibl⟩ : ∃ i, w2.heap.size = i := ⟨_, rfl⟩
  have bl : Blk w3 ibl 48 #[.slice none 0 0] := by rw [← hw3, ← hibl]; exact Blk.new _ _ _
  have k3 : Below w2.heap.size w2 w3 := by rw [← hw3]; exact (Below.refl _ _).alloc (Nat.le_refl _) _
  have zbl : w3.heap.size = ibl + 1 := by rw [← hw3, ← hibl]; simp
  rw [hw3, hibl]
  have obl : w.heap.size ≤ ibl := by rw [← hibl]; exact bel.size
  have nb0bl : ib0 ≠ ibl := by have := b0.lt; omega
  have b0 := b0.below k3 b0.lt
  have bel := hthen bel k3
  clear k3
  clear hw3 hibl
  have b0c0 := b0.cell 0
  have b0c1 := b0.cell 1
  have b0c2 := b0.cell 2
  have b0c3 := b0.cell 3
  simp at b0c0 b0c1 b0c2 b0c3
  have b0lt := b0.lt
  have blc0 := bl.cell 0
  simp at blc0
  have bllt := bl.lt
  try (go_wp2_with fail)
  refine (copies_any _ _ p w3).mono ?_
  rintro e wc ⟨rfl, hwc⟩
  clear b0c0 b0c1 b0c2 b0c3 b0lt blc0 bllt
  have kc : Below w3.heap.size w3 wc := by rw [← hwc]; exact ((Below.refl _ _).alloc (Nat.le_refl _) _).alloc (by simp) _
  have bD : Blk wc w3.heap.size 27 #[.pointer dp] := by rw [← hwc]; exact (Blk.new _ _ _).alloc _
  have bP : Blk wc (w3.heap.size + 1) 25 #[.slice A p.locs.length c, .int .i64 p.len, .int .i64 p.birth, .string (bstr p.sum)] := by rw [← hwc]; exact blk_at (by simp)
  have szc : wc.heap.size = w3.heap.size + 1 + 1 := by rw [← hwc]; simp
  have b0 := b0.below kc b0.lt
  have bl := bl.below kc bl.lt
  have bel := hthen bel kc
  clear kc
  clear hwc
  have bllt := bl.lt
  obtain ⟨n1, hn1⟩ : ∃ n, w3.heap.size = n := ⟨_, rfl⟩
  rw [hn1] at bD bP szc ⊢
  have hbn : ibl < n1 := by omega
  have hcs : n1 + 1 < wc.heap.size := by omega
  clear hn1 szc
  go_wp2_with fail
  obtain ⟨i0, hi0, hz0, hz1, hz2⟩ := info_parts bool_info
  have hbl : Boxed wc ibl 48 (.slice none 0 0) := bl
  have HB := Lib.hid bel
  refine wpIn_wide.1 (?_ : Code.wpIn Fence.wide 6 _ _ _ _ _)
  refine wpIn_rangeFunc_ownH rfl (by decide) (gf := 47) (lb := #[.pointer (some ⟨n1 + 1, 0, none⟩), .pointer (some ⟨n1, 0, none⟩)]) rfl trivial (enters_of Tryd.func47 (by kernel_rfl) rfl)
    (cp_stops 5 (by decide) n1 (n1 + 1) w.heap.size (· = ibl) (fun j e => by rw [e]; exact obl) (.pointer dp) _ rd p hlen wc bel.size (fun wi hb => HRW.out.moved (bel.trans hb)) (by omega) (by omega) bD bP (hv.keep bel (Nat.le_refl _)) ((hrd _ (fun j e => by rw [e]; exact obl)).moved bel))
    (fun h k => h.trans k) (fun W l o o' hl h h1 h2 => Keep.of_below (belowK_b (Nat.le_refl _) W l o o' hl h h1 h2)) (Below.refl _ _) (fun _ => rfl)
    (fun pre W => (∃ v, Boxed W ibl 48 v ∧ W.ownsRow wc.heap.size 4 1 v pre.length (boolV (pre.map (goodAt rd p))) ∧ True) ∧ wc.heap.size ≤ W.heap.size ∧ Below w.heap.size w W) (fun _ _ _ => False)
    (((holdsRow_own wc.heap.size ibl 48 4 1 List.length (fun pre => boolV (pre.map (goodAt rd p))) (fun _ _ => True)).from _).and (OwnFrom.and (fun s X Y row hs hg hr => Nat.le_trans hs hg.size) (ownFrom_below (Nat.le_refl _) bel.size)))
    (fun c s X Y row hs hg hr => hs) ⟨⟨_, hbl, World.ownsRow_nil _ _ _ _, trivial⟩, Nat.le_refl _, bel⟩
    (fun x a' W => a' = { tmps := #[.pointer dp, .agg #[.slice A p.locs.length c, .int .i64 p.len, .int .i64 p.birth, .string (bstr p.sum)], undef, .pointer (some ⟨ib0, 0, none⟩), .slice none 0 0, .pointer (some ⟨ibl, 0, none⟩), undef, .bool (goodAt rd p x), .agg #[.slice A p.locs.length c, .int .i64 p.len, .int .i64 p.birth, .string (bstr p.sum)], .int .i64 0, .bool false, .pointer dp, .agg #[.slice A p.locs.length c, .int .i64 p.len, .int .i64 p.birth, .string (bstr p.sum)], .func (.func 47) #[] #[.pointer (some ⟨n1 + 1, 0, none⟩), .pointer (some ⟨n1, 0, none⟩)], .string (bstr (rd x).1), .bool (goodAt rd p x), undef, undef, undef, undef, undef], defers := [] })
    (fun x a' _ X Y row hs hg hr => hs) ?assign ?body ?done ?stop
  case assign =>
    rintro l pre x W K ⟨⟨v, hbx, hrow, -⟩, hW, hB⟩ hK
    simp only [encC]
    gi_wp2
    exact hK _ _ (KeepsFrom.refl _ _) (Keep.refl _ _ _) ⟨⟨v, hbx, hrow, trivial⟩, hW, hB⟩ rfl
  case body =>
    rintro l pre x a' W hl ⟨r, hr⟩ ⟨⟨v, hbx, hrow, -⟩, hW, hB⟩ rfl hlt
    have F1 := Lib.hid (show pre.length + 1 ≤ maxLen by unfold maxLen; omega)
    have F2 := Lib.hid (show (pre.length + 1) * 1 ≤ 140737488355328 by omega)
    have hcl := hbx.cell
    gi_wp2_with (gi_at_builtin; refine wpListIn_append_own (P := Tryd.prog) _ rfl _ _ 48 rfl wc.heap.size 4 i0 (.bool false) 1 1 Tryd.underlying48 hi0 hz0 hz1 hz2 rfl (by decide) v pre.length _ rfl (row_below hrow ((Below.refl _ _).alloc (Nat.le_refl _) _)) ⟨W.heap.size, 0, none⟩ 1 1 [.bool (goodAt rd p x)] rfl rfl (World.news_of_block (Blk.new W _ _)) ?c1 F1.out F2.out ?b3 ?_)
    case c1 => intro u hu; simp at hu; subst hu; rfl
    case b3 => simp; omega
    intro v' w1 hown hgr _
    obtain ⟨hv1, hv2, -, hk2, hb2⟩ := hbx.appended (by decide) (row_lower hrow bel.size) hB.size obl (row_lower hown bel.size) hgr
    have hne : v'.ownBlock ≠ some ibl := row_ne hown (show Blk w1 ibl 48 #[v] from hv1) (by decide)
    have hrow2 := row_set (i := 0) hown hne v'
    have hkp : Keep wc.heap.size (· = ibl) W (w1.setCell ⟨ibl, 0, none⟩ v') := (((Keep.refl wc.heap.size (· = ibl) W).alloc hW _).grown hgr (fun j e hj => absurd (hrow.lt j e).1 (by omega)) (by simp; omega)).setCell (.inr rfl) v'
    obtain ⟨g, cap, rfl⟩ := ownsRow_succ hown
    have c1 := hv1.cell
    have f1 := hv1.frozen
    gi_wp2
    exact ⟨hk2.from _, hkp, ⟨_, hv2, by simpa [boolV] using hrow2, trivial⟩, Nat.le_trans hW hkp.size, hB.trans hb2⟩
  case done =>
    rintro D' ys W hD hys ⟨⟨v, hbx, hrow, -⟩, hW, hB⟩ hK
    subst hys
    have hcl := hbx.cell
    go_wp2
    refine ⟨by simp, .inl ⟨_, _, rfl, run_takeDeferred hK, ?_⟩⟩
    have hrow2 := ownsRow_putObj hrow (.deferred none) hK rfl
    refine ⟨v, by simp [results, Tryd.f19, go_sem], v, rfl, row_lower (by simpa [goodsL] using hrow2) bel.size, hB.trans (belowK_b (w := w) (Nat.le_refl _) W D' _ _ (by omega) hK rfl rfl)⟩
  case stop => rintro _ _ _ _ _ _ hf; exact hf.elim
end Go.Proofs.YtmdjbmhjnajpgaaDoor
