/- Package blk: Read: contract. -/
import Derived.Test.YtmdjbmhjnajpgaaDoorKb
namespace Go.Proofs.YtmdjbmhjnajpgaaDoor
open Go Go.RowKit Go.Shelf
set_option linter.unusedSimpArgs false
set_option linter.unnecessarySimpa false
set_option linter.unusedVariables false

attribute [local go_sem] Oper.semAt_some

def readLs (rd : Lc → List UInt8 × Int) (p : Pt) : List Lc → Nat → (List UInt8 × Int) × Int
  | [], _ => (([], 0), 7)
  | l :: ls, k => if goodAt rd p l = true then (((rd l).1, (k : Int)), 0) else readLs rd p ls (k + 1)
def readB (rd : Lc → List UInt8 × Int) (p : Pt) : (List UInt8 × Int) × Int := if ckE p = 0 then readLs rd p p.locs 0 else (([], 0), 1)
theorem readLs_hit {rd : Lc → List UInt8 × Int} {p : Pt} {x : Lc} {rest : List Lc} (hx : goodAt rd p x = true) : ∀ (pre : List Lc) (k : Nat), (∀ y ∈ pre, goodAt rd p y = false) → readLs rd p (pre ++ x :: rest) k = (((rd x).1, ((k + pre.length : Nat) : Int)), 0)
  | [], k, _ => by rw [List.nil_append, readLs, if_pos hx]; simp
  | y :: pre, k, h => by
    rw [List.cons_append, readLs, if_neg (by rw [h y (by simp)]; exact Bool.false_ne_true), readLs_hit hx pre (k + 1) (fun z hz => h z (by simp [hz]))]
    simp [Nat.add_comm, Nat.add_left_comm]
theorem readLs_none {rd : Lc → List UInt8 × Int} {p : Pt} : ∀ (l : List Lc) (k : Nat), (∀ y ∈ l, goodAt rd p y = false) → readLs rd p l k = (([], 0), 7)
  | [], _, _ => rfl
  | y :: l, k, h => by rw [readLs, if_neg (by rw [h y (by simp)]; exact Bool.false_ne_true), readLs_none l (k + 1) (fun z hz => h z (by simp [hz]))]
theorem blk_own' {β : Type} (g : Nat) (t : TypeId) (f : β → Array Value) : Own (fun s W => Blk W g t (f s)) := blk_own g t f
/-- what Read's loop keeps, and how it is left -/
def KrI (w wc : World) (ib r0 r1 r2 : Nat) (rd : Lc → List UInt8 × Int) (p : Pt) (pre : List Lc) (W : World) : Prop :=
  ((∀ y ∈ pre, goodAt rd p y = false) ∧ wc.heap.size ≤ W.heap.size ∧ Blk W ib 3 #[.int .i64 (pre.length : Nat)] ∧ Blk W r0 9 #[.string ⟨#[]⟩] ∧ Blk W r1 3 #[.int .i64 0] ∧ Blk W r2 29 #[.int .i64 0]) ∧ Below w.heap.size w W
def KrX (w : World) (r0 r1 r2 : Nat) (rd : Lc → List UInt8 × Int) (p : Pt) (c : Code) (pre : List Lc) (W : World) : Prop :=
  (c = .ret ∧ ∃ pre' x, pre = pre' ++ [x] ∧ (∀ y ∈ pre', goodAt rd p y = false) ∧ goodAt rd p x = true ∧ Blk W r0 9 #[.string (bstr (rd x).1)] ∧ Blk W r1 3 #[.int .i64 (pre'.length : Nat)] ∧ Blk W r2 29 #[.int .i64 0]) ∧ Below w.heap.size w W
theorem krI_own (w wc : World) (ib r0 r1 r2 : Nat) (rd : Lc → List UInt8 × Int) (p : Pt) (B : Nat) (hB : w.heap.size ≤ B) : OwnFrom B (KrI w wc ib r0 r1 r2 rd p) :=
  OwnFrom.and (Own.from (fun s X Y row hs hg hr => ⟨hs.1, Nat.le_trans hs.2.1 hg.size, blk_kept hs.2.2.1 hg hr, blk_kept hs.2.2.2.1 hg hr, blk_kept hs.2.2.2.2.1 hg hr, blk_kept hs.2.2.2.2.2 hg hr⟩) _) (ownFrom_below (Nat.le_refl _) hB)
theorem krX_own (w : World) (r0 r1 r2 : Nat) (rd : Lc → List UInt8 × Int) (p : Pt) (B : Nat) (hB : w.heap.size ≤ B) (c : Code) : OwnFrom B (KrX w r0 r1 r2 rd p c) :=
  OwnFrom.and (Own.from (fun s X Y row hs hg hr => by
    obtain ⟨h1, pre', x, h2, h3, h4, h5, h6, h7⟩ := hs
    exact ⟨h1, pre', x, h2, h3, h4, blk_kept h5 hg hr, blk_kept h6 hg hr, blk_kept h7 hg hr⟩) _) (ownFrom_below (Nat.le_refl _) hB)

set_option maxRecDepth 100000 in
set_option maxHeartbeats 8000000 in
theorem bread_any (dp : Option Addr) (v : Value) (rd : Lc → List UInt8 × Int) (p : Pt) (w : World) (hR : RootsAt w) (hv : LocsAt w.heap.size w v p.locs) (hrd : ∀ T : Nat → Prop, (∀ j, T j → w.heap.size ≤ j) → Reads (.pointer dp) rd T w) :
    Calls Tryd.prog 13 #[.pointer dp, .agg #[v, .int .i64 p.len, .int .i64 p.birth, .string (bstr p.sum)]] w fun e w' => e = .returned (.tuple #[.string (bstr (readB rd p).1.1), .int .i64 (readB rd p).1.2, .int .i64 (readB rd p).2]) ∧ Below w.heap.size w w' := by
  obtain ⟨A, c, rfl, hc, hm⟩ := hv.form
  have bel : Below w.heap.size w w := Below.refl _ _
  have HRW := Lib.hid hR
  obtain ⟨⟨⟨X, I⟩, E⟩, hX⟩ : ∃ x, readB rd p = x := ⟨_, rfl⟩
  rw [hX]
  have HX := Lib.hid hX
  clear hX
  simp only
  by_cases hck : ckE p = 0
  · have hlen : p.len ≤ 960 := by have := (ok_facts hck).2.2.2.2.2.1; simp [inI] at this; omega
    have hl2 := (ok_facts hck).1
    have HCK := Lib.hid hck
    have hE := HX.out
    unfold readB at hE
    rw [if_pos hck] at hE
    have HE := Lib.hid hE
    clear HX hE hck
    refine (callsIn_wide (n := 6)).1 ?_
    refine callsIn_of_wp_marks Tryd.func13 rfl trivial ?_ rfl
    simp only [Tryd.ntmps13, List.size_toArray, List.length_cons, List.length_nil, Nat.reduceAdd, Nat.reduceSub, Array.replicate_succ, Array.replicate_zero, List.push_toArray, List.append_toArray, List.nil_append, List.cons_append]
    refine wpIn_wide.2 ?_
    go_wp2_with fail
    obtain ⟨w1, hw1⟩ : ∃ x, w.alloc (.cells #[.slice A p.locs.length c, .int .i64 p.len, .int .i64 p.birth, .string (bstr p.sum)] 25) = x := ⟨_, rfl⟩
    obtain ⟨ib0, hib0⟩ : ∃ i, w.heap.size = i := ⟨_, rfl⟩
    have b0 : Blk w1 ib0 25 #[.slice A p.locs.length c, .int .i64 p.len, .int .i64 p.birth, .string (bstr p.sum)] := by rw [← hw1, ← hib0]; exact Blk.new _ _ _
    have k1 : Below w.heap.size w w1 := by rw [← hw1]; exact (Below.refl _ _).alloc (Nat.le_refl _) _
    have zb0 : w1.heap.size = ib0 + 1 := by rw [← hw1, ← hib0]; simp
    rw [hw1, hib0]
    have ob0 : w.heap.size ≤ ib0 := by rw [← hib0]; exact bel.size
    have bel := hthen bel k1
    clear k1
    clear hw1 hib0
    have b0c0 := b0.cell 0
    have b0c1 := b0.cell 1
    have b0c2 := b0.cell 2
    have b0c3 := b0.cell 3
    simp at b0c0 b0c1 b0c2 b0c3
    have b0lt := b0.lt
    clear b0c0 b0c1 b0c2 b0c3 b0lt
    obtain ⟨w2, hw2⟩ : ∃ x, w1.alloc (.cells #[.string ⟨#[]⟩] 9) = x := ⟨_, rfl⟩
    obtain ⟨ir0, hir0⟩ : ∃ i, w1.heap.size = i := ⟨_, rfl⟩
    have r0 : Blk w2 ir0 9 #[.string ⟨#[]⟩] := by rw [← hw2, ← hir0]; exact Blk.new _ _ _
    have k2 : Below w1.heap.size w1 w2 := by rw [← hw2]; exact (Below.refl _ _).alloc (Nat.le_refl _) _
    have zr0 : w2.heap.size = ir0 + 1 := by rw [← hw2, ← hir0]; simp
    rw [hw2, ← zb0, hir0]
    have or0 : w.heap.size ≤ ir0 := by rw [← hir0]; exact bel.size
    have nb0r0 : ib0 ≠ ir0 := by have := b0.lt; omega
    have b0 := b0.below k2 b0.lt
    have bel := hthen bel k2
    clear k2
    clear hw2 hir0
    have b0c0 := b0.cell 0
    have b0c1 := b0.cell 1
    have b0c2 := b0.cell 2
    have b0c3 := b0.cell 3
    simp at b0c0 b0c1 b0c2 b0c3
    have b0lt := b0.lt
    have r0c0 := r0.cell 0
    simp at r0c0
    have r0lt := r0.lt
    clear b0c0 b0c1 b0c2 b0c3 b0lt r0c0 r0lt
    obtain ⟨w3, hw3⟩ : ∃ x, w2.alloc (.cells #[.int .i64 0] 3) = x := ⟨_, rfl⟩
    obtain ⟨ir1, hir1⟩ : ∃ i, w2.heap.size = i := ⟨_, rfl⟩
    have r1 : Blk w3 ir1 3 #[.int .i64 0] := by rw [← hw3, ← hir1]; exact Blk.new _ _ _
    have k3 : Below w2.heap.size w2 w3 := by rw [← hw3]; exact (Below.refl _ _).alloc (Nat.le_refl _) _
    have zr1 : w3.heap.size = ir1 + 1 := by rw [← hw3, ← hir1]; simp
    rw [hw3, ← zr0, hir1]
    have or1 : w.heap.size ≤ ir1 := by rw [← hir1]; exact bel.size
    have nb0r1 : ib0 ≠ ir1 := by have := b0.lt; omega
    have nr0r1 : ir0 ≠ ir1 := by have := r0.lt; omega
    have b0 := b0.below k3 b0.lt
    have r0 := r0.below k3 r0.lt
    have bel := hthen bel k3
    clear k3
    clear hw3 hir1
    have b0c0 := b0.cell 0
    have b0c1 := b0.cell 1
    have b0c2 := b0.cell 2
    have b0c3 := b0.cell 3
    simp at b0c0 b0c1 b0c2 b0c3
    have b0lt := b0.lt
    have r0c0 := r0.cell 0
    simp at r0c0
    have r0lt := r0.lt
    have r1c0 := r1.cell 0
    simp at r1c0
    have r1lt := r1.lt
    clear b0c0 b0c1 b0c2 b0c3 b0lt r0c0 r0lt r1c0 r1lt
    obtain ⟨w4, hw4⟩ : ∃ x, w3.alloc (.cells #[.int .i64 0] 29) = x := ⟨_, rfl⟩
    obtain ⟨ir2, hir2⟩ : ∃ i, w3.heap.size = i := ⟨_, rfl⟩
    have r2 : Blk w4 ir2 29 #[.int .i64 0] := by rw [← hw4, ← hir2]; exact Blk.new _ _ _
    have k4 : Below w3.heap.size w3 w4 := by rw [← hw4]; exact (Below.refl _ _).alloc (Nat.le_refl _) _
    have zr2 : w4.heap.size = ir2 + 1 := by rw [← hw4, ← hir2]; simp
    rw [hw4, ← zr1, hir2]
    have or2 : w.heap.size ≤ ir2 := by rw [← hir2]; exact bel.size
    have nb0r2 : ib0 ≠ ir2 := by have := b0.lt; omega
    have nr0r2 : ir0 ≠ ir2 := by have := r0.lt; omega
    have nr1r2 : ir1 ≠ ir2 := by have := r1.lt; omega
    have b0 := b0.below k4 b0.lt
    have r0 := r0.below k4 r0.lt
    have r1 := r1.below k4 r1.lt
    have bel := hthen bel k4
    clear k4
    clear hw4 hir2
    have b0c0 := b0.cell 0
    have b0c1 := b0.cell 1
    have b0c2 := b0.cell 2
    have b0c3 := b0.cell 3
    simp at b0c0 b0c1 b0c2 b0c3
    have b0lt := b0.lt
    have r0c0 := r0.cell 0
    simp at r0c0
    have r0lt := r0.lt
    have r1c0 := r1.cell 0
    simp at r1c0
    have r1lt := r1.lt
    have r2c0 := r2.cell 0
    simp at r2c0
    have r2lt := r2.lt
    clear b0c0 b0c1 b0c2 b0c3 b0lt r0c0 r0lt r1c0 r1lt r2c0 r2lt
    have b0c0 := b0.cell 0
    have b0c1 := b0.cell 1
    have b0c2 := b0.cell 2
    have b0c3 := b0.cell 3
    simp at b0c0 b0c1 b0c2 b0c3
    have b0lt := b0.lt
    have r0c0 := r0.cell 0
    simp at r0c0
    have r0lt := r0.lt
    have r1c0 := r1.cell 0
    simp at r1c0
    have r1lt := r1.lt
    have r2c0 := r2.cell 0
    simp at r2c0
    have r2lt := r2.lt
    go_wp2_with fail
    refine (check_to HCK.out w.heap.size _ (hv.keep bel (Nat.le_refl _)) bel.size).mono ?_
    rintro e w5 ⟨rfl, k5⟩
    clear b0c0 b0c1 b0c2 b0c3 b0lt r0c0 r0lt r1c0 r1lt r2c0 r2lt
    have b0 := b0.below k5 b0.lt
    have r0 := r0.below k5 r0.lt
    have r1 := r1.below k5 r1.lt
    have r2 := r2.below k5 r2.lt
    have bel := hthen bel k5
    clear k5
    have b0c0 := b0.cell 0
    have b0c1 := b0.cell 1
    have b0c2 := b0.cell 2
    have b0c3 := b0.cell 3
    simp at b0c0 b0c1 b0c2 b0c3
    have b0lt := b0.lt
    have r0c0 := r0.cell 0
    simp at r0c0
    have r0lt := r0.lt
    have r1c0 := r1.cell 0
    simp at r1c0
    have r1lt := r1.lt
    have r2c0 := r2.cell 0
    simp at r2c0
    have r2lt := r2.lt
    go_wp2_with fail
    clear b0c0 b0c1 b0c2 b0c3 b0lt r0c0 r0lt r1c0 r1lt r2c0 r2lt
    obtain ⟨w6, hw6⟩ : ∃ x, w5.alloc (.cells #[.int .i64 0] 3) = x := ⟨_, rfl⟩
    obtain ⟨ibi, hibi⟩ : ∃ i, w5.heap.size = i := ⟨_, rfl⟩
    have bi : Blk w6 ibi 3 #[.int .i64 0] := by rw [← hw6, ← hibi]; exact Blk.new _ _ _
    have k6 : Below w5.heap.size w5 w6 := by rw [← hw6]; exact (Below.refl _ _).alloc (Nat.le_refl _) _
    have zbi : w6.heap.size = ibi + 1 := by rw [← hw6, ← hibi]; simp
    rw [hw6, hibi]
    have obi : w.heap.size ≤ ibi := by rw [← hibi]; exact bel.size
    have nb0bi : ib0 ≠ ibi := by have := b0.lt; omega
    have nr0bi : ir0 ≠ ibi := by have := r0.lt; omega
    have nr1bi : ir1 ≠ ibi := by have := r1.lt; omega
    have nr2bi : ir2 ≠ ibi := by have := r2.lt; omega
    have b0 := b0.below k6 b0.lt
    have r0 := r0.below k6 r0.lt
    have r1 := r1.below k6 r1.lt
    have r2 := r2.below k6 r2.lt
    have bel := hthen bel k6
    clear k6
    clear hw6 hibi
    have b0c0 := b0.cell 0
    have b0c1 := b0.cell 1
    have b0c2 := b0.cell 2
    have b0c3 := b0.cell 3
    simp at b0c0 b0c1 b0c2 b0c3
    have b0lt := b0.lt
    have r0c0 := r0.cell 0
    simp at r0c0
    have r0lt := r0.lt
    have r1c0 := r1.cell 0
    simp at r1c0
    have r1lt := r1.lt
    have r2c0 := r2.cell 0
    simp at r2c0
    have r2lt := r2.lt
    have bic0 := bi.cell 0
    simp at bic0
    have bilt := bi.lt
    try (go_wp2_with fail)
    refine (copies_any _ _ p w6).mono ?_
    rintro e wc ⟨rfl, hwc⟩
    clear b0c0 b0c1 b0c2 b0c3 b0lt r0c0 r0lt r1c0 r1lt r2c0 r2lt bic0 bilt
    have kc : Below w6.heap.size w6 wc := by rw [← hwc]; exact ((Below.refl _ _).alloc (Nat.le_refl _) _).alloc (by simp) _
    have bD : Blk wc w6.heap.size 27 #[.pointer dp] := by rw [← hwc]; exact (Blk.new _ _ _).alloc _
    have bP : Blk wc (w6.heap.size + 1) 25 #[.slice A p.locs.length c, .int .i64 p.len, .int .i64 p.birth, .string (bstr p.sum)] := by rw [← hwc]; exact blk_at (by simp)
    have szc : wc.heap.size = w6.heap.size + 1 + 1 := by rw [← hwc]; simp
    have b0 := b0.below kc b0.lt
    have r0 := r0.below kc r0.lt
    have r1 := r1.below kc r1.lt
    have r2 := r2.below kc r2.lt
    have bi := bi.below kc bi.lt
    have bel := hthen bel kc
    clear kc
    clear hwc
    have bilt := bi.lt
    obtain ⟨n1, hn1⟩ : ∃ n, w6.heap.size = n := ⟨_, rfl⟩
    rw [hn1] at bD bP szc ⊢
    have hbn : ibi < n1 := by omega
    have hcs : n1 + 1 < wc.heap.size := by omega
    clear hn1 szc
    go_wp2_with fail
    have HB := Lib.hid bel
    refine wpIn_wide.1 (?_ : Code.wpIn Fence.wide 6 _ _ _ _ _)
    refine wpIn_rangeFunc_ownH rfl (by decide) (gf := 47) (lb := #[.pointer (some ⟨n1 + 1, 0, none⟩), .pointer (some ⟨n1, 0, none⟩)]) rfl trivial (enters_of Tryd.func47 (by kernel_rfl) rfl)
      (cp_stops 5 (by decide) n1 (n1 + 1) w.heap.size (· = ibi) (fun j e => by rw [e]; exact obi) (.pointer dp) _ rd p hlen wc bel.size (fun wi hb => HRW.out.moved (bel.trans hb)) (by omega) (by omega) bD bP (hv.keep bel (Nat.le_refl _)) ((hrd _ (fun j e => by rw [e]; exact obi)).moved bel))
      (fun h k => h.trans k) (fun W l o o' hl h h1 h2 => Keep.of_below (belowK_b (Nat.le_refl _) W l o o' hl h h1 h2)) (Below.refl _ _) (fun _ => rfl)
      (KrI w wc ibi ir0 ir1 ir2 rd p) (KrX w ir0 ir1 ir2 rd p) (krI_own w wc ibi ir0 ir1 ir2 rd p _ bel.size) (krX_own w ir0 ir1 ir2 rd p _ bel.size) ⟨⟨by simp, Nat.le_refl _, bi, r0, r1, r2⟩, bel⟩
      (fun x a' W => a' = { tmps := #[.pointer dp, .agg #[.slice A p.locs.length c, .int .i64 p.len, .int .i64 p.birth, .string (bstr p.sum)], undef, .pointer (some ⟨ib0, 0, none⟩), .pointer (some ⟨ir0, 0, none⟩), .pointer (some ⟨ir1, 0, none⟩), .pointer (some ⟨ir2, 0, none⟩), .pointer (some ⟨ibi, 0, none⟩), .string (bstr (rd x).1), .bool (goodAt rd p x), .agg #[.slice A p.locs.length c, .int .i64 p.len, .int .i64 p.birth, .string (bstr p.sum)], .int .i64 0, .bool false, .pointer dp, .agg #[.slice A p.locs.length c, .int .i64 p.len, .int .i64 p.birth, .string (bstr p.sum)], .func (.func 47) #[] #[.pointer (some ⟨n1 + 1, 0, none⟩), .pointer (some ⟨n1, 0, none⟩)], .string (bstr (rd x).1), .bool (goodAt rd p x), undef, undef, undef, undef, undef], defers := [] })
      (fun x a' _ X Y row hs hg hr => hs) ?assign ?body ?done ?stop
    case assign =>
      rintro l pre x W K ⟨⟨hp, hW, bx, q0, q1, q2⟩, hB⟩ hK
      simp only [encC]
      gi_wp2
      exact hK _ _ (KeepsFrom.refl _ _) (Keep.refl _ _ _) ⟨⟨hp, hW, bx, q0, q1, q2⟩, hB⟩ rfl
    case body =>
      rintro l pre x a' W hl ⟨r, hr⟩ ⟨⟨hp, hW, bx, q0, q1, q2⟩, hB⟩ rfl hlt
      have bx0 := bx.cell 0
      have q00 := q0.cell 0
      have q10 := q1.cell 0
      have q20 := q2.cell 0
      simp at bx0 q00 q10 q20
      have fx := bx.frozen 0
      have f0 := q0.frozen 0
      have f1 := q1.frozen 0
      have f2 := q2.frozen 0
      obtain ⟨tx, htx⟩ : ∃ t, (rd x).1 = t := ⟨_, rfl⟩
      have HTX := Lib.hid htx
      rw [htx]
      clear htx
      by_cases hg : goodAt rd p x = true
      · have HG := Lib.hid hg
        rw [hg]
        clear hg
        gi_wp2
        gi_region
        all_goals
          gi_wp2
          have kf : KeepsFrom wc.heap.size W (((W.setCell ⟨ir0, 0, none⟩ (.string (bstr tx))).setCell ⟨ir1, 0, none⟩ (.int .i64 (pre.length : Nat))).setCell ⟨ir2, 0, none⟩ (.int .i64 0)) := (((KeepsOthers.setCell _ _ _).from _).trans ((KeepsOthers.setCell _ _ _).from _)).trans ((KeepsOthers.setCell _ _ _).from _)
          refine ⟨⟨kf.size, kf.same⟩, ⟨rfl, pre, x, rfl, hp, HG.out, ?_, ?_, ?_⟩, (below_at (below_at (below_at hB or0 _ _) or1 _ _) or2 _ _).drew⟩
          · rw [HTX.out]
            have := (((q0.set_ 0 (.string (bstr tx))).far (p := ⟨ir1, 0, none⟩) nr0r1 (.int .i64 (pre.length : Nat))).far (p := ⟨ir2, 0, none⟩) nr0r2 (.int .i64 0)).drew
            simpa using this
          · have := (((q1.far (p := ⟨ir0, 0, none⟩) (Ne.symm nr0r1) (.string (bstr tx))).set_ 0 (.int .i64 (pre.length : Nat))).far (p := ⟨ir2, 0, none⟩) nr1r2 (.int .i64 0)).drew
            simpa using this
          · have := (((q2.far (p := ⟨ir0, 0, none⟩) (Ne.symm nr0r2) (.string (bstr tx))).far (p := ⟨ir1, 0, none⟩) (Ne.symm nr1r2) (.int .i64 (pre.length : Nat))).set_ 0 (.int .i64 0)).drew
            simpa using this
      · have hg2 : goodAt rd p x = false := by simpa using hg
        have HG := Lib.hid hg2
        rw [hg2]
        clear hg hg2
        have ww : wrap64 ((pre.length : Int) + 1) = (pre.length : Int) + 1 := IntWalk.wrap64_in _ ⟨by omega, by omega⟩
        gi_wp2
        have bx' := bx.set_ 0 (.int .i64 ((pre.length : Int) + 1))
        exact ⟨(KeepsOthers.setCell _ _ _).from _, (Keep.refl wc.heap.size (· = ibi) W).setCell (p := ⟨ibi, 0, none⟩) (.inr rfl) _, ⟨fun y hy => (List.mem_append.1 hy).elim (hp y) (fun e => by simp at e; subst e; exact HG.out), by simpa using hW, by simpa using bx', q0.far (p := ⟨ibi, 0, none⟩) nr0bi _, q1.far (p := ⟨ibi, 0, none⟩) nr1bi _, q2.far (p := ⟨ibi, 0, none⟩) nr2bi _⟩, below_at hB obi _ _⟩
    case done =>
      rintro D' ys W hD hys ⟨⟨hp, hW, bx, q0, q1, q2⟩, hB⟩ hK
      subst hys
      have hE := HE.out
      rw [readLs_none _ _ hp] at hE
      cases hE
      have q00 := q0.cell 0
      have q10 := q1.cell 0
      have q20 := q2.cell 0
      simp at q00 q10 q20
      have f0 := q0.frozen 0
      have f1 := q1.frozen 0
      have f2 := q2.frozen 0
      have hr0 : ir0 < wc.heap.size := r0.lt
      have hr1 : ir1 < wc.heap.size := r1.lt
      have hr2 : ir2 < wc.heap.size := r2.lt
      obtain ⟨W9, hW9⟩ : ∃ X, ((W.setCell ⟨ir0, 0, none⟩ (.string ⟨#[]⟩)).setCell ⟨ir1, 0, none⟩ (.int .i64 0)).setCell ⟨ir2, 0, none⟩ (.int .i64 7) = X := ⟨_, rfl⟩
      have hK9 : W9.heap[D']? = some (.deferred (some [])) := by
        rw [← hW9]
        exact (Below.heap_setCell _ ⟨ir2, 0, none⟩ _ D' (by simp; omega)).trans ((Below.heap_setCell _ ⟨ir1, 0, none⟩ _ D' (by simp; omega)).trans ((Below.heap_setCell _ ⟨ir0, 0, none⟩ _ D' (by simp; omega)).trans hK))
      have b9 : Below w.heap.size w W9 := by rw [← hW9]; exact below_at (below_at (below_at hB or0 _ _) or1 _ _) or2 _ _
      have y0 : Blk W9 ir0 9 #[.string ⟨#[]⟩] := by
        rw [← hW9]
        have := ((q0.set_ 0 (.string ⟨#[]⟩)).far (p := ⟨ir1, 0, none⟩) nr0r1 (.int .i64 0)).far (p := ⟨ir2, 0, none⟩) nr0r2 (.int .i64 7)
        simpa using this
      have y1 : Blk W9 ir1 3 #[.int .i64 0] := by
        rw [← hW9]
        have := ((q1.far (p := ⟨ir0, 0, none⟩) (Ne.symm nr0r1) (.string ⟨#[]⟩)).set_ 0 (.int .i64 0)).far (p := ⟨ir2, 0, none⟩) nr1r2 (.int .i64 7)
        simpa using this
      have y2 : Blk W9 ir2 29 #[.int .i64 7] := by
        rw [← hW9]
        have := ((q2.far (p := ⟨ir0, 0, none⟩) (Ne.symm nr0r2) (.string ⟨#[]⟩)).far (p := ⟨ir1, 0, none⟩) (Ne.symm nr1r2) (.int .i64 0)).set_ 0 (.int .i64 7)
        simpa using this
      go_wp2
      try rw [hW9]
      refine ⟨by simp, .inl ⟨_, _, rfl, run_takeDeferred hK9, ?_⟩⟩
      have z0 := blk_kept y0 (grownBy_putObj' W9 D' (.deferred none)) (fun r e => by cases e; exact ⟨_, hK9, rfl⟩)
      have z1 := blk_kept y1 (grownBy_putObj' W9 D' (.deferred none)) (fun r e => by cases e; exact ⟨_, hK9, rfl⟩)
      have z2 := blk_kept y2 (grownBy_putObj' W9 D' (.deferred none)) (fun r e => by cases e; exact ⟨_, hK9, rfl⟩)
      have z0 := z0.cell 0
      have z1 := z1.cell 0
      have z2 := z2.cell 0
      simp at z0 z1 z2
      refine ⟨.tuple #[.string (bstr []), .int .i64 0, .int .i64 7], ?_, rfl, b9.trans (belowK_b (w := w) (Nat.le_refl _) W9 D' _ _ (by have := bel.size; omega) hK9 rfl rfl)⟩
      simp [results, Tryd.f13, go_sem, z0, z1, z2]
    case stop =>
      rintro D' c' pre W hD hpre ⟨⟨rfl, pre', x, rfl, hne, hx, b0, b1, b2⟩, hB⟩ hK
      obtain ⟨m, hm⟩ := hpre
      have hE := HE.out
      have hloc : p.locs = pre' ++ x :: p.locs.drop m := by
        conv => lhs; rw [← List.take_append_drop m p.locs, ← hm]
        simp
      have hh := readLs_hit (rest := p.locs.drop m) hx pre' 0 hne
      rw [← hloc, hE] at hh
      simp only [Nat.zero_add] at hh
      cases hh
      gi_wp2
      refine ⟨by simp, .inl ⟨_, _, rfl, run_takeDeferred hK, ?_⟩⟩
      have z0 := blk_kept b0 (grownBy_putObj' W D' (.deferred none)) (fun r e => by cases e; exact ⟨_, hK, rfl⟩)
      have z1 := blk_kept b1 (grownBy_putObj' W D' (.deferred none)) (fun r e => by cases e; exact ⟨_, hK, rfl⟩)
      have z2 := blk_kept b2 (grownBy_putObj' W D' (.deferred none)) (fun r e => by cases e; exact ⟨_, hK, rfl⟩)
      have z0 := z0.cell 0
      have z1 := z1.cell 0
      have z2 := z2.cell 0
      simp at z0 z1 z2
      refine ⟨.tuple #[.string (bstr (rd x).1), .int .i64 (pre'.length : Nat), .int .i64 0], ?_, rfl, hB.trans (belowK_b (w := w) (Nat.le_refl _) W D' _ _ (by have := bel.size; omega) hK rfl rfl)⟩
      simp [results, Tryd.f13, go_sem, z0, z1, z2]
  · have hc1 : ckE p = 1 := (ckE_cases p).resolve_left hck
    have HCK := Lib.hid hc1
    have hE := HX.out
    unfold readB at hE
    rw [if_neg hck] at hE
    cases hE
    clear HX hck hc1
    go_enter Tryd.func13, Tryd.ntmps13
    go_wp2_with fail
    obtain ⟨w1, hw1⟩ : ∃ x, w.alloc (.cells #[.slice A p.locs.length c, .int .i64 p.len, .int .i64 p.birth, .string (bstr p.sum)] 25) = x := ⟨_, rfl⟩
    obtain ⟨ib0, hib0⟩ : ∃ i, w.heap.size = i := ⟨_, rfl⟩
    have b0 : Blk w1 ib0 25 #[.slice A p.locs.length c, .int .i64 p.len, .int .i64 p.birth, .string (bstr p.sum)] := by rw [← hw1, ← hib0]; exact Blk.new _ _ _
    have k1 : Below w.heap.size w w1 := by rw [← hw1]; exact (Below.refl _ _).alloc (Nat.le_refl _) _
    have zb0 : w1.heap.size = ib0 + 1 := by rw [← hw1, ← hib0]; simp
    rw [hw1, hib0]
    have ob0 : w.heap.size ≤ ib0 := by rw [← hib0]; exact bel.size
    have bel := hthen bel k1
    clear k1
    clear hw1 hib0
    have b0c0 := b0.cell 0
    have b0c1 := b0.cell 1
    have b0c2 := b0.cell 2
    have b0c3 := b0.cell 3
    simp at b0c0 b0c1 b0c2 b0c3
    have b0lt := b0.lt
    clear b0c0 b0c1 b0c2 b0c3 b0lt
    obtain ⟨w2, hw2⟩ : ∃ x, w1.alloc (.cells #[.string ⟨#[]⟩] 9) = x := ⟨_, rfl⟩
    obtain ⟨ir0, hir0⟩ : ∃ i, w1.heap.size = i := ⟨_, rfl⟩
    have r0 : Blk w2 ir0 9 #[.string ⟨#[]⟩] := by rw [← hw2, ← hir0]; exact Blk.new _ _ _
    have k2 : Below w1.heap.size w1 w2 := by rw [← hw2]; exact (Below.refl _ _).alloc (Nat.le_refl _) _
    have zr0 : w2.heap.size = ir0 + 1 := by rw [← hw2, ← hir0]; simp
    rw [hw2, ← zb0, hir0]
    have or0 : w.heap.size ≤ ir0 := by rw [← hir0]; exact bel.size
    have nb0r0 : ib0 ≠ ir0 := by have := b0.lt; omega
    have b0 := b0.below k2 b0.lt
    have bel := hthen bel k2
    clear k2
    clear hw2 hir0
    have b0c0 := b0.cell 0
    have b0c1 := b0.cell 1
    have b0c2 := b0.cell 2
    have b0c3 := b0.cell 3
    simp at b0c0 b0c1 b0c2 b0c3
    have b0lt := b0.lt
    have r0c0 := r0.cell 0
    simp at r0c0
    have r0lt := r0.lt
    clear b0c0 b0c1 b0c2 b0c3 b0lt r0c0 r0lt
    obtain ⟨w3, hw3⟩ : ∃ x, w2.alloc (.cells #[.int .i64 0] 3) = x := ⟨_, rfl⟩
    obtain ⟨ir1, hir1⟩ : ∃ i, w2.heap.size = i := ⟨_, rfl⟩
    have r1 : Blk w3 ir1 3 #[.int .i64 0] := by rw [← hw3, ← hir1]; exact Blk.new _ _ _
    have k3 : Below w2.heap.size w2 w3 := by rw [← hw3]; exact (Below.refl _ _).alloc (Nat.le_refl _) _
    have zr1 : w3.heap.size = ir1 + 1 := by rw [← hw3, ← hir1]; simp
    rw [hw3, ← zr0, hir1]
    have or1 : w.heap.size ≤ ir1 := by rw [← hir1]; exact bel.size
    have nb0r1 : ib0 ≠ ir1 := by have := b0.lt; omega
    have nr0r1 : ir0 ≠ ir1 := by have := r0.lt; omega
    have b0 := b0.below k3 b0.lt
    have r0 := r0.below k3 r0.lt
    have bel := hthen bel k3
    clear k3
    clear hw3 hir1
    have b0c0 := b0.cell 0
    have b0c1 := b0.cell 1
    have b0c2 := b0.cell 2
    have b0c3 := b0.cell 3
    simp at b0c0 b0c1 b0c2 b0c3
    have b0lt := b0.lt
    have r0c0 := r0.cell 0
    simp at r0c0
    have r0lt := r0.lt
    have r1c0 := r1.cell 0
    simp at r1c0
    have r1lt := r1.lt
    clear b0c0 b0c1 b0c2 b0c3 b0lt r0c0 r0lt r1c0 r1lt
    obtain ⟨w4, hw4⟩ : ∃ x, w3.alloc (.cells #[.int .i64 0] 29) = x := ⟨_, rfl⟩
    obtain ⟨ir2, hir2⟩ : ∃ i, w3.heap.size = i := ⟨_, rfl⟩
    have r2 : Blk w4 ir2 29 #[.int .i64 0] := by rw [← hw4, ← hir2]; exact Blk.new _ _ _
    have k4 : Below w3.heap.size w3 w4 := by rw [← hw4]; exact (Below.refl _ _).alloc (Nat.le_refl _) _
    have zr2 : w4.heap.size = ir2 + 1 := by rw [← hw4, ← hir2]; simp
    rw [hw4, ← zr1, hir2]
    have or2 : w.heap.size ≤ ir2 := by rw [← hir2]; exact bel.size
    have nb0r2 : ib0 ≠ ir2 := by have := b0.lt; omega
    have nr0r2 : ir0 ≠ ir2 := by have := r0.lt; omega
    have nr1r2 : ir1 ≠ ir2 := by have := r1.lt; omega
    have b0 := b0.below k4 b0.lt
    have r0 := r0.below k4 r0.lt
    have r1 := r1.below k4 r1.lt
    have bel := hthen bel k4
    clear k4
    clear hw4 hir2
    have b0c0 := b0.cell 0
    have b0c1 := b0.cell 1
    have b0c2 := b0.cell 2
    have b0c3 := b0.cell 3
    simp at b0c0 b0c1 b0c2 b0c3
    have b0lt := b0.lt
    have r0c0 := r0.cell 0
    simp at r0c0
    have r0lt := r0.lt
    have r1c0 := r1.cell 0
    simp at r1c0
    have r1lt := r1.lt
    have r2c0 := r2.cell 0
    simp at r2c0
    have r2lt := r2.lt
    clear b0c0 b0c1 b0c2 b0c3 b0lt r0c0 r0lt r1c0 r1lt r2c0 r2lt
    have b0c0 := b0.cell 0
    have b0c1 := b0.cell 1
    have b0c2 := b0.cell 2
    have b0c3 := b0.cell 3
    simp at b0c0 b0c1 b0c2 b0c3
    have b0lt := b0.lt
    have r0c0 := r0.cell 0
    simp at r0c0
    have r0lt := r0.lt
    have r1c0 := r1.cell 0
    simp at r1c0
    have r1lt := r1.lt
    have r2c0 := r2.cell 0
    simp at r2c0
    have r2lt := r2.lt
    go_wp2_with fail
    refine (check_to HCK.out w.heap.size _ (hv.keep bel (Nat.le_refl _)) bel.size).mono ?_
    rintro e w5 ⟨rfl, k5⟩
    clear b0c0 b0c1 b0c2 b0c3 b0lt r0c0 r0lt r1c0 r1lt r2c0 r2lt
    have b0 := b0.below k5 b0.lt
    have r0 := r0.below k5 r0.lt
    have r1 := r1.below k5 r1.lt
    have r2 := r2.below k5 r2.lt
    have bel := hthen bel k5
    clear k5
    have b0c0 := b0.cell 0
    have b0c1 := b0.cell 1
    have b0c2 := b0.cell 2
    have b0c3 := b0.cell 3
    simp at b0c0 b0c1 b0c2 b0c3
    have b0lt := b0.lt
    have r0c0 := r0.cell 0
    simp at r0c0
    have r0lt := r0.lt
    have r1c0 := r1.cell 0
    simp at r1c0
    have r1lt := r1.lt
    have r2c0 := r2.cell 0
    simp at r2c0
    have r2lt := r2.lt
    have f0 := r0.frozen 0
    have f1 := r1.frozen 0
    have f2 := r2.frozen 0
    go_wp2
    have s0 := ((r0.set_ 0 (.string ⟨#[]⟩)).far (p := ⟨ir1, 0, none⟩) nr0r1 (.int .i64 0)).far (p := ⟨ir2, 0, none⟩) nr0r2 (.int .i64 1)
    have s1 := ((r1.far (p := ⟨ir0, 0, none⟩) (Ne.symm nr0r1) (.string ⟨#[]⟩)).set_ 0 (.int .i64 0)).far (p := ⟨ir2, 0, none⟩) nr1r2 (.int .i64 1)
    have s2 := ((r2.far (p := ⟨ir0, 0, none⟩) (Ne.symm nr0r2) (.string ⟨#[]⟩)).far (p := ⟨ir1, 0, none⟩) (Ne.symm nr1r2) (.int .i64 0)).set_ 0 (.int .i64 1)
    have s0 := s0.cell 0
    have s1 := s1.cell 0
    have s2 := s2.cell 0
    simp at s0 s1 s2
    refine bodyPost_ret (v := .tuple #[.string (bstr []), .int .i64 0, .int .i64 1]) ?h1 rfl ?h2
    case h1 => simp [results, Tryd.results13, go_sem, s0, s1, s2]
    case h2 => exact ⟨rfl, below_at (below_at (below_at bel or0 _ _) or1 _ _) or2 _ _⟩
end Go.Proofs.YtmdjbmhjnajpgaaDoor
