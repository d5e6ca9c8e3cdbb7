/- Package dev: slices.Backward of writes: what it hands to a loop. -/
import Derived.Test.YtcamcjcmhjldpaaDoorDvF
import Derived.RangeFuncNested
import Derived.RangeFuncBound
import Derived.RangeFuncCalls
import Derived.RangeFuncLeaves
import Derived.RangeFuncBox
import Derived.Shelf.Abstract
import Derived.Shelf.RegionOpen
import Derived.OwnWalkIn
import Derived.TacticsInMore
import Derived.LoopNIn
import Derived.LoopIn
namespace Go.Proofs.YtcamcjcmhjldpaaDoor
open Go.RowKit Go.Shelf
set_option linter.unusedSimpArgs false
set_option linter.unnecessarySimpa false
set_option linter.unusedVariables false

attribute [local go_sem] Oper.semAt_some

/-- an index and a write -/
abbrev IW := Nat × Wr
def encIW (x : IW) : Array Value := #[.int .i64 (x.1 : Int), .agg #[.int .i64 x.2.loc.dev, .int .i64 x.2.loc.pos, .string (bstr x.2.text)]]
/-- what has come: the last ones of l, from behind, down to place m -/
def Came (l : List Wr) (m : Nat) (pre : List IW) : Prop := m ≤ l.length ∧ pre.map Prod.snd = (l.drop m).reverse
theorem Came.start (l : List Wr) : Came l l.length [] := ⟨Nat.le_refl _, by simp⟩
theorem Came.next {l : List Wr} {m : Nat} {pre : List IW} (h : Came l (m + 1) pre) (hm : m < l.length) : Came l m (pre ++ [(m, l[m])]) := by
  refine ⟨by omega, ?_⟩
  rw [List.map_append, h.2, List.drop_eq_getElem_cons hm, List.reverse_cons]
  rfl
theorem Came.len {l : List Wr} {m : Nat} {pre : List IW} (h : Came l m pre) : pre.length = l.length - m := by
  have := congrArg List.length h.2
  simpa using this

set_option maxRecDepth 100000 in
set_option maxHeartbeats 4000000 in
theorem bw1_in (F : Fence) (n : Nat) (hf : F.fn 71) (hro : F.round = none) (hn : 1 ≤ n) (lp Bs n0 gr c : Nat) (l : List Wr) (hl : l.length ≤ 100000) (hpos : 0 < l.length) (hgr : gr < n0) (hbs : Bs < n0) (J Jx : List IW → World → Prop)
    (hY : ∀ pre x W, J pre W → pre.length < l.length → YieldAt F (n - 1) Tryd.prog lp (encIW x) W fun e W' =>
      (e = .returned (.bool true) ∧ J (pre ++ [x]) W' ∧ Below n0 W W') ∨ (e = .returned (.bool false) ∧ Jx (pre ++ [x]) W'))
    (W : World) (hBs : W.cell? ⟨Bs, 0, none⟩ = some (.slice (some ⟨gr, 0, none⟩) l.length c)) (hc : W.ownsRow 0 82 3 (.slice (some ⟨gr, 0, none⟩) l.length c) l.length (wrsV l)) (h0 : J [] W) :
    CallsIn F n Tryd.prog 71 #[.func (.yield lp) #[] #[], .pointer (some ⟨Bs, 0, none⟩)] W fun e W' => (∃ v, e = .returned v) ∧
      ((∃ ys, Came l 0 ys ∧ J ys W') ∨ (∃ pre, (∃ m, Came l m pre) ∧ Jx pre W')) := by
  refine callsIn_of_wp Tryd.func71 rfl hf ?_ hro
  simp only [Tryd.ntmps71, List.size_toArray, List.length_cons, List.length_nil, Nat.reduceAdd, Nat.reduceSub, Array.replicate_succ, Array.replicate_zero, List.push_toArray, List.append_toArray, List.nil_append, List.cons_append]
  obtain ⟨q, hq⟩ : ∃ q : Nat, l.length = q + 1 := ⟨l.length - 1, by omega⟩
  have hqi : ((l.length : Nat) : Int) - 1 = (q : Int) := by omega
  gi_wp2
  gi_loopw [3] (fun i wr => Below n0 W wr ∧ ((∃ k : Nat, k < l.length ∧ i = .int .i64 k ∧ ∃ pre, Came l (k + 1) pre ∧ J pre wr) ∨ (i = .int .i64 (-1) ∧ ∃ pre, Came l 0 pre ∧ J pre wr))) (fun i _ => (intOf i + 1).toNat)
  case atStart => exact ⟨Below.refl _ _, .inl ⟨q, by omega, by first | rfl | go_num | (congr 1; omega), [], by rw [← hq]; exact Came.start l, h0⟩⟩
  case round =>
    obtain ⟨hnx, ⟨k, hk, rfl, pre, hcame, hJ⟩ | ⟨rfl, pre, hcame, hJ⟩⟩ := hrel
    · have ho := row_moved (w' := wr) hc (fun j e => by cases e; exact hnx.block _ hgr)
      have cB : wr.cell? ⟨Bs, 0, none⟩ = some (.slice (some ⟨gr, 0, none⟩) l.length c) := (hnx.cell (p := ⟨Bs, 0, none⟩) hbs).trans hBs
      obtain ⟨g1, g2, g3⟩ := wrsV_get l k hk
      have y0 := ho.cellAt (k * 3) (by omega)
      have y1 := ho.cellAt (k * 3 + 1) (by omega)
      have y2 := ho.cellAt (k * 3 + 2) (by omega)
      rw [g1] at y0
      rw [g2] at y1
      rw [g3] at y2
      have hcl := hcame.len
      have HC := Lib.hid (hcame.next hk)
      obtain ⟨fn, tmps, assign, body, hy, hR⟩ := hY pre (k, l[k]) wr hJ (by omega)
      clear g1 g2 g3 ho hc hBs hcame hcl hq hqi
      simp only [encIW] at hy
      gi_wp2
      refine hR.mono ?_
      rintro e W3 (⟨rfl, hJ3, hk3⟩ | ⟨rfl, hJx3⟩)
      · gi_wp2
        go_roundw
        case rel =>
          refine ⟨hnx.trans hk3, ?_⟩
          rcases Nat.eq_zero_or_pos k with rfl | hpk
          · exact .inr ⟨by rfl, _, HC.out, hJ3⟩
          · exact .inl ⟨k - 1, by omega, by congr 1; omega, _, by rw [Nat.sub_add_cancel hpk]; exact HC.out, hJ3⟩
        case measure => first | (simp [intOf]; done) | (simp [intOf]; omega)
      · gi_wp2
        refine bodyPost_ret (results_none rfl _ _ _) rfl ?_
        exact ⟨⟨_, rfl⟩, .inr ⟨_, ⟨_, HC.out⟩, hJx3⟩⟩
    · gi_wp2
      go_end0
      exact ⟨⟨_, rfl⟩, .inl ⟨_, hcame, hJ⟩⟩

set_option maxRecDepth 100000 in
set_option maxHeartbeats 1000000 in
theorem bw1_nil_in (F : Fence) (n : Nat) (hf : F.fn 71) (hro : F.round = none) (lp Bs c : Nat) (A : Option Addr) (J : List IW → World → Prop)
    (W : World) (hBs : W.cell? ⟨Bs, 0, none⟩ = some (.slice A 0 c)) (h0 : J [] W) :
    CallsIn F n Tryd.prog 71 #[.func (.yield lp) #[] #[], .pointer (some ⟨Bs, 0, none⟩)] W fun e W' => (∃ v, e = .returned v) ∧ J [] W' := by
  refine callsIn_of_wp Tryd.func71 rfl hf ?_ hro
  simp only [Tryd.ntmps71, List.size_toArray, List.length_cons, List.length_nil, Nat.reduceAdd, Nat.reduceSub, Array.replicate_succ, Array.replicate_zero, List.push_toArray, List.append_toArray, List.nil_append, List.cons_append]
  gi_wp2
  gi_loopw [3] (fun i wr => i = .int .i64 (-1) ∧ J [] wr) (fun _ _ => 0)
  case atStart => exact ⟨rfl, h0⟩
  case round =>
    obtain ⟨rfl, hJs⟩ := hrel
    gi_wp2
    go_end0
    exact ⟨⟨_, rfl⟩, hJs⟩

theorem bw_stops (F : Fence) (n : Nat) (hf : F.fn 71) (hro : F.round = none) (hn : 1 ≤ n) (Bs n0 : Nat) (v : Value) (l : List Wr) (hl : l.length ≤ 100000) (w : World) (hbs : Bs < n0) (hn0 : n0 ≤ w.heap.size)
    (hc : w.cell? ⟨Bs, 0, none⟩ = some v) (ho : Owns w 82 3 v l.length (wrsV l)) (hv : ∀ k, zblock v = some k → k < n0) :
    SeqStopsK F n Tryd.prog 71 #[.pointer (some ⟨Bs, 0, none⟩)] encIW (Below n0) (Came l 0) (fun pre => ∃ m, Came l m pre) l.length w := fun lp J Jx W hW _ _ hY h0 => by
  have hc' := (hW.cell (p := ⟨Bs, 0, none⟩) (Nat.lt_of_lt_of_le hbs hn0)).trans hc
  have ho' := ho.below hW
  by_cases hpos : 0 < l.length
  · have hr := ho'.row hpos
    obtain ⟨gr, c, rfl, _, _⟩ := hr.form hpos
    have hgr : gr < n0 := by
      refine hv gr ?_
      rw [ho'.zb hpos]
      rfl
    exact bw1_in F n hf hro hn lp Bs n0 gr c l hl hpos hgr hbs J Jx hY W hc' hr h0
  · have e : l = [] := List.eq_nil_of_length_eq_zero (by omega)
    subst e
    obtain ⟨A, c, rfl, _, _⟩ := ho.form
    exact (bw1_nil_in F n hf hro lp Bs c A J W hc' h0).mono fun e W' ⟨he, hj⟩ => ⟨he, .inl ⟨[], ⟨Nat.le_refl _, rfl⟩, hj⟩⟩

set_option maxHeartbeats 400000 in
theorem bw_any (A : Option Addr) (len cap : Nat) (w : World) :
    Calls Tryd.prog 64 #[.slice A len cap] w fun e w' => e = .returned (.func (.func 71) #[] #[.pointer (some ⟨w.heap.size, 0, none⟩)]) ∧ w.alloc (.cells #[.slice A len cap] 73) = w' := by
  go_enter Tryd.func64, Tryd.ntmps64
  go_wp2
  go_ret
  exact ⟨rfl, rfl⟩

end Go.Proofs.YtcamcjcmhjldpaaDoor
