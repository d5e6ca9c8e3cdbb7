/- The walk of the law PtrOn: it returns true at every input, and writes to nothing that was there. No condition but that numbers fit their kind. -/
import Derived.Test.YtnjbhooogfonbaaLv04
import Derived.Test.YtnjbhooogfonbaaTy
namespace Go.Proofs.Ytnjbhooogfonbaa
open Go.RowKit
set_option linter.unusedSimpArgs false
set_option linter.unnecessarySimpa false
set_option linter.unusedVariables false

def toLc (x : D_api_Loc) : Lc := ⟨x.dev, x.at_⟩
def toPt (a : D_api_Ptr) : Pt := ⟨a.locs.map toLc, a.len, a.birth, a.sum⟩
theorem locs_of {w : World} {v : Value} {l : List D_api_Loc} (h : SlAt w.heap.size w (R_api_Loc w.heap.size w) 2 [v] l) : LocsAt w.heap.size w v (l.map toLc) := by
  obtain ⟨A, n, c, e, rfl, hc, hm, hx⟩ := h
  simp only [List.cons.injEq, and_true] at e
  subst e
  refine ⟨A, c, by simp, by simpa using hc, hm, fun h0 => ?_⟩
  obtain ⟨ad, rfl, hb, hcell⟩ := hx (by simpa using h0)
  refine ⟨ad, rfl, hb, fun i hi => ?_⟩
  have hi' : i < l.length := by simpa using hi
  obtain ⟨es, hl, ⟨rfl, -, -⟩, hu⟩ := hcell i l[i] (List.getElem?_eq_getElem hi')
  have e0 := hu 0 _ rfl
  have e1 := hu 1 _ rfl
  simp only [List.getElem_map]
  exact ⟨e0, e1⟩

/-- a pointer's box in a law, and what it holds -/
structure PSt (w : World) (P : Nat) (v : Value) (p : Pt) (w' : World) : Prop where
  hb : Blk w' P 24 #[v, .int .i64 p.len, .int .i64 p.birth, .string (bstr p.sum)]
  hv : LocsAt w'.heap.size w' v p.locs
  k : Below w.heap.size w w'
theorem PSt.below {w w1 w2 : World} {P : Nat} {v : Value} {p : Pt} (h : PSt w P v p w1) (b : Below w1.heap.size w1 w2) : PSt w P v p w2 :=
  ⟨h.hb.below b h.hb.lt, h.hv.keep b b.size, h.k.trans (b.mono h.k.size)⟩
theorem PSt.new {w : World} {v : Value} {p : Pt} (h : LocsAt w.heap.size w v p.locs) : PSt w w.heap.size v p (w.alloc (.cells #[v, .int .i64 p.len, .int .i64 p.birth, .string (bstr p.sum)] 24)) :=
  have b := (Below.refl _ w).alloc (Nat.le_refl _) (.cells #[v, .int .i64 p.len, .int .i64 p.birth, .string (bstr p.sum)] 24)
  ⟨Blk.new _ _ _, h.keep b b.size, b⟩

def onB (p : Pt) (d : Int) : Bool := p.locs.any fun x => x.dev == d
theorem onB_ok {p : Pt} (h : ckE p = 0) : (onB p 0).toNat + (onB p 1).toNat = p.locs.length ∧ ∀ d, (d == 0) = false → (d == 1) = false → onB p d = false := by
  obtain ⟨h2, h1, -, hbad, hs, -, -⟩ := ok_facts h
  obtain ⟨locs, len, birth, sum⟩ := p
  simp only at *
  unfold onB
  rcases locs with _ | ⟨x, _ | ⟨y, _ | ⟨z, l⟩⟩⟩
  · simp at h1
  · obtain ⟨g1, g2, -, -⟩ := good_loc (loc_ok hbad 0 (by simp))
    simp only [List.getElem_cons_zero] at g1 g2
    have : x.dev = 0 ∨ x.dev = 1 := by omega
    rcases this with e | e <;> simp [e]
    · intro d h1 h2 h3; exact h1 h3.symm
    · intro d h1 h2 h3; exact h2 h3.symm
  · obtain ⟨g1, g2, -, -⟩ := good_loc (loc_ok hbad 0 (by simp))
    obtain ⟨g3, g4, -, -⟩ := good_loc (loc_ok hbad 1 (by simp))
    simp only [List.getElem_cons_zero, List.getElem_cons_succ] at g1 g2 g3 g4
    simp only [same2, decide_eq_false_iff_not] at hs
    have h5 : x.dev = 0 ∨ x.dev = 1 := by omega
    have h6 : y.dev = 0 ∨ y.dev = 1 := by omega
    rcases h5 with e | e <;> rcases h6 with f | f <;> simp [e, f] at hs ⊢
    · intro d h1 h2; exact ⟨fun h => h1 h.symm, fun h => h2 h.symm⟩
    · intro d h1 h2; exact ⟨fun h => h2 h.symm, fun h => h1 h.symm⟩
  · simp at h2

set_option maxHeartbeats 2000000 in
theorem on_main (w : World) (p : Pt) (v : Value) (hv : LocsAt w.heap.size w v p.locs) (dev : Int) (HS : Hid (smallB p = true)) (HC : Hid (ckE p = 0)) (b0 b1 bd : Bool) (H0 : Hid (onB p 0 = b0)) (H1 : Hid (onB p 1 = b1)) (HD : Hid (onB p dev = bd))
    (hn : b0.toNat + b1.toNat = p.locs.length) (t0 t1 : Bool) (h0 : (dev == 0) = t0) (h1 : (dev == 1) = t1) (hd : t0 = false → t1 = false → bd = false) :
    Calls Try.prog 8 #[ptV v p, .int .i64 dev] w fun e w' => e = .returned (.bool true) ∧ Below w.heap.size w w' := by
  obtain ⟨A, c, rfl, hc, hm⟩ := hv.form
  go_enter Try.func8, Try.ntmps8
  go_wp2_with fail
  obtain ⟨P, hP⟩ : ∃ g, w.heap.size = g := ⟨_, rfl⟩
  have st0 := PSt.new hv
  obtain ⟨w0, hw0⟩ : ∃ x, w.alloc (.cells #[.slice A p.locs.length c, .int .i64 p.len, .int .i64 p.birth, .string (bstr p.sum)] 24) = x := ⟨_, rfl⟩
  rw [hw0] at st0 ⊢
  rw [hP] at st0 ⊢
  clear hw0
  refine (small_to HS.out _ w0.heap.size w0 st0.hv).mono ?_
  rintro e w1 ⟨rfl, b1'⟩
  have st1 := st0.below b1'
  clear st0 b1'
  have c0 := st1.hb.cell 0
  have c1 := st1.hb.cell 1
  have c2 := st1.hb.cell 2
  have c3 := st1.hb.cell 3
  simp at c0 c1 c2 c3
  go_wp2_with fail
  refine (check_to HC.out w1.heap.size w1 st1.hv (Nat.le_refl _)).mono ?_
  rintro e w2 ⟨rfl, b2'⟩
  have st2 := st1.below b2'
  clear st1 b2' c0 c1 c2 c3
  go_wp2_with fail
  go_loopw [5, 6] (fun n d wr => ∃ k : Nat, k ≤ 2 ∧ d = .int .i64 k ∧ n = .int .i64 (((if 1 ≤ k then b0.toNat else 0) + (if 2 ≤ k then b1.toNat else 0) : Nat) : Int) ∧ PSt w P (.slice A p.locs.length c) p wr) (fun _ d _ => 2 - (intOf d).toNat)
  case atStart => exact ⟨0, by omega, rfl, rfl, st2⟩
  case round =>
    obtain ⟨k, hk, rfl, rfl, st⟩ := hrel
    clear st2
    have hk3 : k = 0 ∨ k = 1 ∨ k = 2 := by omega
    rcases hk3 with rfl | rfl | rfl
    · cases b0
      all_goals
        have c0 := st.hb.cell 0
        have c1 := st.hb.cell 1
        have c2 := st.hb.cell 2
        have c3 := st.hb.cell 3
        simp at c0 c1 c2 c3
        go_wp2_with fail
        refine (on_to H0.out _ wr.heap.size wr st.hv (Nat.le_refl _)).mono ?_
        rintro e w3 ⟨rfl, b3'⟩
        have st3 := st.below b3'
        clear st b3' c0 c1 c2 c3
        go_wp2
        go_round
        case rel => exact ⟨1, by omega, rfl, rfl, st3⟩
        case measure => decide
    · cases b0 <;> cases b1
      all_goals
        have c0 := st.hb.cell 0
        have c1 := st.hb.cell 1
        have c2 := st.hb.cell 2
        have c3 := st.hb.cell 3
        simp at c0 c1 c2 c3
        go_wp2_with fail
        refine (on_to H1.out _ wr.heap.size wr st.hv (Nat.le_refl _)).mono ?_
        rintro e w3 ⟨rfl, b3'⟩
        have st3 := st.below b3'
        clear st b3' c0 c1 c2 c3
        go_wp2
        go_round
        case rel => exact ⟨2, by omega, rfl, rfl, st3⟩
        case measure => decide
    · have c0 := st.hb.cell 0
      have c1 := st.hb.cell 1
      have c2 := st.hb.cell 2
      have c3 := st.hb.cell 3
      simp at c0 c1 c2 c3
      cases t0
      · cases t1
        · obtain rfl := hd rfl rfl
          go_wp2_with fail
          refine (on_to HD.out _ wr.heap.size wr st.hv (Nat.le_refl _)).mono ?_
          rintro e w3 ⟨rfl, b3'⟩
          have st3 := st.below b3'
          go_wp2_with fail
          refine (live_any w3).mono ?_
          rintro e w9 ⟨rfl, b9⟩
          go_wp2
          go_ret
          exact ⟨rfl, st3.k.trans (b9.mono st3.k.size)⟩
        · go_wp2_with fail
          refine (live_any wr).mono ?_
          rintro e w9 ⟨rfl, b9⟩
          go_wp2
          go_ret
          exact ⟨rfl, st.k.trans (b9.mono st.k.size)⟩
      · go_wp2_with fail
        refine (live_any wr).mono ?_
        rintro e w9 ⟨rfl, b9⟩
        go_wp2
        go_ret
        exact ⟨rfl, st.k.trans (b9.mono st.k.size)⟩

set_option maxHeartbeats 1000000 in
theorem ptrOn_walk (w : World) (a0 : D_api_Ptr) (v0_0 : Value) (h0_0 : SlAt w.heap.size w (R_api_Loc w.heap.size w) 2 [v0_0] a0.locs) (h0_1 : (Lit.int .i64 a0.len).wf = true) (h0_2 : (Lit.int .i64 a0.birth).wf = true) (h0_3 : a0.sum.length ≤ 9223372036854775807) (a1 : Int) (h1 : (Lit.int .i64 a1).wf = true) :
    Calls Try.prog 8 #[.agg #[v0_0, .int .i64 a0.len, .int .i64 a0.birth, .string (bstr a0.sum)], .int .i64 a1] w fun e w' => e = .returned (.bool true) ∧ Below w.heap.size w w' := by
  have hv := locs_of h0_0
  clear h0_0 h0_1 h0_2 h0_3 h1
  obtain ⟨p, hp⟩ : ∃ p, toPt a0 = p := ⟨_, rfl⟩
  have hv' : LocsAt w.heap.size w v0_0 p.locs := by rw [← hp]; exact hv
  show Calls Try.prog 8 #[ptV v0_0 (toPt a0), .int .i64 a1] w _
  rw [hp]
  clear hp hv
  cases hs : smallB p with
  | false =>
    have HS := Lib.hid hs
    clear hs
    obtain ⟨A, c, rfl, hc, hm⟩ := hv'.form
    go_enter Try.func8, Try.ntmps8
    go_wp2_with fail
    obtain ⟨P, hP⟩ : ∃ g, w.heap.size = g := ⟨_, rfl⟩
    have st0 := PSt.new hv'
    obtain ⟨w0, hw0⟩ : ∃ x, w.alloc (.cells #[.slice A p.locs.length c, .int .i64 p.len, .int .i64 p.birth, .string (bstr p.sum)] 24) = x := ⟨_, rfl⟩
    rw [hw0] at st0 ⊢
    rw [hP] at st0
    clear hw0
    refine (small_to HS.out _ w0.heap.size w0 st0.hv).mono ?_
    rintro e w1 ⟨rfl, b1'⟩
    have st1 := st0.below b1'
    go_wp2_with fail
    refine (live_any w1).mono ?_
    rintro e w9 ⟨rfl, b9⟩
    go_wp2
    go_ret
    exact ⟨rfl, st1.k.trans (b9.mono st1.k.size)⟩
  | true =>
    rcases ckE_cases p with hc0 | hc0
    · obtain ⟨hn, hd⟩ := onB_ok hc0
      exact on_main w p v0_0 hv' a1 hs hc0 _ _ _ rfl rfl rfl hn _ _ rfl rfl (hd a1)
    · have HS := Lib.hid hs
      have HC := Lib.hid hc0
      clear hs hc0
      obtain ⟨A, c, rfl, hc, hm⟩ := hv'.form
      go_enter Try.func8, Try.ntmps8
      go_wp2_with fail
      obtain ⟨P, hP⟩ : ∃ g, w.heap.size = g := ⟨_, rfl⟩
      have st0 := PSt.new hv'
      obtain ⟨w0, hw0⟩ : ∃ x, w.alloc (.cells #[.slice A p.locs.length c, .int .i64 p.len, .int .i64 p.birth, .string (bstr p.sum)] 24) = x := ⟨_, rfl⟩
      rw [hw0] at st0 ⊢
      rw [hP] at st0 ⊢
      clear hw0
      refine (small_to HS.out _ w0.heap.size w0 st0.hv).mono ?_
      rintro e w1 ⟨rfl, b1'⟩
      have st1 := st0.below b1'
      clear st0 b1'
      have c0 := st1.hb.cell 0
      have c1 := st1.hb.cell 1
      have c2 := st1.hb.cell 2
      have c3 := st1.hb.cell 3
      simp at c0 c1 c2 c3
      go_wp2_with fail
      refine (check_to HC.out w1.heap.size w1 st1.hv (Nat.le_refl _)).mono ?_
      rintro e w2 ⟨rfl, b2'⟩
      have st2 := st1.below b2'
      clear st1 b2' c0 c1 c2 c3
      go_wp2_with fail
      refine (live_any w2).mono ?_
      rintro e w9 ⟨rfl, b9⟩
      go_wp2
      go_ret
      exact ⟨rfl, st2.k.trans (b9.mono st2.k.size)⟩

end Go.Proofs.Ytnjbhooogfonbaa
