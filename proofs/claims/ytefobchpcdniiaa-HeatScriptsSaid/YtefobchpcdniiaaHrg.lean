/- The walk of HeatScripts. -/
import Derived.Test.YtefobchpcdniiaaHrf
import Derived.Test.YtefobchpcdniiaaHls
namespace Go.Proofs.Ytefobchpcdniiaa
open Go Go.RowKit Go.Maps
set_option linter.unusedSimpArgs false
set_option linter.unnecessarySimpa false
set_option linter.unusedVariables false

/-- behind the first k calls of a script -/
def opL (L : List Cn) (o : D_permafrostlaw12_Op) : List Cn := if o.do_ = 0 then touchL L o.key o.now else if o.do_ = 1 then without L o.key else L
def opsL (l : List D_permafrostlaw12_Op) : Nat → List Cn
  | 0 => []
  | k + 1 => match l[k]? with | some o => opL (opsL l k) o | none => opsL l k
theorem opsL_succ {l : List D_permafrostlaw12_Op} {k : Nat} (hk : k < l.length) : opsL l (k + 1) = opL (opsL l k) l[k] := by
  rw [opsL, List.getElem?_eq_getElem hk]
/-- a heat and the reference's beside it -/
structure Sc (w0 w : World) (g b r : Nat) (v : Value) (L1 L2 : List Cn) : Prop where
  hh : HeatAt w g b L1
  rf : RfAt w r v L2
  ng : r ≠ g
  nb : r ≠ b
  own : ∀ k, v.ownBlock = some k → k ≠ g ∧ k ≠ b ∧ w0.heap.size ≤ k
  lb : w0.heap.size ≤ b
  lr : w0.heap.size ≤ r
  bel : Below w0.heap.size w0 w
theorem Sc.below {w0 w w' : World} {g b r : Nat} {v : Value} {L1 L2 : List Cn} (h : Sc w0 w g b r v L1 L2) (k : Below w.heap.size w w') : Sc w0 w' g b r v L1 L2 :=
  ⟨h.hh.below k, h.rf.below k, h.ng, h.nb, h.own, h.lb, h.lr, hthen h.bel k⟩
theorem Sc.p {w0 w w' : World} {g b r : Nat} {v : Value} {L1 L2 L : List Cn} (h : Sc w0 w g b r v L1 L2) (hh : HeatAt w' g b L) (k : Keep w.heap.size (· = b) w w') : Sc w0 w' g b r v L L2 :=
  ⟨hh, h.rf.keep k (fun j hj => ⟨h.rf.lt hj, hj.elim (fun e => e ▸ h.nb) (fun e => (h.own j e).2.1)⟩), h.ng, h.nb, h.own, h.lb, h.lr, bkeep h.bel h.lb h.bel.size k⟩
theorem Sc.r {w0 w w' : World} {g b r : Nat} {v u : Value} {L1 L2 L : List Cn} (h : Sc w0 w g b r v L1 L2) (rf : RfAt w' r u L) (hu : ∀ j, u.ownBlock = some j → w.heap.size ≤ j) (k : Keep w.heap.size (fun j => j = r) w w') : Sc w0 w' g b r u L1 L :=
  ⟨h.hh.keep k (fun e => h.ng e.symm) (fun e => h.nb e.symm), rf, h.ng, h.nb, fun j hj => by have := hu j hj; have := h.hh.lt; have := h.bel.size; exact ⟨by omega, by omega, by omega⟩, h.lb, h.lr, bkeep h.bel h.lr h.bel.size k⟩
theorem hotL_le (L : List Cn) (now n : Int) : (hotL L now n).length ≤ L.length := by
  rw [hotL_rhot, List.length_take, List.length_map]
  have := rhot_len now L
  omega

theorem value_to {g b : Nat} {L : List Cn} {k : List UInt8} {now z : Int} (hz : valL L k now = z) (hk : k.length ≤ maxLen) (hn : (Lit.int .i64 now).wf = true) (w : World) (h : HeatAt w g b L) :
    Calls Try.prog 15 #[.pointer (some ⟨g, 0, none⟩), .string (bstr k), .int .i64 now] w fun e w' => e = .returned (.int .i64 z) ∧ Below w.heap.size w w' := hz ▸ value_any g b L k now hk hn w h
theorem rvalue_to {g : Nat} {v : Value} {L : List Cn} {k : List UInt8} {now z : Int} (hz : valL L k now = z) (hn : (Lit.int .i64 now).wf = true) (hl : L.length ≤ 1000) (w : World) (h : RfAt w g v L) :
    Calls Try.prog 16 #[.pointer (some ⟨g, 0, none⟩), .string (bstr k), .int .i64 now] w fun e w' => e = .returned (.int .i64 z) ∧ Below w.heap.size w w' := hz ▸ rvalue_any g v L k now hn hl w h
theorem same_to {a b : List (List UInt8)} (hab : a = b) (va vb : Value) (ha : a.length ≤ 1000000) (w : World) (h1 : SsAt w va a) (h2 : SsAt w vb b) :
    Calls Try.prog 18 #[va, vb] w fun e w' => e = .returned (.bool true) ∧ Below w.heap.size w w' := by
  subst hab
  have := same_any a a va vb ha ha w h1 h2
  rwa [decide_eq_true rfl] at this

set_option maxRecDepth 100000 in
set_option maxHeartbeats 4000000 in
theorem heatScripts_walk (w : World) (v0 : Value) (a0 : List D_permafrostlaw12_Op) (h0 : SlAt w.heap.size w (R_permafrostlaw12_Op w.heap.size w) 4 [v0] a0) :
    Calls Try.prog 3 #[v0] w fun e w' => e = .returned (.bool true) ∧ Below w.heap.size w w' := by
  obtain ⟨A, c, rfl⟩ := ops_form h0
  by_cases t0 : 100 < a0.length
  · have i0 : (100 : Int) < a0.length := by omega
    go_enter Try.func3, Try.ntmps3
    go_wp2_with fail
    refine (live_ok w).mono ?_
    rintro e w1 ⟨rfl, hb⟩
    go_wp2
    go_ret
    exact ⟨rfl, hb⟩
  · have i0 : ¬ (100 : Int) < a0.length := by omega
    have H0 := Lib.hid h0
    clear h0
    go_enter Try.func3, Try.ntmps3
    go_wp2_with fail
    refine (new_heat w).mono ?_
    rintro e w1 ⟨g, b, rfl, hh1, hb1, hgw, hbw⟩
    obtain ⟨r, hr⟩ : ∃ r, w1.heap.size = r := ⟨_, rfl⟩
    have S1 : Sc w (w1.alloc (.cells #[.slice none 0 0] 29)) g b r (.slice none 0 0) [] [] := by
      have hk : Below w1.heap.size w1 (w1.alloc (.cells #[.slice none 0 0] 29)) := (Below.refl _ _).alloc (Nat.le_refl _) _
      have hlt := hh1.lt
      have hs := hb1.size
      refine ⟨hh1.below hk, ⟨by rw [← hr]; exact Blk.new _ _ _, World.ownsRow_nil _ _ _ _, by simp⟩, by omega, by omega, by simp [Value.ownBlock], hbw, by omega, hthen hb1 hk⟩
    go_wp2_with fail
    go_loopw [5] (fun i wr => ∃ (k : Nat) (v : Value), k ≤ a0.length ∧ i = .int .i64 k ∧ Sc w wr g b r v (opsL a0 k) (opsL a0 k) ∧ (opsL a0 k).length ≤ k) (fun i _ => a0.length - (intOf i).toNat)
    case atStart => exact ⟨0, _, Nat.zero_le _, rfl, S1, Nat.le_refl _⟩
    case round =>
      obtain ⟨k, v, hk, rfl, hS, hln⟩ := hrel
      by_cases hlt : k < a0.length
      · have q1 : decide ((k : Int) < a0.length) = true := decide_eq_true (by omega)
        have T0 : (0 : Int) ≤ k := by omega
        have T1 : (k : Int) < a0.length := by omega
        obtain ⟨ad, rfl, _, c0, c1, c2, c3, wf2, kl2, _, _⟩ := op_cells H0.out hS.bel k hlt
        have hsc := opsL_succ hlt
        obtain ⟨⟨od, ok, on, onn⟩, ho⟩ : ∃ o, a0[k] = o := ⟨_, rfl⟩
        rw [ho] at c0 c1 c2 c3 wf2 kl2 hsc
        simp only at c0 c1 c2 c3 wf2 kl2 hsc
        have WF2 := Lib.hid wf2
        clear wf2 ho
        obtain ⟨G, hG⟩ : ∃ G, wr.heap.size = G := ⟨_, rfl⟩
        have hbx := Blk.new wr 31 #[.int .i64 od, .string (bstr ok), .int .i64 on, .int .i64 onn]
        have hkx : Below wr.heap.size wr (wr.alloc (.cells #[.int .i64 od, .string (bstr ok), .int .i64 on, .int .i64 onn] 31)) := (Below.refl _ _).alloc (Nat.le_refl _) _
        by_cases hx : 100 < ok.length
        · have q2 : decide ((ok.length : Int) > 100) = true := decide_eq_true (by omega)
          have hb := hthen hS.bel hkx
          go_wp2_with fail
          refine (live_ok _).mono ?_
          rintro e w6 ⟨rfl, hb6⟩
          have hb6' := hthen hb hb6
          go_wp2
          go_ret
          exact ⟨rfl, hb6'⟩
        have q2 : decide ((ok.length : Int) > 100) = false := decide_eq_false (by omega)
        have hkm := short ok (by omega)
        obtain ⟨w2, hw2⟩ : ∃ x, (wr.alloc (.cells #[.int .i64 od, .string (bstr ok), .int .i64 on, .int .i64 onn] 31)) = x := ⟨_, rfl⟩
        have hGb : G ≠ b := by have := hS.hh.lt; omega
        have hGr : G ≠ r := by have := hS.rf.1.lt; omega
        have S2 := hS.below hkx
        rw [hw2, hG] at hbx
        rw [hw2] at S2
        have HW2 := Lib.hid hw2
        clear hkx hS hw2
        by_cases d0 : od = 0
        · subst d0
          go_wp2_with fail
          rw [HW2.out]
          refine (touch_any g b _ ok on hkm WF2.out (by omega) w2 S2.hh).mono ?_
          rintro e w5 ⟨rfl, hh5, k5⟩
          have S5 := S2.p hh5 k5
          have B5 := hbx.keep k5 hbx.lt hGb
          have e1 := B5.cell 1
          have e2 := B5.cell 2
          simp at e1 e2
          go_wp2_with fail
          refine (rtouch_any r _ _ ok on hkm WF2.out (by omega) w5 S5.rf).mono ?_
          rintro e w3 ⟨u, rfl, rf3, hu3, k3⟩
          have S3 := S5.r rf3 hu3 k3
          have B3 := B5.keep k3 B5.lt hGr
          have hlen := touch_len (heat_nodup S2.hh) ok on
          obtain ⟨L, hL⟩ : ∃ y, touchL (opsL a0 k) ok on = y := ⟨_, rfl⟩
          rw [hL] at S3 hlen
          have HSC : Hid (opsL a0 (k + 1) = L) := Lib.hid (by rw [hsc, ← hL]; rfl)
          clear hL S5 S2 hbx HW2 hsc B5 e1 e2
          have hml := hotL_le L on onn
          obtain ⟨V, hV⟩ : ∃ y, valL L ok on = y := ⟨_, rfl⟩
          obtain ⟨X, hX⟩ : ∃ y, hotL L on onn = y := ⟨_, rfl⟩
          rw [hX] at hml
          have HV := Lib.hid hV
          have HX := Lib.hid hX
          have hxl : X.length ≤ 1000000 := by omega
          clear hV hX
          obtain ⟨A3, c3', rfl⟩ := S3.rf.form
          have y0 := S3.rf.1.cell 0
          have x1 := B3.cell 1
          have x2 := B3.cell 2
          have x3 := B3.cell 3
          simp at y0 x1 x2 x3
          go_wp2_with fail
          go_region_held3 (fun w' => w'.cell? ⟨r, 0, none⟩ = some (.slice A3 L.length c3') ∧ w'.cell? ⟨G, 1, none⟩ = some (.string (bstr ok)) ∧ w'.cell? ⟨G, 2, none⟩ = some (.int .i64 on) ∧ w'.cell? ⟨G, 3, none⟩ = some (.int .i64 onn))
          (first | exact ⟨t0, t1, t2, t3⟩ | exact ⟨s0, s1, s2, s3⟩ | exact ⟨r0, r1, r2, r3⟩ | exact ⟨q0, q1, q2, q3⟩ | exact ⟨p0, p1, p2, p3⟩ | exact ⟨z0, z1, z2, z3⟩ | exact ⟨y0, x1, x2, x3⟩)
          (first
          | (go_at_call 18; refine (same_to rfl X8 Y9 hxl w8 (ss_own hx8) hy8).mono ?_; rintro e w9 ⟨rfl, b9⟩; have S9 := S8.below b9; have B9 := B8.below b9 B8.lt; have t0 := S9.rf.1.cell 0; have t1 := B9.cell 1; have t2 := B9.cell 2; have t3 := B9.cell 3; simp at t0 t1 t2 t3)
          | (go_at_call 20; refine (rhot_any r _ L on onn WF2.out (by omega) w7 S7.rf).mono ?_; rintro e w8 ⟨Y9, rfl, hy8, b8⟩; rw [HX.out] at hy8; have hx8 := row_below hx7 b8; have S8 := S7.below b8; have B8 := B7.below b8 B7.lt; have s0 := S8.rf.1.cell 0; have s1 := B8.cell 1; have s2 := B8.cell 2; have s3 := B8.cell 3; simp at s0 s1 s2 s3)
          | (go_at_call 19; refine (hot_any g b L on onn WF2.out (by omega) w6 S6.hh).mono ?_; rintro e w7 ⟨X8, rfl, hx7, b7⟩; rw [HX.out] at hx7; have S7 := S6.below b7; have B7 := B6.below b7 B6.lt; have r0 := S7.rf.1.cell 0; have r1 := B7.cell 1; have r2 := B7.cell 2; have r3 := B7.cell 3; simp at r0 r1 r2 r3)
          | (go_at_call 17; refine (len_any g b L w5 S5.hh).mono ?_; rintro e w6 ⟨rfl, b6⟩; have S6 := S5.below b6; have B6 := B5.below b6 B5.lt; have q0 := S6.rf.1.cell 0; have q1 := B6.cell 1; have q2 := B6.cell 2; have q3 := B6.cell 3; simp at q0 q1 q2 q3)
          | (go_at_call 16; refine (rvalue_to HV.out WF2.out (by omega) w4 S4.rf).mono ?_; rintro e w5 ⟨rfl, b5⟩; have S5 := S4.below b5; have B5 := B4.below b5 B4.lt; have p0 := S5.rf.1.cell 0; have p1 := B5.cell 1; have p2 := B5.cell 2; have p3 := B5.cell 3; simp at p0 p1 p2 p3)
          | (go_at_call 15; refine (value_to HV.out kl2 WF2.out w3.drew (S3.below (Below.refl _ _).drew).hh).mono ?_; rintro e w4 ⟨rfl, b4⟩; have S4 := S3.below b4.fromDrew; have B4 := B3.below b4.fromDrew B3.lt; have z0 := S4.rf.1.cell 0; have z1 := B4.cell 1; have z2 := B4.cell 2; have z3 := B4.cell 3; simp at z0 z1 z2 z3))
          clear y0 x1 x2 x3 z0 z1 z2 z3 p0 p1 p2 p3 r0 r1 r2 r3 s0 s1 s2 s3
          go_wp2
          go_roundw
          case rel => exact ⟨k + 1, _, by omega, by go_num, by rw [HSC.out]; exact S9, by rw [HSC.out]; omega⟩
          case measure => simp [intOf]; omega
        by_cases d1 : od = 1
        · subst d1
          go_wp2_with fail
          rw [HW2.out]
          refine (forget_any g b _ ok hkm w2 S2.hh).mono ?_
          rintro e w5 ⟨rfl, hh5, k5⟩
          have S5 := S2.p hh5 k5
          have B5 := hbx.keep k5 hbx.lt hGb
          have e1 := B5.cell 1
          have e2 := B5.cell 2
          simp at e1 e2
          go_wp2_with fail
          refine (rforget_any r _ _ ok (by omega) w5 S5.rf).mono ?_
          rintro e w3 ⟨u, rfl, rf3, hu3, k3⟩
          have S3 := S5.r rf3 hu3 k3
          have B3 := B5.keep k3 B5.lt hGr
          have hlen := without_le (opsL a0 k) ok
          obtain ⟨L, hL⟩ : ∃ y, without (opsL a0 k) ok = y := ⟨_, rfl⟩
          rw [hL] at S3 hlen
          have HSC : Hid (opsL a0 (k + 1) = L) := Lib.hid (by rw [hsc, ← hL]; rfl)
          clear hL S5 S2 hbx HW2 hsc B5 e1 e2
          have hml := hotL_le L on onn
          obtain ⟨V, hV⟩ : ∃ y, valL L ok on = y := ⟨_, rfl⟩
          obtain ⟨X, hX⟩ : ∃ y, hotL L on onn = y := ⟨_, rfl⟩
          rw [hX] at hml
          have HV := Lib.hid hV
          have HX := Lib.hid hX
          have hxl : X.length ≤ 1000000 := by omega
          clear hV hX
          obtain ⟨A3, c3', rfl⟩ := S3.rf.form
          have y0 := S3.rf.1.cell 0
          have x1 := B3.cell 1
          have x2 := B3.cell 2
          have x3 := B3.cell 3
          simp at y0 x1 x2 x3
          go_wp2_with fail
          go_region_held3 (fun w' => w'.cell? ⟨r, 0, none⟩ = some (.slice A3 L.length c3') ∧ w'.cell? ⟨G, 1, none⟩ = some (.string (bstr ok)) ∧ w'.cell? ⟨G, 2, none⟩ = some (.int .i64 on) ∧ w'.cell? ⟨G, 3, none⟩ = some (.int .i64 onn))
          (first | exact ⟨t0, t1, t2, t3⟩ | exact ⟨s0, s1, s2, s3⟩ | exact ⟨r0, r1, r2, r3⟩ | exact ⟨q0, q1, q2, q3⟩ | exact ⟨p0, p1, p2, p3⟩ | exact ⟨z0, z1, z2, z3⟩ | exact ⟨y0, x1, x2, x3⟩)
          (first
          | (go_at_call 18; refine (same_to rfl X8 Y9 hxl w8 (ss_own hx8) hy8).mono ?_; rintro e w9 ⟨rfl, b9⟩; have S9 := S8.below b9; have B9 := B8.below b9 B8.lt; have t0 := S9.rf.1.cell 0; have t1 := B9.cell 1; have t2 := B9.cell 2; have t3 := B9.cell 3; simp at t0 t1 t2 t3)
          | (go_at_call 20; refine (rhot_any r _ L on onn WF2.out (by omega) w7 S7.rf).mono ?_; rintro e w8 ⟨Y9, rfl, hy8, b8⟩; rw [HX.out] at hy8; have hx8 := row_below hx7 b8; have S8 := S7.below b8; have B8 := B7.below b8 B7.lt; have s0 := S8.rf.1.cell 0; have s1 := B8.cell 1; have s2 := B8.cell 2; have s3 := B8.cell 3; simp at s0 s1 s2 s3)
          | (go_at_call 19; refine (hot_any g b L on onn WF2.out (by omega) w6 S6.hh).mono ?_; rintro e w7 ⟨X8, rfl, hx7, b7⟩; rw [HX.out] at hx7; have S7 := S6.below b7; have B7 := B6.below b7 B6.lt; have r0 := S7.rf.1.cell 0; have r1 := B7.cell 1; have r2 := B7.cell 2; have r3 := B7.cell 3; simp at r0 r1 r2 r3)
          | (go_at_call 17; refine (len_any g b L w5 S5.hh).mono ?_; rintro e w6 ⟨rfl, b6⟩; have S6 := S5.below b6; have B6 := B5.below b6 B5.lt; have q0 := S6.rf.1.cell 0; have q1 := B6.cell 1; have q2 := B6.cell 2; have q3 := B6.cell 3; simp at q0 q1 q2 q3)
          | (go_at_call 16; refine (rvalue_to HV.out WF2.out (by omega) w4 S4.rf).mono ?_; rintro e w5 ⟨rfl, b5⟩; have S5 := S4.below b5; have B5 := B4.below b5 B4.lt; have p0 := S5.rf.1.cell 0; have p1 := B5.cell 1; have p2 := B5.cell 2; have p3 := B5.cell 3; simp at p0 p1 p2 p3)
          | (go_at_call 15; refine (value_to HV.out kl2 WF2.out w3.drew (S3.below (Below.refl _ _).drew).hh).mono ?_; rintro e w4 ⟨rfl, b4⟩; have S4 := S3.below b4.fromDrew; have B4 := B3.below b4.fromDrew B3.lt; have z0 := S4.rf.1.cell 0; have z1 := B4.cell 1; have z2 := B4.cell 2; have z3 := B4.cell 3; simp at z0 z1 z2 z3))
          clear y0 x1 x2 x3 z0 z1 z2 z3 p0 p1 p2 p3 r0 r1 r2 r3 s0 s1 s2 s3
          go_wp2
          go_roundw
          case rel => exact ⟨k + 1, _, by omega, by go_num, by rw [HSC.out]; exact S9, by rw [HSC.out]; omega⟩
          case measure => simp [intOf]; omega
        have q3 : decide (od = 0) = false := decide_eq_false d0
        have q4 : decide (od = 1) = false := decide_eq_false d1
        have q5 : (od == 0) = false := beq_eq_false_iff_ne.2 d0
        have q6 : (od == 1) = false := beq_eq_false_iff_ne.2 d1
        go_wp2_with fail
        rw [HW2.out]
        have S3 := S2
        have B3 := hbx
        obtain ⟨w3, hw3⟩ : ∃ x, w2 = x := ⟨_, rfl⟩
        rw [hw3] at S3 B3 ⊢
        obtain ⟨L, hL⟩ : ∃ y, opsL a0 k = y := ⟨_, rfl⟩
        rw [hL] at S3 hln
        have HSC : Hid (opsL a0 (k + 1) = L) := Lib.hid (by rw [hsc, ← hL]; unfold opL; rw [if_neg d0, if_neg d1])
        clear hL S2 hbx HW2 hsc hw3
        have hml := hotL_le L on onn
        obtain ⟨V, hV⟩ : ∃ y, valL L ok on = y := ⟨_, rfl⟩
        obtain ⟨X, hX⟩ : ∃ y, hotL L on onn = y := ⟨_, rfl⟩
        rw [hX] at hml
        have HV := Lib.hid hV
        have HX := Lib.hid hX
        have hxl : X.length ≤ 1000000 := by omega
        clear hV hX
        obtain ⟨A3, c3', rfl⟩ := S3.rf.form
        have y0 := S3.rf.1.cell 0
        have x1 := B3.cell 1
        have x2 := B3.cell 2
        have x3 := B3.cell 3
        simp at y0 x1 x2 x3
        go_wp2_with fail
        go_region_held3 (fun w' => w'.cell? ⟨r, 0, none⟩ = some (.slice A3 L.length c3') ∧ w'.cell? ⟨G, 1, none⟩ = some (.string (bstr ok)) ∧ w'.cell? ⟨G, 2, none⟩ = some (.int .i64 on) ∧ w'.cell? ⟨G, 3, none⟩ = some (.int .i64 onn))
        (first | exact ⟨t0, t1, t2, t3⟩ | exact ⟨s0, s1, s2, s3⟩ | exact ⟨r0, r1, r2, r3⟩ | exact ⟨q0, q1, q2, q3⟩ | exact ⟨p0, p1, p2, p3⟩ | exact ⟨z0, z1, z2, z3⟩ | exact ⟨y0, x1, x2, x3⟩)
        (first
        | (go_at_call 18; refine (same_to rfl X8 Y9 hxl w8 (ss_own hx8) hy8).mono ?_; rintro e w9 ⟨rfl, b9⟩; have S9 := S8.below b9; have B9 := B8.below b9 B8.lt; have t0 := S9.rf.1.cell 0; have t1 := B9.cell 1; have t2 := B9.cell 2; have t3 := B9.cell 3; simp at t0 t1 t2 t3)
        | (go_at_call 20; refine (rhot_any r _ L on onn WF2.out (by omega) w7 S7.rf).mono ?_; rintro e w8 ⟨Y9, rfl, hy8, b8⟩; rw [HX.out] at hy8; have hx8 := row_below hx7 b8; have S8 := S7.below b8; have B8 := B7.below b8 B7.lt; have s0 := S8.rf.1.cell 0; have s1 := B8.cell 1; have s2 := B8.cell 2; have s3 := B8.cell 3; simp at s0 s1 s2 s3)
        | (go_at_call 19; refine (hot_any g b L on onn WF2.out (by omega) w6 S6.hh).mono ?_; rintro e w7 ⟨X8, rfl, hx7, b7⟩; rw [HX.out] at hx7; have S7 := S6.below b7; have B7 := B6.below b7 B6.lt; have r0 := S7.rf.1.cell 0; have r1 := B7.cell 1; have r2 := B7.cell 2; have r3 := B7.cell 3; simp at r0 r1 r2 r3)
        | (go_at_call 17; refine (len_any g b L w5 S5.hh).mono ?_; rintro e w6 ⟨rfl, b6⟩; have S6 := S5.below b6; have B6 := B5.below b6 B5.lt; have q0 := S6.rf.1.cell 0; have q1 := B6.cell 1; have q2 := B6.cell 2; have q3 := B6.cell 3; simp at q0 q1 q2 q3)
        | (go_at_call 16; refine (rvalue_to HV.out WF2.out (by omega) w4 S4.rf).mono ?_; rintro e w5 ⟨rfl, b5⟩; have S5 := S4.below b5; have B5 := B4.below b5 B4.lt; have p0 := S5.rf.1.cell 0; have p1 := B5.cell 1; have p2 := B5.cell 2; have p3 := B5.cell 3; simp at p0 p1 p2 p3)
        | (go_at_call 15; refine (value_to HV.out kl2 WF2.out w3.drew (S3.below (Below.refl _ _).drew).hh).mono ?_; rintro e w4 ⟨rfl, b4⟩; have S4 := S3.below b4.fromDrew; have B4 := B3.below b4.fromDrew B3.lt; have z0 := S4.rf.1.cell 0; have z1 := B4.cell 1; have z2 := B4.cell 2; have z3 := B4.cell 3; simp at z0 z1 z2 z3))
        clear y0 x1 x2 x3 z0 z1 z2 z3 p0 p1 p2 p3 r0 r1 r2 r3 s0 s1 s2 s3
        go_wp2
        go_roundw
        case rel => exact ⟨k + 1, _, by omega, by go_num, by rw [HSC.out]; exact S9, by rw [HSC.out]; omega⟩
        case measure => simp [intOf]; omega
      · obtain rfl : k = a0.length := by omega
        have q1 : decide ((a0.length : Int) < a0.length) = false := by simp
        have hb := hS.bel
        clear hS hln S1
        go_wp2_with fail
        refine (live_ok wr).mono ?_
        rintro e w6 ⟨rfl, hb6⟩
        have hb6' := hthen hb hb6
        go_wp2
        go_ret
        exact ⟨rfl, hb6'⟩
end Go.Proofs.Ytefobchpcdniiaa
