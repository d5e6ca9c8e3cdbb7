/- The reference's devices: contracts of Flush, Lose, Spoil. -/
import Derived.Test.YtmlakbdigbpmaaaRv3
namespace Go.Proofs.Ytmlakbdigbpmaaa
open Go.RowKit
set_option linter.unusedSimpArgs false
set_option linter.unnecessarySimpa false
set_option linter.unusedVariables false

def boolV (l : List Bool) : List Value := l.map Value.bool
theorem boolC_zero (n : Nat) : madeCells #[Value.bool false] n = (boolV (List.replicate n false)).toArray := by
  apply Array.ext'
  have h := toList_madeCells_one (.bool false) n
  rw [h]
  simp [boolV]
theorem run_make_bools (n : Nat) (hn : n ≤ 100000) (w : World) :
    (Instr.makeSlice 30 (.int .i64 n) (.int .i64 n)).run Try.prog w = .ok (.slice (some ⟨w.heap.size, 0, none⟩) n n) (w.alloc (.cells (boolV (List.replicate n false)).toArray 4)) := by
  obtain ⟨i0, h1, h2, h3, h4⟩ := info_parts (show (Try.prog.info? 4).map (fun i => (i.zero, i.size, i.bytes)) = some (some (.bool false), 1, 1) from by kernel_rfl)
  have hr := run_make (P := Try.prog) w 30 4 i0 _ Try.underlying30 h1 h2 .i64 .i64 n n (by omega) (Int.le_refl _) (by rw [h4]; omega) (by omega)
  rw [hr]
  simp only [Int.toNat_natCast, h3, Nat.mul_one]
  rw [show (Value.bool false).cells = #[Value.bool false] from rfl, boolC_zero]
theorem boolV_set (a b : List Bool) (x y : Bool) : (boolV (a ++ x :: b)).set a.length (.bool y) = boolV (a ++ y :: b) := by
  simp [boolV]

set_option maxHeartbeats 4000000 in
theorem rflush_any (g sb gb b0 b1 : Nat) (v : Value) (d : Dv) (hok : d.ok) (hn : d.ws.length ≤ 100000) (w : World) (h : RvAt w g sb gb b0 b1 v d) :
    Calls Try.prog 27 #[.pointer (some ⟨g, 0, none⟩)] w fun e w' => e = .returned (.int .i64 0) ∧ RvAt w' g sb gb b0 b1 (.slice none 0 0) d.flush ∧ Keep w.heap.size (fun k => k = g ∨ k = b0 ∨ k = b1) w w' := by
  obtain ⟨A', c', rfl, _, _⟩ := h.form
  have m1 : ∀ w, (Instr.makeSlice 30 (.int .i64 (d.ws.length : Nat)) (.int .i64 (d.ws.length : Nat))).run Try.prog w = .ok (.slice (some ⟨w.heap.size, 0, none⟩) d.ws.length d.ws.length) (w.alloc (.cells (boolV (List.replicate d.ws.length false)).toArray 4)) := run_make_bools _ hn
  have Y2 := h.cell2.1
  go_enter Try.func27, Try.ntmps27
  go_wp2_with fail
  obtain ⟨G, hG⟩ : ∃ g, w.heap.size = g := ⟨_, rfl⟩
  obtain ⟨w0, hw0⟩ : ∃ x, w.alloc (.cells (boolV (List.replicate d.ws.length false)).toArray 4) = x := ⟨_, rfl⟩
  have bx : Below w.heap.size w w0 := by rw [← hw0]; exact (Below.refl _ _).alloc (Nat.le_refl _) _
  have hx : w0.ownsRow 0 4 1 (.slice (some ⟨G, 0, none⟩) d.ws.length d.ws.length) d.ws.length (boolV (List.replicate d.ws.length false)) := by
    rw [← hw0, ← hG]
    have := World.ownsRow_lit (w := w) (base := 0) (e := 4) (size := 1) (boolV (List.replicate d.ws.length false)).toArray d.ws.length (Nat.zero_le _) (by unfold maxLen; omega) (by simp [boolV])
    simpa using this
  rw [hw0]
  try rw [hG]
  clear hw0 m1
  have hbG : b0 < G ∧ b1 < G := ⟨by rw [← hG]; exact h.lt (.inr (.inr (.inr (.inl rfl)))), by rw [← hG]; exact h.lt (.inr (.inr (.inr (.inr (.inl rfl)))))⟩
  go_loopw [4] (fun i wr => ∃ j : Nat, j ≤ d.ws.length ∧ i = .int .i64 j ∧ wr.ownsRow 0 4 1 (.slice (some ⟨G, 0, none⟩) d.ws.length d.ws.length) d.ws.length (boolV (List.replicate j true ++ List.replicate (d.ws.length - j) false)) ∧ Below w.heap.size w wr) (fun i _ => d.ws.length - (intOf i).toNat)
  case atStart => exact ⟨0, by omega, rfl, hx, bx⟩
  case round =>
    obtain ⟨j, hj, rfl, ho, hb⟩ := hrel
    by_cases hlt : j < d.ws.length
    · have q1 : decide ((j : Int) < (d.ws.length : Int)) = true := decide_eq_true (by omega)
      have hsp : List.replicate (d.ws.length - j) false = false :: List.replicate (d.ws.length - (j + 1)) false := by
        rw [show d.ws.length - j = (d.ws.length - (j + 1)) + 1 by omega, List.replicate_succ]
      rw [hsp] at ho
      have y0 := ho.cellAt j (by omega)
      have f0 := ho.frozenAt j
      have e0 : (boolV (List.replicate j true ++ false :: List.replicate (d.ws.length - (j + 1)) false))[j]? = some (.bool false) := by simp [boolV]
      rw [e0] at y0
      have hst := (ho.stored j (.bool true)).1
      have es := boolV_set (List.replicate j true) (List.replicate (d.ws.length - (j + 1)) false) false true
      rw [List.length_replicate] at es
      rw [es] at hst
      have e2 : List.replicate j true ++ true :: List.replicate (d.ws.length - (j + 1)) false = List.replicate (j + 1) true ++ List.replicate (d.ws.length - (j + 1)) false := by
        rw [List.replicate_succ', List.append_assoc]; rfl
      rw [e2] at hst
      have HST := Lib.hid hst
      clear hst es e0 e2 hsp ho
      go_wp2
      go_round
      case rel => exact ⟨j + 1, by omega, by go_num, HST.out, below_at hb (by omega) _ _⟩
      case measure => simp [intOf]; omega
    · obtain rfl : j = d.ws.length := by omega
      rw [Nat.sub_self, List.replicate_zero, List.append_nil] at ho
      have hbo : BoolsAt (fun k => k ≠ b0 ∧ k ≠ b1) wr (some ⟨G, 0, none⟩) (List.replicate d.ws.length true) := by
        intro i hi
        have hi' : i < d.ws.length := by simpa using hi
        refine ⟨_, rfl, row_lt ho, ⟨by simp; omega, by simp; omega⟩, ?_⟩
        have := ho.cellAt i (by omega)
        rw [show (⟨G, 0, none⟩ : Addr).add i = ⟨G, i, none⟩ from by unfold Addr.add; split <;> simp_all, this]
        simp [boolV, hi']
      have hc := rcrash_any g sb gb b0 b1 (.slice A' d.ws.length c') d (some ⟨G, 0, none⟩) d.ws.length (List.replicate d.ws.length true) hok hn wr (h.below hb) hbo
      rw [List.length_replicate, flush_crash] at hc
      have HC := Lib.hid hc
      clear hc
      go_wp2_with fail
      refine HC.out.mono ?_
      rintro e w2 ⟨rfl, hd2, k2⟩
      go_wp2
      go_ret
      exact ⟨rfl, hd2, (Keep.of_below hb).trans (k2.mono hb.size (fun _ _ h => h))⟩

set_option maxRecDepth 100000 in
set_option maxHeartbeats 4000000 in
theorem rlose0 (g sb gb b0 b1 : Nat) (v : Value) (d : Dv) (hok : d.ok) (hn : d.ws.length ≤ 100000) (w : World) (h : RvAt w g sb gb b0 b1 v d) :
    Calls Try.prog 30 #[.pointer (some ⟨g, 0, none⟩), .int .i64 0] w fun e w' => e = .returned (.int .i64 0) ∧ (∃ b' v', RvAt w' g sb gb b' b1 v' (d.lose 0) ∧ w.heap.size ≤ b' ∧ (∀ k, zblock v' = some k → w.heap.size ≤ k)) ∧ Keep w.heap.size (fun k => k = g ∨ k = sb ∨ k = gb) w w' := by
  obtain ⟨A', c', rfl, _, _⟩ := h.form
  have m1 : ∀ w, (Instr.makeSlice 56 (.int .i64 (d.s0.length : Nat)) (.int .i64 (d.s0.length : Nat))).run Try.prog w = .ok (.slice (some ⟨w.heap.size, 0, none⟩) d.s0.length d.s0.length) (w.alloc (.cells (secV (List.replicate d.s0.length [])).toArray 9)) := run_make_strs _ (by have := hok.m0; omega)
  obtain ⟨⟨n1, n2, n3, n4, z1⟩, ⟨e1, e2, e3, z2⟩, ⟨l1, l2, z3⟩, z4, z5⟩ := h.apart
  obtain ⟨C0, C1, hg, hs, hl, r0, r1⟩ := h.hx
  have y0 := hg.cell 0
  have y1 := hg.cell 1
  have x0 := hl.cell 0
  have f0 := hl.frozen 0
  simp at y0 y1 x0
  go_enter Try.func30, Try.ntmps30
  go_wp2_with fail
  obtain ⟨w0, hw0⟩ : ∃ x, w.setCell ⟨gb, 0, none⟩ (.bool true) = x := ⟨_, rfl⟩
  rw [hw0]
  have k0 : Keep w.heap.size (fun k => k = g ∨ k = sb ∨ k = gb) w w0 := by rw [← hw0]; exact (Keep.refl _ _ _).setCell (p := ⟨gb, 0, none⟩) (.inr (.inr (.inr rfl))) _
  have hg0 : Blk w0 g 45 #[.slice (some ⟨sb, 0, none⟩) 2 2, .slice (some ⟨gb, 0, none⟩) 2 2, .slice A' d.ws.length c'] := by rw [← hw0]; exact hg.far (p := ⟨gb, 0, none⟩) n2 _
  have hs0 : Blk w0 sb 56 #[.slice (some ⟨b0, 0, none⟩) d.s0.length C0, .slice (some ⟨b1, 0, none⟩) d.s1.length C1] := by rw [← hw0]; exact hs.far (p := ⟨gb, 0, none⟩) e1 _
  have hl0 : Blk w0 gb 4 #[.bool true, .bool d.l1] := by
    rw [← hw0]
    have := hl.set_ 0 (.bool true)
    simpa using this
  have q1 : w0.ownsRow 0 9 1 (.slice (some ⟨b1, 0, none⟩) d.s1.length C1) d.s1.length (secV d.s1) := by rw [← hw0]; exact row_set r1 (by intro e; cases e; exact l2 rfl) _
  have hw00 : Owns w0 66 3 (.slice A' d.ws.length c') d.ws.length (wrsV d.ws) := by rw [← hw0]; exact h.hw.set z3 _
  have hsz0 : w0.heap.size = w.heap.size := by rw [← hw0]; simp [World.setCell]
  have HSZ := Lib.hid hsz0
  clear hw0 x0 f0 y0 y1 r0 r1 hsz0
  have y0 := hg0.cell 0
  have t0 := hs0.cell 0
  have ff := hs0.frozen 0
  simp at y0 t0
  have ya := fun o => (hg0.alloc o).cell 0
  have ta := fun o => (hs0.alloc o).cell 0
  have fa := fun o => (hs0.alloc o).frozen 0
  simp at ya ta fa
  have nsb : sb ≠ w0.heap.size := by have := hs0.lt; omega
  go_upto_region 4 with fail
  go_cut [32] (fun u wx => ∃ b' wA, wA = wx ∧ w.heap.size ≤ b' ∧ RvAt wx g sb gb b' b1 (.slice A' d.ws.length c') { d with s0 := List.replicate d.s0.length [], l0 := true } ∧ Keep w.heap.size (fun k => k = g ∨ k = sb ∨ k = gb) w wx)
  case first =>
    go_region_law (fail)
    all_goals
      have hsz0 := HSZ.out
      have hq : (w0.alloc (.cells (secV (List.replicate d.s0.length [])).toArray 9)).ownsRow 0 9 1 (.slice (some ⟨w0.heap.size, 0, none⟩) d.s0.length d.s0.length) d.s0.length (secV (List.replicate d.s0.length [])) := row_zero w0 _ (by have := hok.m0; omega) rfl
      have hfin : RvAt ((w0.alloc (.cells (secV (List.replicate d.s0.length [])).toArray 9)).setCell ⟨sb, 0, none⟩ (.slice (some ⟨w0.heap.size, 0, none⟩) d.s0.length d.s0.length)).drew g sb gb w0.heap.size b1 (.slice A' d.ws.length c') { d with s0 := List.replicate d.s0.length [], l0 := true } := by
        refine RvAt.drew ⟨⟨d.s0.length, C1, (hg0.alloc _).far (p := ⟨sb, 0, none⟩) n1 _, ?_, (hl0.alloc _).far (p := ⟨sb, 0, none⟩) (fun e => e1 e.symm) _, ?_, ?_⟩, ?_, ?_⟩
        · have := (hs0.alloc (.cells (secV (List.replicate d.s0.length [])).toArray 9)).set_ 0 (.slice (some ⟨w0.heap.size, 0, none⟩) d.s0.length d.s0.length)
          simpa using this
        · exact row_set (by simpa using hq) (by intro e; cases e; exact nsb rfl) _
        · exact row_set (q1.alloc _) (by intro e; cases e; exact e3 rfl) _
        · exact (hw00.alloc _).set z2 _
        · show w0.heap.size ≠ b1; have := row_lt q1; omega
      have hk9 : Keep w.heap.size (fun k => k = g ∨ k = sb ∨ k = gb) w ((w0.alloc (.cells (secV (List.replicate d.s0.length [])).toArray 9)).setCell ⟨sb, 0, none⟩ (.slice (some ⟨w0.heap.size, 0, none⟩) d.s0.length d.s0.length)).drew := ((k0.alloc (by omega) _).setCell (p := ⟨sb, 0, none⟩) (.inr (.inr (.inl rfl))) _).drew
      have HF := Lib.hid hfin
      have HK := Lib.hid hk9
      have HB := Lib.hid (Nat.le_of_eq hsz0.symm)
      clear hfin hk9 hq hsz0
      go_wp2_with fail
      go_meet
      exact ⟨w0.heap.size, _, rfl, HB.out, HF.out, HK.out⟩
  case rest =>
    obtain ⟨b', wA, rfl, hb', hd, kw⟩ := hcut
    clear ya ta fa y0 t0 ff hg0 hs0 hl0 q1 hw00 k0
    go_wp2_with fail
    go_loopw [5, 6] (fun u i wr => ∃ j : Nat, j ≤ d.ws.length ∧ i = .int .i64 j ∧ Owns wr 66 3 u ((d.ws.take j).filter (fun x => !(x.loc.dev == 0))).length (wrsV ((d.ws.take j).filter (fun x => !(x.loc.dev == 0)))) ∧ (∀ k, zblock u = some k → wA.heap.size ≤ k) ∧ Below wA.heap.size wA wr) (fun _ i _ => d.ws.length - (intOf i).toNat)
    case atStart => exact ⟨0, by omega, rfl, Owns.nil _ _ _, (fun k e => by cases e), Below.refl _ _⟩
    case round =>
      obtain ⟨j, hj, rfl, hu, hz, hb⟩ := hrel
      have h2 := hd.below hb
      have Y2 := h2.cell2.1
      have hsz := hb.size
      by_cases hlt : j < d.ws.length
      · have ho := h2.hw.row (by simpa using (by omega : 0 < d.ws.length))
        obtain ⟨gr, rfl⟩ : ∃ gr, A' = some ⟨gr, 0, none⟩ := by
          rcases ho.2 with ⟨_, h0⟩ | ⟨gr, cap, cur, e, _⟩
          · have h0' : d.ws.length = 0 := h0
            omega
          · simp at e; exact ⟨gr, e.1⟩
        obtain ⟨g1, g2, g3⟩ := wrsV_get d.ws j hlt
        have w0' := ho.cellAt (j * 3) (by show j * 3 < d.ws.length * 3; omega)
        have w1' := ho.cellAt (j * 3 + 1) (by show j * 3 + 1 < d.ws.length * 3; omega)
        have w2' := ho.cellAt (j * 3 + 2) (by show j * 3 + 2 < d.ws.length * 3; omega)
        rw [g1] at w0'
        rw [g2] at w1'
        rw [g3] at w2'
        have hle : ((d.ws.take j).filter (fun x => !(x.loc.dev == 0))).length ≤ 100000 := Nat.le_trans (List.length_filter_le _ _) (by rw [List.length_take]; omega)
        have F1 := Lib.hid (bounds_100k hle 32 (by decide))
        have q1 : decide ((j : Int) < (d.ws.length : Int)) = true := decide_eq_true (by omega)
        clear g1 g2 g3 ho hle h2
        by_cases m1 : d.ws[j].loc.dev = 0
        · have hfil : (d.ws.take (j + 1)).filter (fun x => !(x.loc.dev == 0)) = (d.ws.take j).filter (fun x => !(x.loc.dev == 0)) := by
            rw [List.take_succ_eq_append_getElem hlt, List.filter_append]; simp [m1]
          have HFIL := Lib.hid hfil
          clear hfil
          go_wp2_with fail
          go_round
          case rel => exact ⟨j + 1, by omega, by go_num, by rw [HFIL.out]; exact hu, hz, hb⟩
          case measure => simp [intOf]; omega
        · have hfil : (d.ws.take (j + 1)).filter (fun x => !(x.loc.dev == 0)) = (d.ws.take j).filter (fun x => !(x.loc.dev == 0)) ++ [d.ws[j]] := by
            rw [List.take_succ_eq_append_getElem hlt, List.filter_append]; simp [m1]
          have HFIL := Lib.hid hfil
          clear hfil
          obtain ⟨i0, hi0, hz0, hz1, hz2⟩ := info_parts rwr_info
          go_wp2_with (at_builtin; refine wpList_append_z (P := Try.prog) _ rfl _ _ 43 rfl 66 i0 _ 3 32 Try.underlying43 hi0 hz0 hz1 hz2 rfl (by decide) _ _ _ rfl (hu.alloc _) ⟨wr.heap.size, 0, none⟩ 1 1 (wrV d.ws[j]) rfl rfl (World.news_of_block (Blk.new wr _ _)) (fun u hu => by simp [wrV] at hu; rcases hu with rfl | rfl | rfl <;> rfl) (by decide) F1.out.1 F1.out.2 _ rfl ?_; intro gn cap w9 hown9 hgrow9 hat9 hlt9 hcap9)
          have hb9 : Below wA.heap.size wA w9 := (hb.alloc hsz _).grown hgrow9 (by simp; omega) (fun k e => hz k e)
          have hz9 : ∀ k, zblock (.slice (some ⟨gn, 0, none⟩) (((d.ws.take j).filter (fun x => !(x.loc.dev == 0))).length + 1) cap) = some k → wA.heap.size ≤ k := by
            intro k e
            rw [zblock_some hcap9] at e
            cases e
            rcases hat9 with e | e
            · exact hz _ e
            · simp at e; simp; omega
          have HZ := Lib.hid hz9
          have ho9 : Owns w9 66 3 (.slice (some ⟨gn, 0, none⟩) (((d.ws.take j).filter (fun x => !(x.loc.dev == 0))).length + 1) cap) ((d.ws.take (j + 1)).filter (fun x => !(x.loc.dev == 0))).length (wrsV ((d.ws.take (j + 1)).filter (fun x => !(x.loc.dev == 0)))) := by
            rw [HFIL.out, List.length_append, wrsV_snoc]; exact hown9
          have HO := Lib.hid ho9
          clear hz9 ho9 hown9 hgrow9 hat9
          go_wp2
          go_round
          case rel => exact ⟨j + 1, by omega, by go_num, HO.out, HZ.out, hb9⟩
          case measure => simp [intOf]; omega
      · obtain rfl : j = d.ws.length := by omega
        rw [List.take_length] at hu
        have F2 := h2.cell2.2
        obtain ⟨U, C, rfl, _, _⟩ := hu.form
        have HN := Lib.hid (h2.setWs _ _ hu)
        have q1 : decide ((d.ws.length : Int) < (d.ws.length : Int)) = false := decide_eq_false (by omega)
        clear hu h2
        go_wp2
        go_ret
        exact ⟨rfl, ⟨b', _, by simpa [Dv.lose] using HN.out, hb', fun k e => Nat.le_trans kw.size (hz k e)⟩, (kw.trans ((Keep.of_below hb).mono (B' := w.heap.size) (S' := fun k => k = g ∨ k = sb ∨ k = gb) kw.size (fun _ _ h => h))).setCell (p := ⟨g, 2, none⟩) (.inr (.inl rfl)) _⟩

set_option maxRecDepth 100000 in
set_option maxHeartbeats 4000000 in
theorem rlose1 (g sb gb b0 b1 : Nat) (v : Value) (d : Dv) (hok : d.ok) (hn : d.ws.length ≤ 100000) (w : World) (h : RvAt w g sb gb b0 b1 v d) :
    Calls Try.prog 30 #[.pointer (some ⟨g, 0, none⟩), .int .i64 1] w fun e w' => e = .returned (.int .i64 0) ∧ (∃ b' v', RvAt w' g sb gb b0 b' v' (d.lose 1) ∧ w.heap.size ≤ b' ∧ (∀ k, zblock v' = some k → w.heap.size ≤ k)) ∧ Keep w.heap.size (fun k => k = g ∨ k = sb ∨ k = gb) w w' := by
  obtain ⟨A', c', rfl, _, _⟩ := h.form
  have m1 : ∀ w, (Instr.makeSlice 56 (.int .i64 (d.s1.length : Nat)) (.int .i64 (d.s1.length : Nat))).run Try.prog w = .ok (.slice (some ⟨w.heap.size, 0, none⟩) d.s1.length d.s1.length) (w.alloc (.cells (secV (List.replicate d.s1.length [])).toArray 9)) := run_make_strs _ (by have := hok.m1; omega)
  obtain ⟨⟨n1, n2, n3, n4, z1⟩, ⟨e1, e2, e3, z2⟩, ⟨l1, l2, z3⟩, z4, z5⟩ := h.apart
  obtain ⟨C0, C1, hg, hs, hl, r0, r1⟩ := h.hx
  have y0 := hg.cell 0
  have y1 := hg.cell 1
  have x1 := hl.cell 1
  have f1 := hl.frozen 1
  simp at y0 y1 x1
  go_enter Try.func30, Try.ntmps30
  go_wp2_with fail
  obtain ⟨w0, hw0⟩ : ∃ x, w.setCell ⟨gb, 1, none⟩ (.bool true) = x := ⟨_, rfl⟩
  rw [hw0]
  have k0 : Keep w.heap.size (fun k => k = g ∨ k = sb ∨ k = gb) w w0 := by rw [← hw0]; exact (Keep.refl _ _ _).setCell (p := ⟨gb, 1, none⟩) (.inr (.inr (.inr rfl))) _
  have hg0 : Blk w0 g 45 #[.slice (some ⟨sb, 0, none⟩) 2 2, .slice (some ⟨gb, 0, none⟩) 2 2, .slice A' d.ws.length c'] := by rw [← hw0]; exact hg.far (p := ⟨gb, 1, none⟩) n2 _
  have hs0 : Blk w0 sb 56 #[.slice (some ⟨b0, 0, none⟩) d.s0.length C0, .slice (some ⟨b1, 0, none⟩) d.s1.length C1] := by rw [← hw0]; exact hs.far (p := ⟨gb, 1, none⟩) e1 _
  have hl0 : Blk w0 gb 4 #[.bool d.l0, .bool true] := by
    rw [← hw0]
    have := hl.set_ 1 (.bool true)
    simpa using this
  have q0 : w0.ownsRow 0 9 1 (.slice (some ⟨b0, 0, none⟩) d.s0.length C0) d.s0.length (secV d.s0) := by rw [← hw0]; exact row_set r0 (by intro e; cases e; exact l1 rfl) _
  have hw00 : Owns w0 66 3 (.slice A' d.ws.length c') d.ws.length (wrsV d.ws) := by rw [← hw0]; exact h.hw.set z3 _
  have hsz0 : w0.heap.size = w.heap.size := by rw [← hw0]; simp [World.setCell]
  have HSZ := Lib.hid hsz0
  clear hw0 x1 f1 y0 y1 r0 r1 hsz0
  have y0 := hg0.cell 0
  have t1 := hs0.cell 1
  have ff := hs0.frozen 1
  simp at y0 t1
  have ya := fun o => (hg0.alloc o).cell 0
  have ta := fun o => (hs0.alloc o).cell 1
  have fa := fun o => (hs0.alloc o).frozen 1
  simp at ya ta fa
  have nsb : sb ≠ w0.heap.size := by have := hs0.lt; omega
  go_upto_region 4 with fail
  go_cut [32] (fun u wx => ∃ b' wA, wA = wx ∧ w.heap.size ≤ b' ∧ RvAt wx g sb gb b0 b' (.slice A' d.ws.length c') { d with s1 := List.replicate d.s1.length [], l1 := true } ∧ Keep w.heap.size (fun k => k = g ∨ k = sb ∨ k = gb) w wx)
  case first =>
    go_region_law (fail)
    all_goals
      have hsz0 := HSZ.out
      have hq : (w0.alloc (.cells (secV (List.replicate d.s1.length [])).toArray 9)).ownsRow 0 9 1 (.slice (some ⟨w0.heap.size, 0, none⟩) d.s1.length d.s1.length) d.s1.length (secV (List.replicate d.s1.length [])) := row_zero w0 _ (by have := hok.m1; omega) rfl
      have hfin : RvAt ((w0.alloc (.cells (secV (List.replicate d.s1.length [])).toArray 9)).setCell ⟨sb, 1, none⟩ (.slice (some ⟨w0.heap.size, 0, none⟩) d.s1.length d.s1.length)).drew g sb gb b0 w0.heap.size (.slice A' d.ws.length c') { d with s1 := List.replicate d.s1.length [], l1 := true } := by
        refine RvAt.drew ⟨⟨C0, d.s1.length, (hg0.alloc _).far (p := ⟨sb, 1, none⟩) n1 _, ?_, (hl0.alloc _).far (p := ⟨sb, 1, none⟩) (fun e => e1 e.symm) _, ?_, ?_⟩, ?_, ?_⟩
        · have := (hs0.alloc (.cells (secV (List.replicate d.s1.length [])).toArray 9)).set_ 1 (.slice (some ⟨w0.heap.size, 0, none⟩) d.s1.length d.s1.length)
          simpa using this
        · exact row_set (q0.alloc _) (by intro e; cases e; exact e2 rfl) _
        · exact row_set (by simpa using hq) (by intro e; cases e; exact nsb rfl) _
        · exact (hw00.alloc _).set z2 _
        · show b0 ≠ w0.heap.size; have := row_lt q0; omega
      have hk9 : Keep w.heap.size (fun k => k = g ∨ k = sb ∨ k = gb) w ((w0.alloc (.cells (secV (List.replicate d.s1.length [])).toArray 9)).setCell ⟨sb, 1, none⟩ (.slice (some ⟨w0.heap.size, 0, none⟩) d.s1.length d.s1.length)).drew := ((k0.alloc (by omega) _).setCell (p := ⟨sb, 1, none⟩) (.inr (.inr (.inl rfl))) _).drew
      have HF := Lib.hid hfin
      have HK := Lib.hid hk9
      have HB := Lib.hid (Nat.le_of_eq hsz0.symm)
      clear hfin hk9 hq hsz0
      go_wp2_with fail
      go_meet
      exact ⟨w0.heap.size, _, rfl, HB.out, HF.out, HK.out⟩
  case rest =>
    obtain ⟨b', wA, rfl, hb', hd, kw⟩ := hcut
    clear ya ta fa y0 t1 ff hg0 hs0 hl0 q0 hw00 k0
    go_wp2_with fail
    go_loopw [5, 6] (fun u i wr => ∃ j : Nat, j ≤ d.ws.length ∧ i = .int .i64 j ∧ Owns wr 66 3 u ((d.ws.take j).filter (fun x => !(x.loc.dev == 1))).length (wrsV ((d.ws.take j).filter (fun x => !(x.loc.dev == 1)))) ∧ (∀ k, zblock u = some k → wA.heap.size ≤ k) ∧ Below wA.heap.size wA wr) (fun _ i _ => d.ws.length - (intOf i).toNat)
    case atStart => exact ⟨0, by omega, rfl, Owns.nil _ _ _, (fun k e => by cases e), Below.refl _ _⟩
    case round =>
      obtain ⟨j, hj, rfl, hu, hz, hb⟩ := hrel
      have h2 := hd.below hb
      have Y2 := h2.cell2.1
      have hsz := hb.size
      by_cases hlt : j < d.ws.length
      · have ho := h2.hw.row (by simpa using (by omega : 0 < d.ws.length))
        obtain ⟨gr, rfl⟩ : ∃ gr, A' = some ⟨gr, 0, none⟩ := by
          rcases ho.2 with ⟨_, h0⟩ | ⟨gr, cap, cur, e, _⟩
          · have h0' : d.ws.length = 0 := h0
            omega
          · simp at e; exact ⟨gr, e.1⟩
        obtain ⟨g1, g2, g3⟩ := wrsV_get d.ws j hlt
        have w0' := ho.cellAt (j * 3) (by show j * 3 < d.ws.length * 3; omega)
        have w1' := ho.cellAt (j * 3 + 1) (by show j * 3 + 1 < d.ws.length * 3; omega)
        have w2' := ho.cellAt (j * 3 + 2) (by show j * 3 + 2 < d.ws.length * 3; omega)
        rw [g1] at w0'
        rw [g2] at w1'
        rw [g3] at w2'
        have hle : ((d.ws.take j).filter (fun x => !(x.loc.dev == 1))).length ≤ 100000 := Nat.le_trans (List.length_filter_le _ _) (by rw [List.length_take]; omega)
        have F1 := Lib.hid (bounds_100k hle 32 (by decide))
        have q1 : decide ((j : Int) < (d.ws.length : Int)) = true := decide_eq_true (by omega)
        clear g1 g2 g3 ho hle h2
        by_cases m1 : d.ws[j].loc.dev = 1
        · have hfil : (d.ws.take (j + 1)).filter (fun x => !(x.loc.dev == 1)) = (d.ws.take j).filter (fun x => !(x.loc.dev == 1)) := by
            rw [List.take_succ_eq_append_getElem hlt, List.filter_append]; simp [m1]
          have HFIL := Lib.hid hfil
          clear hfil
          go_wp2_with fail
          go_round
          case rel => exact ⟨j + 1, by omega, by go_num, by rw [HFIL.out]; exact hu, hz, hb⟩
          case measure => simp [intOf]; omega
        · have hfil : (d.ws.take (j + 1)).filter (fun x => !(x.loc.dev == 1)) = (d.ws.take j).filter (fun x => !(x.loc.dev == 1)) ++ [d.ws[j]] := by
            rw [List.take_succ_eq_append_getElem hlt, List.filter_append]; simp [m1]
          have HFIL := Lib.hid hfil
          clear hfil
          obtain ⟨i0, hi0, hz0, hz1, hz2⟩ := info_parts rwr_info
          go_wp2_with (at_builtin; refine wpList_append_z (P := Try.prog) _ rfl _ _ 43 rfl 66 i0 _ 3 32 Try.underlying43 hi0 hz0 hz1 hz2 rfl (by decide) _ _ _ rfl (hu.alloc _) ⟨wr.heap.size, 0, none⟩ 1 1 (wrV d.ws[j]) rfl rfl (World.news_of_block (Blk.new wr _ _)) (fun u hu => by simp [wrV] at hu; rcases hu with rfl | rfl | rfl <;> rfl) (by decide) F1.out.1 F1.out.2 _ rfl ?_; intro gn cap w9 hown9 hgrow9 hat9 hlt9 hcap9)
          have hb9 : Below wA.heap.size wA w9 := (hb.alloc hsz _).grown hgrow9 (by simp; omega) (fun k e => hz k e)
          have hz9 : ∀ k, zblock (.slice (some ⟨gn, 0, none⟩) (((d.ws.take j).filter (fun x => !(x.loc.dev == 1))).length + 1) cap) = some k → wA.heap.size ≤ k := by
            intro k e
            rw [zblock_some hcap9] at e
            cases e
            rcases hat9 with e | e
            · exact hz _ e
            · simp at e; simp; omega
          have HZ := Lib.hid hz9
          have ho9 : Owns w9 66 3 (.slice (some ⟨gn, 0, none⟩) (((d.ws.take j).filter (fun x => !(x.loc.dev == 1))).length + 1) cap) ((d.ws.take (j + 1)).filter (fun x => !(x.loc.dev == 1))).length (wrsV ((d.ws.take (j + 1)).filter (fun x => !(x.loc.dev == 1)))) := by
            rw [HFIL.out, List.length_append, wrsV_snoc]; exact hown9
          have HO := Lib.hid ho9
          clear hz9 ho9 hown9 hgrow9 hat9
          go_wp2
          go_round
          case rel => exact ⟨j + 1, by omega, by go_num, HO.out, HZ.out, hb9⟩
          case measure => simp [intOf]; omega
      · obtain rfl : j = d.ws.length := by omega
        rw [List.take_length] at hu
        have F2 := h2.cell2.2
        obtain ⟨U, C, rfl, _, _⟩ := hu.form
        have HN := Lib.hid (h2.setWs _ _ hu)
        have q1 : decide ((d.ws.length : Int) < (d.ws.length : Int)) = false := decide_eq_false (by omega)
        clear hu h2
        go_wp2
        go_ret
        exact ⟨rfl, ⟨b', _, by simpa [Dv.lose] using HN.out, hb', fun k e => Nat.le_trans kw.size (hz k e)⟩, (kw.trans ((Keep.of_below hb).mono (B' := w.heap.size) (S' := fun k => k = g ∨ k = sb ∨ k = gb) kw.size (fun _ _ h => h))).setCell (p := ⟨g, 2, none⟩) (.inr (.inl rfl)) _⟩

end Go.Proofs.Ytmlakbdigbpmaaa
