/- Package heat: Hot: its contract. -/
import Derived.Test.YtefobchpcdniiaaHlv
namespace Go.Proofs.Ytefobchpcdniiaa
open Go Go.RowKit Go.Maps
set_option linter.unusedSimpArgs false
set_option linter.unnecessarySimpa false
set_option linter.unusedVariables false

theorem item_info : (Try.prog.info? 61).map (fun i => (i.zero, i.size, i.bytes)) = some (some (.agg #[.string ⟨#[]⟩, .int .i64 0]), 2, 24) := by kernel_rfl
theorem str_info : (Try.prog.info? 9).map (fun i => (i.zero, i.size, i.bytes)) = some (some (.string ⟨#[]⟩), 1, 16) := by kernel_rfl
def secV (l : List (List UInt8)) : List Value := l.map fun s => Value.string (bstr s)
theorem ranges_block {P : Program} {k : TypeId} {R : Value → Option (DataW Unit × List MemPlace)} {w : World} {b r n : Nat} {D : DataW Unit} {left : Lit → Bool} {cnt : Nat} (h : w.ranges P k R b r n D left cnt) : ∃ a s e c, w.heap[r]? = some (.mapIter a s e c) := by
  obtain ⟨es, clock, since, seen, c0, _, _, _, _, hr, _⟩ := h
  exact ⟨_, _, _, _, hr⟩
/-- the state of the loop over the map -/
structure RgSt (w : World) (B lb b r : Nat) (L : List Cn) (D : DataW Unit) (left : Lit → Bool) (cnt : Nat) (v : Value) (l : List It) (wr : World) : Prop where
  rg : wr.ranges Try.prog 9 cntR b r L.length D left cnt
  lv : Blk wr lb 59 #[v]
  own : wr.ownsRow (B + 1) 61 2 v l.length (itsV l)
  lo : Below B w wr
  sz : B + 1 ≤ wr.heap.size
theorem ranges_moved {P : Program} {k : TypeId} {R : Value → Option (DataW Unit × List MemPlace)} {w w' : World} {b r n : Nat} {D : DataW Unit} {left : Lit → Bool} {cnt : Nat} (h : w.ranges P k R b r n D left cnt) (hb : w'.heap[b]? = w.heap[b]?) (hr : w'.heap[r]? = w.heap[r]?) : w'.ranges P k R b r n D left cnt := by
  obtain ⟨es, clock, since, seen, c0, h1, h2, h3, h4, h5, h6⟩ := h
  exact ⟨es, clock, since, seen, c0, hb.trans h1, h2, h3, h4, hr.trans h5, h6⟩
section
variable {w wr : World} {B lb b r : Nat} {L : List Cn} {D : DataW Unit} {left : Lit → Bool} {cnt : Nat} {v : Value} {l : List It}
theorem RgSt.ne_r (s : RgSt w B lb b r L D left cnt v l wr) : v.ownBlock ≠ some r := by
  intro e
  obtain ⟨a1, a2, a3, a4, hr⟩ := ranges_block s.rg
  rcases s.own.2 with ⟨rfl, _⟩ | ⟨g, cap, cur, rfl, _, h2, _⟩
  · cases e
  · have : g = r := by simpa [Value.ownBlock] using e
    subst this
    rw [h2] at hr
    cases hr
theorem RgSt.ne_b (s : RgSt w B lb b r L D left cnt v l wr) : v.ownBlock ≠ some b := by
  intro e
  obtain ⟨es, clock, hb, _⟩ := s.rg.owns
  rcases s.own.2 with ⟨rfl, _⟩ | ⟨g, cap, cur, rfl, _, h2, _⟩
  · cases e
  · have : g = b := by simpa [Value.ownBlock] using e
    subst this
    rw [h2] at hb
    cases hb
theorem RgSt.ne_lb (s : RgSt w B lb b r L D left cnt v l wr) : v.ownBlock ≠ some lb := row_ne s.own s.lv (by decide)
theorem RgSt.lb_r (s : RgSt w B lb b r L D left cnt v l wr) : lb ≠ r := by
  intro e
  obtain ⟨a1, a2, a3, a4, hr⟩ := ranges_block s.rg
  have := s.lv
  unfold Blk at this
  rw [e, hr] at this
  cases this
theorem RgSt.lb_b (s : RgSt w B lb b r L D left cnt v l wr) : lb ≠ b := by
  intro e
  obtain ⟨es, clock, hb, _⟩ := s.rg.owns
  have := s.lv
  unfold Blk at this
  rw [e, hb] at this
  cases this
theorem RgSt.next {w1 : World} {left' : Lit → Bool} {cnt' : Nat} (s : RgSt w B lb b r L D left cnt v l wr) (hr : B ≤ r) (h : w1.ranges Try.prog 9 cntR b r L.length D left' cnt') (hg : wr.grownBy w1 (some r)) : RgSt w B lb b r L D left' cnt' v l w1 :=
  ⟨h, s.lv.grown hg (fun e => s.lb_r (by cases e; rfl)), row_grown s.own hg (fun k e e' => s.ne_r (by rw [e]; exact e'.symm)), s.lo.grown hg (by have := s.sz; omega) (fun k e => by cases e; exact hr), Nat.le_trans s.sz hg.size⟩
theorem RgSt.below {w' : World} (s : RgSt w B lb b r L D left cnt v l wr) (hb : Below wr.heap.size wr w') : RgSt w B lb b r L D left cnt v l w' :=
  ⟨ranges_moved s.rg (hb.block b s.rg.owns.lt) (hb.block r s.rg.lt), s.lv.below hb s.lv.lt, row_below s.own hb, s.lo.trans (((Keep.of_below (S := fun _ => False) hb).mono (S' := fun _ => False) (by have := s.sz; omega) (fun _ _ h => h)).below), Nat.le_trans s.sz hb.size⟩
theorem RgSt.put {w3 : World} {v' : Value} {l' : List It} {o : Obj} (s : RgSt w B lb b r L D left cnt v l wr) (hB : lb = B) (hg : (wr.alloc o).grownBy w3 v.ownBlock) (hown : w3.ownsRow (B + 1) 61 2 v' l'.length (itsV l')) :
    RgSt w B lb b r L D left cnt v' l' (w3.setCell ⟨lb, 0, none⟩ v') := by
  have sa := s.below ((Below.refl _ _).alloc (Nat.le_refl _) o)
  have hlv := sa.lv.grown hg (fun e => s.ne_lb e.symm)
  have hrg := sa.rg.kept hg (fun e => s.ne_b e.symm) (fun e => s.ne_r e.symm)
  have hs := hg.size
  have hv := hlv.set_ 0 v'
  simp at hv
  have hne : v'.ownBlock ≠ some lb := row_ne hown hlv (by decide)
  refine ⟨ranges_moved hrg (RowKit.Below.heap_setCell _ _ _ _ (fun e => s.lb_b e.symm)) (RowKit.Below.heap_setCell _ _ _ _ (fun e => s.lb_r e.symm)), hv, row_set hown hne v', ?_, ?_⟩
  · have h1 := sa.lo.grown hg (by have := sa.sz; omega) (fun k e => by have := (s.own.lt k e).1; omega)
    exact below_at h1 (g := lb) (by omega) 0 v'
  · have := sa.sz
    have h2 : (w3.setCell ⟨lb, 0, none⟩ v').heap.size = w3.heap.size := by simp
    omega
end
theorem cnt_inv (v : Value) (y : DataW Unit × List MemPlace) (h : cntR v = some y) : ∃ c : Int × Int, v = .agg #[.int .i64 c.1, .int .i64 c.2] := by
  obtain ⟨n, t, rfl, _⟩ := cntR_inv h
  exact ⟨(n, t), rfl⟩
set_option maxHeartbeats 1000000 in
theorem init_none (lb : Nat) (w : World) (h : Blk w lb 59 #[.slice none 0 0]) :
    Calls Try.prog 24 #[hv lb] w fun e w' => e = .returned (.tuple #[]) ∧ w' = w := by
  have v0 := h.cell 0
  simp at v0
  have ml := meth_len v0
  have LN : ∀ w, Calls Try.prog 43 #[.slice none 0 0] w fun e w' => e = .returned (.int .i64 0) ∧ w' = w := by
    intro w
    go_enter Try.func43, Try.ntmps43
    go_wp2
    go_ret
    exact ⟨rfl, rfl⟩
  unfold hv
  go_enter Try.func24, Try.ntmps24
  go_wp2_with fail
  refine (LN _).mono ?_
  rintro e w1 ⟨rfl, hw1⟩
  rw [hw1]
  clear LN ml hw1
  go_wp2_with fail
  go_loopw [3] (fun i wr => i = .int .i64 (-1) ∧ wr = w) (fun _ _ => 0)
  case atStart => exact ⟨by go_num, rfl⟩
  case round =>
    obtain ⟨rfl, rfl⟩ := hrel
    go_wp2
    go_end0
    exact ⟨rfl, rfl⟩
theorem HpAt.grown {w w' : World} {lb rb cap m : Nat} {c : List It} {rest : List Value} {row : Option Nat} (h : HpAt w lb rb cap m c rest) (hg : w.grownBy w' row) (h1 : row ≠ some lb) (h2 : row ≠ some rb) : HpAt w' lb rb cap m c rest :=
  ⟨h.v.grown hg (fun e => h1 e.symm), h.r.grown hg (fun e => h2 e.symm), h.le, h.big, h.cp⟩
def slLen : Value → Nat
  | .slice _ n _ => n
  | _ => 0
set_option maxRecDepth 100000 in
set_option maxHeartbeats 2000000 in
theorem hot_any (g b : Nat) (L : List Cn) (now n : Int) (hn : (Lit.int .i64 now).wf = true) (hL : L.length < 1000000) (w : World) (h : HeatAt w g b L) :
    Calls Try.prog 19 #[.pointer (some ⟨g, 0, none⟩), .int .i64 now, .int .i64 n] w fun e w' => ∃ v, e = .returned v ∧ w'.ownsRow w.heap.size 9 1 v (hotL L now n).length (secV (hotL L now n)) ∧ Below w.heap.size w w' := by
  have hlt := h.lt
  obtain ⟨hg, D, hown, hR⟩ := h
  have c0 := hg.cell 0
  simp at c0
  obtain ⟨B, hB⟩ : ∃ B, w.heap.size = B := ⟨_, rfl⟩
  have hlb : Blk (w.alloc (.cells #[.slice none 0 0] 59)) B 59 #[.slice none 0 0] := blk_at hB
  have hgA := hg.alloc (.cells #[.slice none 0 0] 59)
  have hoA := hown.alloc (.cells #[.slice none 0 0] 59)
  have c1 := hgA.cell 0
  simp at c1
  have HR := Lib.hid hR
  have HN := Lib.hid hn
  clear hR hn
  go_enter Try.func19, Try.ntmps19
  go_wp2_with (at_range; refine wpList_range_own _ rfl _ 47 rfl 9 51 klaw Try.underlying47 cntR b _ D rfl hoA ?_)
  intro w0 hrg0 hg0 hs0
  have st0 : RgSt w B B b (B + 1) L D (Maps.has D) (Maps.size D) (.slice none 0 0) [] w0 := ⟨hrg0, hlb.grown hg0 (by intro e; cases e), World.ownsRow_nil _ _ _ _, (((Below.refl B w).alloc (by omega) _)).grown hg0 (by simp; omega) (by intro k e; cases e), by rw [hs0]; first | omega | (simp; done) | (simp; omega)⟩
  go_wp2_with fail
  go_loopw [8] (fun _ wr => ∃ left cnt v l, RgSt w B B b (B + 1) L D left cnt v l wr ∧ l.Perm (liveL now (L.filter fun c => !left (kL c.key)))) (fun _ wr => wr.rangeLeft b (B + 1))
  case atStart => exact ⟨_, _, _, _, st0, by rw [left_none HR.out]; exact List.Perm.refl _⟩
  case round =>
    obtain ⟨left, cnt, v, l, st, hpm⟩ := hrel
    have lc := st.lv.cell 0
    simp at lc
    go_wp2_with (at_next; refine wpList_next_ranges _ rfl _ rfl 9 klaw cntR (fun x : List UInt8 => .string (bstr x)) (fun p : Int × Int => .agg #[.int .i64 p.1, .int .i64 p.2]) key_inv cnt_inv b (B + 1) _ D left cnt rfl st.rg ?_ ?_)
    · intro hc0 hl0
      rw [left_all hl0] at hpm
      have hSs := sortI_srt (liveL now L)
      have hSp := sortI_perm (liveL now L)
      have hot : hotL L now n = ((sortI (liveL now L)).take n.toNat).map It.key := rfl
      obtain ⟨S, hS⟩ : ∃ S, sortI (liveL now L) = S := ⟨_, rfl⟩
      rw [hS] at hSs hSp hot
      have HOT := Lib.hid hot
      have hpS : l.Perm S := hpm.trans hSp.symm
      have hlenS : l.length = S.length := hpS.length_eq
      have hlL : S.length ≤ 1000000 := by
        rw [← hlenS, hpm.length_eq]
        unfold liveL
        refine Nat.le_trans (List.length_filter_le _ _) ?_
        rw [List.length_map]
        omega
      have HSS := Lib.hid hSs
      have HB := Lib.hid hB
      have hlo := st.lo
      have hsz := st.sz
      have hlv := st.lv
      have hown2 := st.own
      clear hS hSs hSp hot hpm hl0 hc0 st
      rcases hown2.2 with ⟨rfl, hl0⟩ | ⟨rb, cap, cur, rfl, hrb, hcur, hcp, hcm, hcs, htk⟩
      · have hS0 : S = [] := List.eq_nil_of_length_eq_zero (by omega)
        subst hS0
        go_wp2_with fail
        refine (init_none B wr hlv).mono ?_
        rintro e w3 ⟨rfl, hw3⟩
        rw [hw3]
        clear hw3 hown2
        go_wp2_with fail
        go_loopw [11] (fun kv wv => kv = .slice none 0 0 ∧ wv = wr) (fun _ _ => 0)
        case atStart => exact ⟨rfl, rfl⟩
        case round =>
          obtain ⟨rfl, rfl⟩ := hrel
          go_wp2
          go_ret
          exact ⟨_, rfl, by rw [HOT.out]; simpa [secV] using World.ownsRow_nil _ _ _ _, by first | exact hlo | (rw [hB]; exact hlo)⟩
      · have hp : HpAt wr B rb cap l.length l (cur.toList.drop (l.length * 2)) := ⟨hlv, by unfold Blk; rw [← htk, List.take_append_drop, Array.toArray_toList]; exact hcur, Nat.le_refl _, by omega, hcp, hcm⟩
        obtain ⟨rest, hrest⟩ : ∃ y, cur.toList.drop (l.length * 2) = y := ⟨_, rfl⟩
        rw [hrest] at hp
        have hin := init_is l.length l (Nat.le_refl _)
        rw [List.take_length] at hin
        go_wp2_with fail
        refine (init_any B rb cap l.length l rest wr hp).mono ?_
        rintro e w3 ⟨rfl, hp3, hk3⟩
        obtain ⟨hi1, hi2⟩ := hin
        have hpS2 := hi2.trans hpS
        obtain ⟨c3, hc3⟩ : ∃ y, initD l.length (l.length / 2) l = y := ⟨_, rfl⟩
        have hc3l : c3.length = l.length := by rw [← hc3, initD_len]
        rw [hc3] at hp3 hi1 hpS2
        rw [hlenS] at hp3 hi1 hpS2
        have hlo3 : Below B w w3 := hlo.trans (hk3.mono (S' := fun _ => False) (by omega) (fun k h1 h2 => by omega)).below
        have hsz3 : B + 1 ≤ w3.heap.size := Nat.le_trans hsz hk3.size
        have HP := Lib.hid hp3
        have HI := Lib.hid hi1
        have HPS := Lib.hid hpS2
        clear hc3 hown2 hp hk3 hi2 hpS hp3 hi1 hpS2 hlv
        go_wp2_with fail
        go_loopw [11] (fun kv wv => ∃ (t : Nat) (c' : List It), t ≤ S.length ∧ t ≤ n.toNat ∧ wv.ownsRow B 9 1 kv t (secV ((S.take t).map It.key)) ∧ HpAt wv B rb cap (S.length - t) c' rest ∧ IsH (S.length - t) c' 0 ∧ (c'.take (S.length - t)).Perm (S.drop t) ∧ Below B w wv ∧ B + 1 ≤ wv.heap.size) (fun kv _ => S.length - slLen kv)
        case atStart => exact ⟨0, c3, Nat.zero_le _, Nat.zero_le _, by simpa [secV] using World.ownsRow_nil _ _ _ _, HP.out, HI.out, HPS.out, hlo3, hsz3⟩
        case round =>
          obtain ⟨t, c', ht, htn, hko, hpt, hit, hpm, hlot, hszt⟩ := hrel
          obtain ⟨A, cc, rfl⟩ : ∃ A cc, u11 = .slice A t cc := by
            rcases hko.2 with ⟨rfl, rfl⟩ | ⟨g', cap', cur', rfl, _⟩
            · exact ⟨_, _, rfl⟩
            · exact ⟨_, _, rfl⟩
          have lc := hpt.v.cell 0
          simp at lc
          obtain ⟨M, hM⟩ : ∃ M, S.length - t = M := ⟨_, rfl⟩
          rw [hM] at hpt hit hpm lc
          have hfin : ∀ (wv : World), wv.ownsRow B 9 1 (.slice A t cc) t (secV ((S.take t).map It.key)) → (t = S.length ∨ ¬ (t : Int) < n) → wv.ownsRow B 9 1 (.slice A t cc) (hotL L now n).length (secV (hotL L now n)) := by
            intro wv hw hh
            have e1 : S.take n.toNat = S.take t := by
              rcases hh with e | e
              · rw [e, List.take_length, List.take_of_length_le (by omega)]
              · rw [show n.toNat = t by omega]
            rw [HOT.out, e1]
            have e2 : ((S.take t).map It.key).length = t := by simp; omega
            rw [e2]
            exact hw
          have HFIN := Lib.hid hfin
          clear hfin
          by_cases h1 : 0 < M
          · have q1 : decide ((M : Int) > 0) = true := decide_eq_true (by omega)
            by_cases h2 : (t : Int) < n
            · have q2 : decide ((t : Int) < n) = true := decide_eq_true h2
              obtain ⟨M', rfl⟩ : ∃ m, M = m + 1 := ⟨M - 1, by omega⟩
              have htS : t < S.length := by omega
              have hdr : S.drop t = S[t] :: S.drop (t + 1) := List.drop_eq_getElem_cons htS
              rw [hdr] at hpm
              have hsr : Srt (S[t] :: S.drop (t + 1)) := by rw [← hdr]; exact List.Pairwise.sublist (List.drop_sublist _ _) HSS.out
              obtain ⟨k1, k2, k3⟩ := pop_is M' c' S[t] (S.drop (t + 1)) hpt.le hit hpm hsr
              have P := heap_pop B rb cap M' c' rest wr hpt
              obtain ⟨c2, hc2⟩ : ∃ y, downL M' M' (swapL c' 0 M') 0 = y := ⟨_, rfl⟩
              rw [hc2] at k1 k2 k3 P
              rw [k1] at P
              obtain ⟨X, hX⟩ : ∃ y, S[t] = y := ⟨_, rfl⟩
              rw [hX] at P
              have htk1 : (S.take (t + 1)).map It.key = (S.take t).map It.key ++ [X.key] := by rw [List.take_succ_eq_append_getElem htS, hX]; simp
              have hkb := row_ne hko hpt.v (by decide)
              have hkr := row_ne hko hpt.r (by decide)
              have K2 := Lib.hid k2
              have K3 := Lib.hid k3
              have HK1 := Lib.hid htk1
              have F1 := Lib.hid (show t + 1 ≤ maxLen by unfold maxLen; omega)
              have F2 := Lib.hid (show (t + 1) * 16 ≤ 140737488355328 by omega)
              have HM := Lib.hid (show S.length - (t + 1) = M' by omega)
              have HTN := Lib.hid (show t + 1 ≤ n.toNat by omega)
              have FL : ∀ (s : ByteArray) (z : Int) (w : World), (Instr.field 61 (.agg #[.string s, .int .i64 z]) 0).run Try.prog w = .ok (.string s) w := fun s z w => by kernel_rfl
              have TA : ∀ (v : Value) (w : World), (Instr.typeAssert (.iface 61 v) 20 61 false).run Try.prog w = .ok v w := fun v w => by kernel_rfl
              clear htk1 k1 k2 k3 hc2 hX hsr hdr hit hpm hM
              go_wp2_with fail
              refine P.mono ?_
              rintro e w4 ⟨x, rfl, rfl, hp4, hk4⟩
              have hko4 := row_keep hko hk4 (fun k e => ⟨(hko.lt k e).2, fun e2 => by rcases e2 with rfl | rfl; exact hkb e; exact hkr e⟩)
              have hlo4 : Below B w w4 := hlot.trans (hk4.mono (S' := fun _ => False) (by omega) (fun k h1 h2 => by rcases h2 with rfl | rfl <;> omega)).below
              have hsz4 : B + 1 ≤ w4.heap.size := Nat.le_trans hszt hk4.size
              have hszB : B ≤ w4.heap.size := by omega
              go_wp2_with (at_builtin; refine wpList_app (P := Try.prog) _ rfl _ _ 37 rfl B 9 (.string ⟨#[]⟩) 1 16 Try.underlying37 str_info rfl (by decide) _ t _ rfl hko4 _ rfl rfl ?c1 F1.out F2.out hszB ?_)
              case c1 => intro u hu; simp at hu; subst hu; rfl
              intro v' w5 hown5 hgr5 hb5
              have hp5 := (hp4.below ((Below.refl _ _).alloc (Nat.le_refl _) (.cells #[.string (bstr x.key)] 9))).grown hgr5 hkb hkr
              have hown6 : w5.ownsRow B 9 1 v' (t + 1) (secV ((S.take (t + 1)).map It.key)) := by
                rw [HK1.out]
                simpa [secV] using hown5
              have hlo5 := hlo4.trans hb5
              have hsz5 : B + 1 ≤ w5.heap.size := Nat.le_trans hsz4 hb5.size
              have hsl : slLen v' = t + 1 := by
                rcases hown5.2 with ⟨_, e⟩ | ⟨g', cap', cur', rfl, _⟩
                · omega
                · rfl
              have HSL := Lib.hid hsl
              clear hown5 hgr5 hsl
              go_wp2
              go_roundw
              case rel => exact ⟨t + 1, c2, by omega, HTN.out, hown6, by rw [HM.out]; exact hp5, by rw [HM.out]; exact K2.out, by rw [HM.out]; exact K3.out, hlo5, hsz5⟩
              case measure =>
                simp only [HSL.out]
                first | (simp [slLen]; omega) | (show S.length - slLen v' < S.length - slLen (.slice A t cc); rw [HSL.out]; simp only [slLen]; omega)
            · have q2 : decide ((t : Int) < n) = false := decide_eq_false h2
              have hres := HFIN.out _ hko (.inr h2)
              clear hpm hit
              go_wp2
              go_ret
              exact ⟨_, rfl, by first | exact hres | (rw [HB.out]; exact hres), by first | exact hlot | (rw [HB.out]; exact hlot)⟩
          · have q1 : decide ((M : Int) > 0) = false := decide_eq_false (by omega)
            have hres := HFIN.out _ hko (.inl (by omega))
            clear hpm hit
            go_wp2
            go_ret
            exact ⟨_, rfl, by first | exact hres | (rw [HB.out]; exact hres), by first | exact hlot | (rw [HB.out]; exact hlot)⟩
    · intro x cn ct kl y ps w1 cnt1 hkx hlx hy hat hrg1 hlt1 hg1 hs1 hen
      obtain ⟨rfl, hxl⟩ := key_len x kl hkx
      have st1 := st.next (by omega) hrg1 hg1
      obtain ⟨c, hcL, hck, rfl, rfl⟩ : ∃ c ∈ L, c.key = x ∧ c.n = cn ∧ c.tick = ct := by
        have hh := has_true_of_atKey hat
        have hm : x ∈ L.map Cn.key := Classical.byContradiction fun hx => by rw [HR.out.no x hx] at hh; cases hh
        obtain ⟨c, hc, rfl⟩ := List.mem_map.1 hm
        obtain ⟨n', t', hv', hz', _⟩ := cntR_inv hy
        have h1 := (HR.out.is c hc).2 (cntD 0 0)
        have hz2 : y = cntD n' t' := congrArg Prod.fst hz'
        rw [hat, hz2] at h1
        obtain ⟨rfl, rfl⟩ := cntD_inj h1
        simp [cntV] at hv'
        exact ⟨c, hc, rfl, hv'.1.symm, hv'.2.symm⟩
      subst hck
      have hok := HR.out.ok c hcL
      have hpm1 := liveL_perm (now := now) (left_step left hlx HR.out.nodup hcL)
      rw [liveL_cons] at hpm1
      have W := worth_any c.n c.tick now hok.1 hok.2.1 hok.2.2.1 HN.out
      have hW0 := worthH_lo c.n c.tick now hok.1
      have hit : itOf now c = ⟨c.key, worthH c.n c.tick now⟩ := rfl
      obtain ⟨z, hz⟩ : ∃ z, worthH c.n c.tick now = z := ⟨_, rfl⟩
      rw [hz] at hpm1 W hW0 hit
      have hlen : l.length ≤ L.length := by
        have h1 := hpm.length_eq
        have h2 : (liveL now (L.filter fun c => !left (kL c.key))).length ≤ L.length := by
          unfold liveL
          refine Nat.le_trans (List.length_filter_le _ _) ?_
          rw [List.length_map]
          exact List.length_filter_le _ _
        omega
      have ST1 := Lib.hid st1
      have HPM := Lib.hid hpm
      have HPM1 := Lib.hid hpm1
      have hmeas : w1.rangeLeft b (B + 1) < wr.rangeLeft b (B + 1) := by rw [hrg1.left_eq, st.rg.left_eq]; exact hlt1
      have HM := Lib.hid hmeas
      clear hat hy hkx hlx hpm hpm1 hz hrg1 hg1 hs1 st1 st hmeas hlt1
      go_wp2_with fail
      refine (W _).mono ?_
      rintro e w2 ⟨rfl, hb2⟩
      have hbw : Below w1.heap.size w1 w2 := hthen ((Below.refl _ _).alloc (Nat.le_refl _) _) hb2
      have st2 := ST1.out.below hbw
      have lc2 := st2.lv.cell 0
      simp at lc2
      have hP := HPM1.out
      have hM2 : ∀ {w' : World} {v' : Value} {l' : List It}, RgSt w B B b (B + 1) L D (fun z => left z && !z.sameKey (kL c.key)) cnt1 v' l' w' → w'.rangeLeft b (B + 1) < wr.rangeLeft b (B + 1) := by
        intro w' v' l' s
        rw [s.rg.left_eq, ← ST1.out.rg.left_eq]
        exact HM.out
      clear hen
      by_cases hzp : 0 < z
      · have q1 : decide (z > 0) = true := decide_eq_true hzp
        rw [if_pos hzp, hit] at hP
        have hnx : (l ++ [(⟨c.key, z⟩ : It)]).Perm (liveL now (L.filter fun d => !(left (kL d.key) && !(kL d.key).sameKey (kL c.key)))) :=
          (List.perm_append_comm (l₁ := l) (l₂ := [_])).trans ((HPM.out.cons _).trans hP.symm)
        have HNX := Lib.hid hnx
        have F1 := Lib.hid (show l.length + 1 ≤ maxLen by unfold maxLen; omega)
        have F2 := Lib.hid (show (l.length + 1) * 24 ≤ 140737488355328 by omega)
        have hown2 := st2.own
        have hs2 := st2.sz
        have ST2 := Lib.hid st2
        clear hnx hP st2 hit
        go_wp2_with (at_builtin; refine wpList_app (P := Try.prog) _ rfl _ _ 59 rfl _ 61 (.agg #[.string ⟨#[]⟩, .int .i64 0]) 2 24 Try.underlying59 item_info rfl (by decide) _ l.length _ rfl hown2 _ rfl rfl ?c1 F1.out F2.out hs2 ?_)
        case c1 => intro u hu; simp at hu; rcases hu with rfl | rfl <;> rfl
        intro v' w3 hown3 hgr3 _
        obtain ⟨rb3, cap3, rfl, _, _⟩ := hown3.form (by omega)
        have hown4 : w3.ownsRow (B + 1) 61 2 (.slice (some ⟨rb3, 0, none⟩) (l.length + 1) cap3) (l ++ [(⟨c.key, z⟩ : It)]).length (itsV (l ++ [(⟨c.key, z⟩ : It)])) := by
          rw [List.length_append, itsV, List.flatMap_append, ← itsV]
          exact hown3
        have st4 := ST2.out.put rfl hgr3 hown4
        have hlb3 := (ST2.out.lv.alloc (.cells #[.string (bstr c.key), .int .i64 z] 61)).grown hgr3 (fun e => ST2.out.ne_lb e.symm)
        have l3 := hlb3.cell 0
        have f3 := hlb3.frozen 0
        simp at l3
        have ST4 := Lib.hid st4
        have HM4 := Lib.hid (hM2 st4)
        clear st4 hown3 hown4 hgr3 hlb3 hM2 hown2
        go_wp2
        go_roundw
        case rel => exact ⟨_, _, _, _, ST4.out, HNX.out⟩
        case measure => exact HM4.out
      · have q1 : decide (z > 0) = false := decide_eq_false hzp
        rw [if_neg hzp] at hP
        have hnx := HPM.out.trans hP.symm
        have HNX := Lib.hid hnx
        have HM4 := Lib.hid (hM2 st2)
        have ST2 := Lib.hid st2
        clear hnx hP st2 hit hM2
        go_wp2
        go_roundw
        case rel => exact ⟨_, _, v, l, ST2.out, HNX.out⟩
        case measure => exact HM4.out
end Go.Proofs.Ytefobchpcdniiaa
