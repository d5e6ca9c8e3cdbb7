/- Decode of a pointer: the program's walk. -/
import Derived.Test.YtnjbhooogfonbaaPt5
import Derived.Deep.RegionLaw
import Derived.Deep.AppendLies
namespace Go.Proofs.Ytnjbhooogfonbaa
open Go.RowKit
set_option linter.unusedSimpArgs false
set_option linter.unnecessarySimpa false
set_option linter.unusedVariables false

theorem num_len (r : Rd) (wd : Int) : (r.number wd).2.s.length ≤ r.s.length := (Rd.take_len r wd _).2
theorem loc_info : (Try.prog.info? 31).map (fun i => (i.zero, i.size, i.bytes)) = some (some (.agg #[.int .i64 0, .int .i64 0]), 2, 16) := by kernel_rfl

theorem LocsAt.nil (B : Nat) (w : World) : LocsAt B w (.slice none 0 0) [] := ⟨none, 0, rfl, by simp, by omega, fun h => absurd h (by simp)⟩

set_option maxHeartbeats 2000000 in
theorem pdec_emp (s : List UInt8) (hs : s.length ≤ 140737488351232) (hne : s.isEmpty = true) (n : Nat) (r1 : Rd) (H1 : Hid (Rd.number ⟨s, 0⟩ 1 = ((n : Int), r1))) (hn : n = 0) (hn2 : n ≤ 2)
    (locs : List Lc) (r2 : Rd) (H2 : Hid (readLocs n r1 = (locs, r2))) (hl1 : r1.s.length ≤ 140737488351232)
    (len : Int) (r3 : Rd) (H3 : Hid (r2.number 2 = (len, r3))) (birth : Int) (r4 : Rd) (H4 : Hid (r3.number 6 = (birth, r4))) (sum : List UInt8) (r5 : Rd) (H5 : Hid (r4.bytes 32 = (sum, r5)))
    (f : Int) (HF : Hid (r5.fin = f)) (hf : (f == 0) = false) (w : World) :
    Calls Try.prog 16 #[.string (bstr s)] w fun e w' => ∃ v, e = .returned (.tuple #[ptV v ⟨[], 0, 0, []⟩, .int .i64 f]) ∧ LocsAt w'.heap.size w' v (⟨[], 0, 0, []⟩ : Pt).locs ∧ Below w.heap.size w w' := by
  obtain ⟨i0, hi0, hz0, hz1, hz2⟩ := info_parts loc_info
  have hs' : (⟨s, 0⟩ : Rd).s.length ≤ 9223372036854775807 := Nat.le_trans hs (by decide)
  go_enter Try.func16, Try.ntmps16
  go_wp2_with fail
  obtain ⟨G, hG⟩ : ∃ g, w.heap.size = g := ⟨_, rfl⟩
  obtain ⟨w0, hw0⟩ : ∃ w0, w.alloc (.cells #[.slice none 0 0, .int .i64 0, .int .i64 0, .string ⟨#[]⟩] 24) = w0 := ⟨_, rfl⟩
  have hb0 : Blk w0 G 24 #[.slice none 0 0, .int .i64 0, .int .i64 0, .string ⟨#[]⟩] := by rw [← hw0, ← hG]; exact Blk.new _ _ _
  have k0 : Below w.heap.size w w0 := by rw [← hw0]; exact (Below.refl _ _).alloc (Nat.le_refl _) _
  have hGg := hb0.lt
  have hwg := k0.size
  have hwG : w.heap.size ≤ G := by omega
  rw [hw0, hG]
  refine (read_any s _).mono ?_
  rintro e w1 ⟨rfl, hr1, b1⟩
  obtain ⟨g, hg⟩ : ∃ g, w0.heap.size = g := ⟨_, rfl⟩
  have st1 : DecSt w G g #[.slice none 0 0, .int .i64 0, .int .i64 0, .string ⟨#[]⟩] ⟨s, 0⟩ w1 := ⟨hb0.below b1 hb0.lt, by rw [← hg]; exact hr1, k0.trans (b1.mono hwg)⟩
  rw [hg] at hGg hwg ⊢
  clear hb0 k0 hw0 b1 hr1 hg
  go_wp2_with fail
  refine (number_to H1.out g w1 st1.hr hs').mono ?_
  rintro e w2 ⟨rfl, hr2, k2⟩
  have st2 := st1.rd hGg hwg hr2 k2
  clear st1 hr2 k2
  go_wp2_with fail
  obtain ⟨P, hP⟩ : ∃ g, w2.heap.size = g := ⟨_, rfl⟩
  obtain ⟨w3, hw3⟩ : ∃ w3, w2.alloc (.cells #[.slice none 0 0, .int .i64 0, .int .i64 0, .string ⟨#[]⟩] 24) = w3 := ⟨_, rfl⟩
  have hgP : g < P := by rw [← hP]; exact st2.hr.lt
  have st3 : LoopSt w G g P (.slice none 0 0) [] r1 w3 := by
    have h3 := st2.below ((Below.refl _ w2).alloc (Nat.le_refl _) (.cells #[.slice none 0 0, .int .i64 0, .int .i64 0, .string ⟨#[]⟩] 24))
    rw [hw3] at h3
    exact ⟨h3.hb, by rw [← hw3, ← hP]; exact Blk.new _ _ _, h3.hr, h3.k, World.ownsRow_nil _ _ _ _⟩
  rw [hw3, hP]
  clear hw3 hP st2
  go_loopw [24] (fun i wr => ∃ j : Nat, j ≤ n ∧ i = .int .i64 j ∧ ∃ v pre rj rest, readLocs (n - j) rj = (rest, r2) ∧ pre ++ rest = locs ∧ pre.length = j ∧ rj.s.length ≤ 140737488351232 ∧ LoopSt w G g P v pre rj wr) (fun i _ => n - (intOf i).toNat)
  case atStart => exact ⟨0, by omega, rfl, _, [], r1, locs, H2.out, rfl, rfl, hl1, st3⟩
  case round =>
    obtain ⟨j, hj, rfl, v, pre, rj, rest, hrl, hpr, hpl, hlj, st⟩ := hrel
    clear st3
    have HPR := Lib.hid hpr
    by_cases hlt : j < n
    · omega
    · obtain rfl : j = n := by omega
      rw [Nat.sub_self, readLocs] at hrl
      simp only [Prod.mk.injEq] at hrl
      obtain ⟨rfl, rfl⟩ := hrl
      rw [List.append_nil] at hpr
      subst hpr
      have LJ : rj.s.length ≤ 9223372036854775807 := by omega
      have hra := num_len rj 2
      rw [H3.out] at hra
      have hrb := num_len r3 6
      rw [H4.out] at hrb
      simp only at hra hrb
      have L3 : r3.s.length ≤ 9223372036854775807 := by omega
      have L4 : r4.s.length ≤ 9223372036854775807 := by omega
      have LJ := Lib.hid LJ
      have L3 := Lib.hid L3
      have L4 := Lib.hid L4
      have HPL := Lib.hid hpl
      clear hlj hra hrb hpl HPR
      go_wp2_with fail
      refine (number_to H3.out g wr st.hr LJ.out).mono ?_
      rintro e w6 ⟨rfl, hr6, k6⟩
      have st6 := st.rd hGg hgP hwG hr6 k6
      clear st hr6 k6
      go_wp2_with fail
      refine (number_to H4.out g w6 st6.hr L3.out).mono ?_
      rintro e w7 ⟨rfl, hr7, k7⟩
      have st7 := st6.rd hGg hgP hwG hr7 k7
      clear st6 hr7 k7
      go_wp2_with fail
      refine (bytes_to H5.out g w7 st7.hr L4.out).mono ?_
      rintro e w8 ⟨rfl, hr8, k8⟩
      have st8 := st7.rd hGg hgP hwG hr8 k8
      clear st7 hr8 k8
      have y0 := st8.hb.cell 0
      have y1 := st8.hb.cell 1
      have y2 := st8.hb.cell 2
      have y3 := st8.hb.cell 3
      have f1 := st8.hb.frozen 1
      have f2 := st8.hb.frozen 2
      have f3 := st8.hb.frozen 3
      simp at y0 y1 y2 y3
      go_wp2_with fail
      have p1 := (((st8.hb.set_ 1 (.int .i64 len)).set_ 2 (.int .i64 birth)).set_ 3 (.string (bstr sum)))
      have p2 : Blk (((w8.setCell ⟨P, 1, none⟩ (.int .i64 len)).setCell ⟨P, 2, none⟩ (.int .i64 birth)).setCell ⟨P, 3, none⟩ (.string (bstr sum))) G 24 #[.slice none 0 0, .int .i64 0, .int .i64 0, .string ⟨#[]⟩] :=
        ((st8.hG.far (p := ⟨P, 1, none⟩) (by show G ≠ P; omega) _).far (p := ⟨P, 2, none⟩) (by show G ≠ P; omega) _).far (p := ⟨P, 3, none⟩) (by show G ≠ P; omega) _
      have p3 : RdAt (((w8.setCell ⟨P, 1, none⟩ (.int .i64 len)).setCell ⟨P, 2, none⟩ (.int .i64 birth)).setCell ⟨P, 3, none⟩ (.string (bstr sum))) g r5 :=
        Blk.far (p := ⟨P, 3, none⟩) (Blk.far (p := ⟨P, 2, none⟩) (Blk.far (p := ⟨P, 1, none⟩) st8.hr (by show g ≠ P; omega) _) (by show g ≠ P; omega) _) (by show g ≠ P; omega) _
      have hwP : w.heap.size ≤ P := by omega
      have p4 : Below w.heap.size w (((w8.setCell ⟨P, 1, none⟩ (.int .i64 len)).setCell ⟨P, 2, none⟩ (.int .i64 birth)).setCell ⟨P, 3, none⟩ (.string (bstr sum))) := below_at (below_at (below_at st8.k hwP _ _) hwP _ _) hwP _ _
      have o1 := own_ne st8.own st8.hb (by decide)
      have p5 : OwnL P (((w8.setCell ⟨P, 1, none⟩ (.int .i64 len)).setCell ⟨P, 2, none⟩ (.int .i64 birth)).setCell ⟨P, 3, none⟩ (.string (bstr sum))) v pre := own_set (own_set (own_set st8.own o1 _) o1 _) o1 _
      simp at p1
      obtain ⟨w9, hw9⟩ : ∃ w9, ((w8.setCell ⟨P, 1, none⟩ (.int .i64 len)).setCell ⟨P, 2, none⟩ (.int .i64 birth)).setCell ⟨P, 3, none⟩ (.string (bstr sum)) = w9 := ⟨_, rfl⟩
      rw [hw9] at p1 p2 p3 p4 p5 ⊢
      clear hw9 y0 y1 y2 y3 f1 f2 f3 st8 o1
      refine (end_to HF.out g w9 p3).mono ?_
      rintro e _ ⟨rfl, rfl⟩
      have q0 := p2.cell 0
      have q1 := p2.cell 1
      have q2 := p2.cell 2
      have q3 := p2.cell 3
      have g0 := p2.frozen 0
      have g1 := p2.frozen 1
      have g2 := p2.frozen 2
      have g3 := p2.frozen 3
      simp at q0 q1 q2 q3
      go_wp2
      refine bodyPost_ret (v := .tuple #[.agg #[.slice none 0 0, .int .i64 0, .int .i64 0, .string (bstr [])], .int .i64 f]) ?h1 rfl ?h2
      case h1 => simp [results, Try.results16, go_sem, *]
      case h2 => exact ⟨_, rfl, LocsAt.nil _ _, below_at (below_at (below_at (below_at p4 (Nat.le_of_eq hG) _ _) (Nat.le_of_eq hG) _ _) (Nat.le_of_eq hG) _ _) (Nat.le_of_eq hG) _ _⟩

set_option maxHeartbeats 2000000 in
theorem pdec_end (s : List UInt8) (hs : s.length ≤ 140737488351232) (hne : s.isEmpty = false) (n : Nat) (r1 : Rd) (H1 : Hid (Rd.number ⟨s, 0⟩ 1 = ((n : Int), r1))) (hn : 1 ≤ n) (hn2 : n ≤ 2)
    (locs : List Lc) (r2 : Rd) (H2 : Hid (readLocs n r1 = (locs, r2))) (hl1 : r1.s.length ≤ 140737488351232)
    (len : Int) (r3 : Rd) (H3 : Hid (r2.number 2 = (len, r3))) (birth : Int) (r4 : Rd) (H4 : Hid (r3.number 6 = (birth, r4))) (sum : List UInt8) (r5 : Rd) (H5 : Hid (r4.bytes 32 = (sum, r5)))
    (f : Int) (HF : Hid (r5.fin = f)) (hf : (f == 0) = false) (w : World) :
    Calls Try.prog 16 #[.string (bstr s)] w fun e w' => ∃ v, e = .returned (.tuple #[ptV v ⟨[], 0, 0, []⟩, .int .i64 f]) ∧ LocsAt w'.heap.size w' v (⟨[], 0, 0, []⟩ : Pt).locs ∧ Below w.heap.size w w' := by
  obtain ⟨i0, hi0, hz0, hz1, hz2⟩ := info_parts loc_info
  have hs' : (⟨s, 0⟩ : Rd).s.length ≤ 9223372036854775807 := Nat.le_trans hs (by decide)
  go_enter Try.func16, Try.ntmps16
  go_wp2_with fail
  obtain ⟨G, hG⟩ : ∃ g, w.heap.size = g := ⟨_, rfl⟩
  obtain ⟨w0, hw0⟩ : ∃ w0, w.alloc (.cells #[.slice none 0 0, .int .i64 0, .int .i64 0, .string ⟨#[]⟩] 24) = w0 := ⟨_, rfl⟩
  have hb0 : Blk w0 G 24 #[.slice none 0 0, .int .i64 0, .int .i64 0, .string ⟨#[]⟩] := by rw [← hw0, ← hG]; exact Blk.new _ _ _
  have k0 : Below w.heap.size w w0 := by rw [← hw0]; exact (Below.refl _ _).alloc (Nat.le_refl _) _
  have hGg := hb0.lt
  have hwg := k0.size
  have hwG : w.heap.size ≤ G := by omega
  rw [hw0, hG]
  refine (read_any s _).mono ?_
  rintro e w1 ⟨rfl, hr1, b1⟩
  obtain ⟨g, hg⟩ : ∃ g, w0.heap.size = g := ⟨_, rfl⟩
  have st1 : DecSt w G g #[.slice none 0 0, .int .i64 0, .int .i64 0, .string ⟨#[]⟩] ⟨s, 0⟩ w1 := ⟨hb0.below b1 hb0.lt, by rw [← hg]; exact hr1, k0.trans (b1.mono hwg)⟩
  rw [hg] at hGg hwg ⊢
  clear hb0 k0 hw0 b1 hr1 hg
  go_wp2_with fail
  refine (number_to H1.out g w1 st1.hr hs').mono ?_
  rintro e w2 ⟨rfl, hr2, k2⟩
  have st2 := st1.rd hGg hwg hr2 k2
  clear st1 hr2 k2
  go_wp2_with fail
  obtain ⟨P, hP⟩ : ∃ g, w2.heap.size = g := ⟨_, rfl⟩
  obtain ⟨w3, hw3⟩ : ∃ w3, w2.alloc (.cells #[.slice none 0 0, .int .i64 0, .int .i64 0, .string ⟨#[]⟩] 24) = w3 := ⟨_, rfl⟩
  have hgP : g < P := by rw [← hP]; exact st2.hr.lt
  have st3 : LoopSt w G g P (.slice none 0 0) [] r1 w3 := by
    have h3 := st2.below ((Below.refl _ w2).alloc (Nat.le_refl _) (.cells #[.slice none 0 0, .int .i64 0, .int .i64 0, .string ⟨#[]⟩] 24))
    rw [hw3] at h3
    exact ⟨h3.hb, by rw [← hw3, ← hP]; exact Blk.new _ _ _, h3.hr, h3.k, World.ownsRow_nil _ _ _ _⟩
  rw [hw3, hP]
  clear hw3 hP st2
  go_loopw [24] (fun i wr => ∃ j : Nat, j ≤ n ∧ i = .int .i64 j ∧ ∃ v pre rj rest, readLocs (n - j) rj = (rest, r2) ∧ pre ++ rest = locs ∧ pre.length = j ∧ rj.s.length ≤ 140737488351232 ∧ LoopSt w G g P v pre rj wr) (fun i _ => n - (intOf i).toNat)
  case atStart => exact ⟨0, by omega, rfl, _, [], r1, locs, H2.out, rfl, rfl, hl1, st3⟩
  case round =>
    obtain ⟨j, hj, rfl, v, pre, rj, rest, hrl, hpr, hpl, hlj, st⟩ := hrel
    clear st3
    have HPR := Lib.hid hpr
    by_cases hlt : j < n
    · obtain ⟨m, hm⟩ : ∃ m, n - j = m + 1 := ⟨n - j - 1, by omega⟩
      rw [hm, readLocs] at hrl
      have hra := num_len rj 1
      obtain ⟨⟨d, ra⟩, hD⟩ : ∃ x, rj.number 1 = x := ⟨_, rfl⟩
      rw [hD] at hrl hra
      have hrb := num_len ra 2
      obtain ⟨⟨a, rb⟩, hA⟩ : ∃ x, ra.number 2 = x := ⟨_, rfl⟩
      rw [hA] at hrl hrb
      simp only [Prod.mk.injEq] at hrl hra hrb
      have HD := Lib.hid hD
      have HA := Lib.hid hA
      have HRL := Lib.hid hrl
      have hlj' : rj.s.length ≤ 9223372036854775807 := by omega
      have hla' : ra.s.length ≤ 9223372036854775807 := by omega
      have hlb : rb.s.length ≤ 140737488351232 := by omega
      have hfit1 : pre.length + 1 ≤ maxLen := by unfold maxLen; omega
      have hfit2 : (pre.length + 1) * 16 ≤ 140737488355328 := by omega
      have LJ := Lib.hid hlj'
      have LA := Lib.hid hla'
      have LB := Lib.hid hlb
      have F1 := Lib.hid hfit1
      have F2 := Lib.hid hfit2
      have HPL := Lib.hid hpl
      clear hD hA hrl hra hrb hlj hlj' hla' hlb hfit1 hfit2 hpl hpr
      have y0 := st.hb.cell 0
      simp at y0
      go_wp2_with fail
      go_region_law (first
        | (refine step_append_lies _ (by rfl) _ _ _ (by rfl) P 31 i0 _ 2 16 (by kernel_rfl) hi0 hz0 hz1 hz2 rfl (by decide) v pre.length (lcsV pre) rfl (st7.own.alloc _) ⟨w7.heap.size, 0, none⟩ 1 1 (lcV ⟨d, a⟩) rfl rfl (World.news_of_block (Blk.new w7 _ _)) (fun u hu => by simp [lcV] at hu; rcases hu with rfl | rfl <;> rfl) (by decide) F1.out F2.out (by simp; have := st7.hb.lt; omega) _ rfl ?_; intro gn cap w9 hown9 hgrow9 hat9 hlt9; have hb9 := (st7.hb.alloc _).grown hgrow9 (fun e => own_ne st7.own st7.hb (by decide) e.symm); have q0 := hb9.cell 0; have f0 := hb9.frozen 0; simp at q0)
        | (go_simp; go_at_call 28; refine (number_to HA.out g w6 st6.hr LA.out).mono ?_; rintro e w7 ⟨rfl, hr7, k7⟩; have st7 := st6.rd hGg hgP hwG hr7 k7; have v0 := st7.hb.cell 0; simp at v0; have v0a := fun o => alloc_cell v0 st7.hb.lt o; dsimp only)
        | (go_simp; go_at_call 28; refine (number_to HD.out g wr.drew st.hr LJ.out).mono ?_; rintro e w6 ⟨rfl, hr6, k6⟩; have st6 := st.rd hGg hgP hwG hr6 k6.fromDrew; have u0 := st6.hb.cell 0; simp at u0; dsimp only))
      all_goals
        have st8 := (st7.below ((Below.refl _ w7).alloc (Nat.le_refl _) _)).store hGg hgP hwG (v' := .slice (some ⟨gn, 0, none⟩) (pre.length + 1) cap) (pre' := pre ++ [⟨d, a⟩]) (by unfold OwnL; rw [lcsV_snoc, List.length_append]; exact hown9) hgrow9
        go_wp2
        go_round
        case rel => exact ⟨j + 1, by omega, by go_num, _, _, rb, (readLocs m rb).1, by rw [show n - (j + 1) = m by omega, ← HRL.out.2], by rw [← HPR.out, ← HRL.out.1]; simp, by simp [HPL.out], LB.out, st8⟩
        case measure => simp [intOf]; omega
    · obtain rfl : j = n := by omega
      rw [Nat.sub_self, readLocs] at hrl
      simp only [Prod.mk.injEq] at hrl
      obtain ⟨rfl, rfl⟩ := hrl
      rw [List.append_nil] at hpr
      subst hpr
      have LJ : rj.s.length ≤ 9223372036854775807 := by omega
      have hra := num_len rj 2
      rw [H3.out] at hra
      have hrb := num_len r3 6
      rw [H4.out] at hrb
      simp only at hra hrb
      have L3 : r3.s.length ≤ 9223372036854775807 := by omega
      have L4 : r4.s.length ≤ 9223372036854775807 := by omega
      have LJ := Lib.hid LJ
      have L3 := Lib.hid L3
      have L4 := Lib.hid L4
      have HPL := Lib.hid hpl
      clear hlj hra hrb hpl HPR
      go_wp2_with fail
      refine (number_to H3.out g wr st.hr LJ.out).mono ?_
      rintro e w6 ⟨rfl, hr6, k6⟩
      have st6 := st.rd hGg hgP hwG hr6 k6
      clear st hr6 k6
      go_wp2_with fail
      refine (number_to H4.out g w6 st6.hr L3.out).mono ?_
      rintro e w7 ⟨rfl, hr7, k7⟩
      have st7 := st6.rd hGg hgP hwG hr7 k7
      clear st6 hr7 k7
      go_wp2_with fail
      refine (bytes_to H5.out g w7 st7.hr L4.out).mono ?_
      rintro e w8 ⟨rfl, hr8, k8⟩
      have st8 := st7.rd hGg hgP hwG hr8 k8
      clear st7 hr8 k8
      have y0 := st8.hb.cell 0
      have y1 := st8.hb.cell 1
      have y2 := st8.hb.cell 2
      have y3 := st8.hb.cell 3
      have f1 := st8.hb.frozen 1
      have f2 := st8.hb.frozen 2
      have f3 := st8.hb.frozen 3
      simp at y0 y1 y2 y3
      go_wp2_with fail
      have p1 := (((st8.hb.set_ 1 (.int .i64 len)).set_ 2 (.int .i64 birth)).set_ 3 (.string (bstr sum)))
      have p2 : Blk (((w8.setCell ⟨P, 1, none⟩ (.int .i64 len)).setCell ⟨P, 2, none⟩ (.int .i64 birth)).setCell ⟨P, 3, none⟩ (.string (bstr sum))) G 24 #[.slice none 0 0, .int .i64 0, .int .i64 0, .string ⟨#[]⟩] :=
        ((st8.hG.far (p := ⟨P, 1, none⟩) (by show G ≠ P; omega) _).far (p := ⟨P, 2, none⟩) (by show G ≠ P; omega) _).far (p := ⟨P, 3, none⟩) (by show G ≠ P; omega) _
      have p3 : RdAt (((w8.setCell ⟨P, 1, none⟩ (.int .i64 len)).setCell ⟨P, 2, none⟩ (.int .i64 birth)).setCell ⟨P, 3, none⟩ (.string (bstr sum))) g r5 :=
        Blk.far (p := ⟨P, 3, none⟩) (Blk.far (p := ⟨P, 2, none⟩) (Blk.far (p := ⟨P, 1, none⟩) st8.hr (by show g ≠ P; omega) _) (by show g ≠ P; omega) _) (by show g ≠ P; omega) _
      have hwP : w.heap.size ≤ P := by omega
      have p4 : Below w.heap.size w (((w8.setCell ⟨P, 1, none⟩ (.int .i64 len)).setCell ⟨P, 2, none⟩ (.int .i64 birth)).setCell ⟨P, 3, none⟩ (.string (bstr sum))) := below_at (below_at (below_at st8.k hwP _ _) hwP _ _) hwP _ _
      have o1 := own_ne st8.own st8.hb (by decide)
      have p5 : OwnL P (((w8.setCell ⟨P, 1, none⟩ (.int .i64 len)).setCell ⟨P, 2, none⟩ (.int .i64 birth)).setCell ⟨P, 3, none⟩ (.string (bstr sum))) v pre := own_set (own_set (own_set st8.own o1 _) o1 _) o1 _
      simp at p1
      obtain ⟨w9, hw9⟩ : ∃ w9, ((w8.setCell ⟨P, 1, none⟩ (.int .i64 len)).setCell ⟨P, 2, none⟩ (.int .i64 birth)).setCell ⟨P, 3, none⟩ (.string (bstr sum)) = w9 := ⟨_, rfl⟩
      rw [hw9] at p1 p2 p3 p4 p5 ⊢
      clear hw9 y0 y1 y2 y3 f1 f2 f3 st8 o1
      refine (end_to HF.out g w9 p3).mono ?_
      rintro e _ ⟨rfl, rfl⟩
      have q0 := p2.cell 0
      have q1 := p2.cell 1
      have q2 := p2.cell 2
      have q3 := p2.cell 3
      have g0 := p2.frozen 0
      have g1 := p2.frozen 1
      have g2 := p2.frozen 2
      have g3 := p2.frozen 3
      simp at q0 q1 q2 q3
      go_wp2
      refine bodyPost_ret (v := .tuple #[.agg #[.slice none 0 0, .int .i64 0, .int .i64 0, .string (bstr [])], .int .i64 f]) ?h1 rfl ?h2
      case h1 => simp [results, Try.results16, go_sem, *]
      case h2 => exact ⟨_, rfl, LocsAt.nil _ _, below_at (below_at (below_at (below_at p4 (Nat.le_of_eq hG) _ _) (Nat.le_of_eq hG) _ _) (Nat.le_of_eq hG) _ _) (Nat.le_of_eq hG) _ _⟩

set_option maxHeartbeats 2000000 in
theorem pdec_bad (s : List UInt8) (hs : s.length ≤ 140737488351232) (hne : s.isEmpty = false) (n : Nat) (r1 : Rd) (H1 : Hid (Rd.number ⟨s, 0⟩ 1 = ((n : Int), r1))) (hn : 1 ≤ n) (hn2 : n ≤ 2)
    (locs : List Lc) (r2 : Rd) (H2 : Hid (readLocs n r1 = (locs, r2))) (hl1 : r1.s.length ≤ 140737488351232)
    (len : Int) (r3 : Rd) (H3 : Hid (r2.number 2 = (len, r3))) (birth : Int) (r4 : Rd) (H4 : Hid (r3.number 6 = (birth, r4))) (sum : List UInt8) (r5 : Rd) (H5 : Hid (r4.bytes 32 = (sum, r5)))
    (HF : Hid (r5.fin = 0)) (HC : Hid (ckE ⟨locs, len, birth, sum⟩ = 1)) (w : World) :
    Calls Try.prog 16 #[.string (bstr s)] w fun e w' => ∃ v, e = .returned (.tuple #[ptV v ⟨[], 0, 0, []⟩, .int .i64 3]) ∧ LocsAt w'.heap.size w' v (⟨[], 0, 0, []⟩ : Pt).locs ∧ Below w.heap.size w w' := by
  obtain ⟨i0, hi0, hz0, hz1, hz2⟩ := info_parts loc_info
  have hs' : (⟨s, 0⟩ : Rd).s.length ≤ 9223372036854775807 := Nat.le_trans hs (by decide)
  go_enter Try.func16, Try.ntmps16
  go_wp2_with fail
  obtain ⟨G, hG⟩ : ∃ g, w.heap.size = g := ⟨_, rfl⟩
  obtain ⟨w0, hw0⟩ : ∃ w0, w.alloc (.cells #[.slice none 0 0, .int .i64 0, .int .i64 0, .string ⟨#[]⟩] 24) = w0 := ⟨_, rfl⟩
  have hb0 : Blk w0 G 24 #[.slice none 0 0, .int .i64 0, .int .i64 0, .string ⟨#[]⟩] := by rw [← hw0, ← hG]; exact Blk.new _ _ _
  have k0 : Below w.heap.size w w0 := by rw [← hw0]; exact (Below.refl _ _).alloc (Nat.le_refl _) _
  have hGg := hb0.lt
  have hwg := k0.size
  have hwG : w.heap.size ≤ G := by omega
  rw [hw0, hG]
  refine (read_any s _).mono ?_
  rintro e w1 ⟨rfl, hr1, b1⟩
  obtain ⟨g, hg⟩ : ∃ g, w0.heap.size = g := ⟨_, rfl⟩
  have st1 : DecSt w G g #[.slice none 0 0, .int .i64 0, .int .i64 0, .string ⟨#[]⟩] ⟨s, 0⟩ w1 := ⟨hb0.below b1 hb0.lt, by rw [← hg]; exact hr1, k0.trans (b1.mono hwg)⟩
  rw [hg] at hGg hwg ⊢
  clear hb0 k0 hw0 b1 hr1 hg
  go_wp2_with fail
  refine (number_to H1.out g w1 st1.hr hs').mono ?_
  rintro e w2 ⟨rfl, hr2, k2⟩
  have st2 := st1.rd hGg hwg hr2 k2
  clear st1 hr2 k2
  go_wp2_with fail
  obtain ⟨P, hP⟩ : ∃ g, w2.heap.size = g := ⟨_, rfl⟩
  obtain ⟨w3, hw3⟩ : ∃ w3, w2.alloc (.cells #[.slice none 0 0, .int .i64 0, .int .i64 0, .string ⟨#[]⟩] 24) = w3 := ⟨_, rfl⟩
  have hgP : g < P := by rw [← hP]; exact st2.hr.lt
  have st3 : LoopSt w G g P (.slice none 0 0) [] r1 w3 := by
    have h3 := st2.below ((Below.refl _ w2).alloc (Nat.le_refl _) (.cells #[.slice none 0 0, .int .i64 0, .int .i64 0, .string ⟨#[]⟩] 24))
    rw [hw3] at h3
    exact ⟨h3.hb, by rw [← hw3, ← hP]; exact Blk.new _ _ _, h3.hr, h3.k, World.ownsRow_nil _ _ _ _⟩
  rw [hw3, hP]
  clear hw3 hP st2
  go_loopw [24] (fun i wr => ∃ j : Nat, j ≤ n ∧ i = .int .i64 j ∧ ∃ v pre rj rest, readLocs (n - j) rj = (rest, r2) ∧ pre ++ rest = locs ∧ pre.length = j ∧ rj.s.length ≤ 140737488351232 ∧ LoopSt w G g P v pre rj wr) (fun i _ => n - (intOf i).toNat)
  case atStart => exact ⟨0, by omega, rfl, _, [], r1, locs, H2.out, rfl, rfl, hl1, st3⟩
  case round =>
    obtain ⟨j, hj, rfl, v, pre, rj, rest, hrl, hpr, hpl, hlj, st⟩ := hrel
    clear st3
    have HPR := Lib.hid hpr
    by_cases hlt : j < n
    · obtain ⟨m, hm⟩ : ∃ m, n - j = m + 1 := ⟨n - j - 1, by omega⟩
      rw [hm, readLocs] at hrl
      have hra := num_len rj 1
      obtain ⟨⟨d, ra⟩, hD⟩ : ∃ x, rj.number 1 = x := ⟨_, rfl⟩
      rw [hD] at hrl hra
      have hrb := num_len ra 2
      obtain ⟨⟨a, rb⟩, hA⟩ : ∃ x, ra.number 2 = x := ⟨_, rfl⟩
      rw [hA] at hrl hrb
      simp only [Prod.mk.injEq] at hrl hra hrb
      have HD := Lib.hid hD
      have HA := Lib.hid hA
      have HRL := Lib.hid hrl
      have hlj' : rj.s.length ≤ 9223372036854775807 := by omega
      have hla' : ra.s.length ≤ 9223372036854775807 := by omega
      have hlb : rb.s.length ≤ 140737488351232 := by omega
      have hfit1 : pre.length + 1 ≤ maxLen := by unfold maxLen; omega
      have hfit2 : (pre.length + 1) * 16 ≤ 140737488355328 := by omega
      have LJ := Lib.hid hlj'
      have LA := Lib.hid hla'
      have LB := Lib.hid hlb
      have F1 := Lib.hid hfit1
      have F2 := Lib.hid hfit2
      have HPL := Lib.hid hpl
      clear hD hA hrl hra hrb hlj hlj' hla' hlb hfit1 hfit2 hpl hpr
      have y0 := st.hb.cell 0
      simp at y0
      go_wp2_with fail
      go_region_law (first
        | (refine step_append_lies _ (by rfl) _ _ _ (by rfl) P 31 i0 _ 2 16 (by kernel_rfl) hi0 hz0 hz1 hz2 rfl (by decide) v pre.length (lcsV pre) rfl (st7.own.alloc _) ⟨w7.heap.size, 0, none⟩ 1 1 (lcV ⟨d, a⟩) rfl rfl (World.news_of_block (Blk.new w7 _ _)) (fun u hu => by simp [lcV] at hu; rcases hu with rfl | rfl <;> rfl) (by decide) F1.out F2.out (by simp; have := st7.hb.lt; omega) _ rfl ?_; intro gn cap w9 hown9 hgrow9 hat9 hlt9; have hb9 := (st7.hb.alloc _).grown hgrow9 (fun e => own_ne st7.own st7.hb (by decide) e.symm); have q0 := hb9.cell 0; have f0 := hb9.frozen 0; simp at q0)
        | (go_simp; go_at_call 28; refine (number_to HA.out g w6 st6.hr LA.out).mono ?_; rintro e w7 ⟨rfl, hr7, k7⟩; have st7 := st6.rd hGg hgP hwG hr7 k7; have v0 := st7.hb.cell 0; simp at v0; have v0a := fun o => alloc_cell v0 st7.hb.lt o; dsimp only)
        | (go_simp; go_at_call 28; refine (number_to HD.out g wr.drew st.hr LJ.out).mono ?_; rintro e w6 ⟨rfl, hr6, k6⟩; have st6 := st.rd hGg hgP hwG hr6 k6.fromDrew; have u0 := st6.hb.cell 0; simp at u0; dsimp only))
      all_goals
        have st8 := (st7.below ((Below.refl _ w7).alloc (Nat.le_refl _) _)).store hGg hgP hwG (v' := .slice (some ⟨gn, 0, none⟩) (pre.length + 1) cap) (pre' := pre ++ [⟨d, a⟩]) (by unfold OwnL; rw [lcsV_snoc, List.length_append]; exact hown9) hgrow9
        go_wp2
        go_round
        case rel => exact ⟨j + 1, by omega, by go_num, _, _, rb, (readLocs m rb).1, by rw [show n - (j + 1) = m by omega, ← HRL.out.2], by rw [← HPR.out, ← HRL.out.1]; simp, by simp [HPL.out], LB.out, st8⟩
        case measure => simp [intOf]; omega
    · obtain rfl : j = n := by omega
      rw [Nat.sub_self, readLocs] at hrl
      simp only [Prod.mk.injEq] at hrl
      obtain ⟨rfl, rfl⟩ := hrl
      rw [List.append_nil] at hpr
      subst hpr
      have LJ : rj.s.length ≤ 9223372036854775807 := by omega
      have hra := num_len rj 2
      rw [H3.out] at hra
      have hrb := num_len r3 6
      rw [H4.out] at hrb
      simp only at hra hrb
      have L3 : r3.s.length ≤ 9223372036854775807 := by omega
      have L4 : r4.s.length ≤ 9223372036854775807 := by omega
      have LJ := Lib.hid LJ
      have L3 := Lib.hid L3
      have L4 := Lib.hid L4
      have HPL := Lib.hid hpl
      clear hlj hra hrb hpl HPR
      go_wp2_with fail
      refine (number_to H3.out g wr st.hr LJ.out).mono ?_
      rintro e w6 ⟨rfl, hr6, k6⟩
      have st6 := st.rd hGg hgP hwG hr6 k6
      clear st hr6 k6
      go_wp2_with fail
      refine (number_to H4.out g w6 st6.hr L3.out).mono ?_
      rintro e w7 ⟨rfl, hr7, k7⟩
      have st7 := st6.rd hGg hgP hwG hr7 k7
      clear st6 hr7 k7
      go_wp2_with fail
      refine (bytes_to H5.out g w7 st7.hr L4.out).mono ?_
      rintro e w8 ⟨rfl, hr8, k8⟩
      have st8 := st7.rd hGg hgP hwG hr8 k8
      clear st7 hr8 k8
      have y0 := st8.hb.cell 0
      have y1 := st8.hb.cell 1
      have y2 := st8.hb.cell 2
      have y3 := st8.hb.cell 3
      have f1 := st8.hb.frozen 1
      have f2 := st8.hb.frozen 2
      have f3 := st8.hb.frozen 3
      simp at y0 y1 y2 y3
      go_wp2_with fail
      have p1 := (((st8.hb.set_ 1 (.int .i64 len)).set_ 2 (.int .i64 birth)).set_ 3 (.string (bstr sum)))
      have p2 : Blk (((w8.setCell ⟨P, 1, none⟩ (.int .i64 len)).setCell ⟨P, 2, none⟩ (.int .i64 birth)).setCell ⟨P, 3, none⟩ (.string (bstr sum))) G 24 #[.slice none 0 0, .int .i64 0, .int .i64 0, .string ⟨#[]⟩] :=
        ((st8.hG.far (p := ⟨P, 1, none⟩) (by show G ≠ P; omega) _).far (p := ⟨P, 2, none⟩) (by show G ≠ P; omega) _).far (p := ⟨P, 3, none⟩) (by show G ≠ P; omega) _
      have p3 : RdAt (((w8.setCell ⟨P, 1, none⟩ (.int .i64 len)).setCell ⟨P, 2, none⟩ (.int .i64 birth)).setCell ⟨P, 3, none⟩ (.string (bstr sum))) g r5 :=
        Blk.far (p := ⟨P, 3, none⟩) (Blk.far (p := ⟨P, 2, none⟩) (Blk.far (p := ⟨P, 1, none⟩) st8.hr (by show g ≠ P; omega) _) (by show g ≠ P; omega) _) (by show g ≠ P; omega) _
      have hwP : w.heap.size ≤ P := by omega
      have p4 : Below w.heap.size w (((w8.setCell ⟨P, 1, none⟩ (.int .i64 len)).setCell ⟨P, 2, none⟩ (.int .i64 birth)).setCell ⟨P, 3, none⟩ (.string (bstr sum))) := below_at (below_at (below_at st8.k hwP _ _) hwP _ _) hwP _ _
      have o1 := own_ne st8.own st8.hb (by decide)
      have p5 : OwnL P (((w8.setCell ⟨P, 1, none⟩ (.int .i64 len)).setCell ⟨P, 2, none⟩ (.int .i64 birth)).setCell ⟨P, 3, none⟩ (.string (bstr sum))) v pre := own_set (own_set (own_set st8.own o1 _) o1 _) o1 _
      simp at p1
      obtain ⟨w9, hw9⟩ : ∃ w9, ((w8.setCell ⟨P, 1, none⟩ (.int .i64 len)).setCell ⟨P, 2, none⟩ (.int .i64 birth)).setCell ⟨P, 3, none⟩ (.string (bstr sum)) = w9 := ⟨_, rfl⟩
      rw [hw9] at p1 p2 p3 p4 p5 ⊢
      clear hw9 y0 y1 y2 y3 f1 f2 f3 st8 o1
      refine (end_to HF.out g w9 p3).mono ?_
      rintro e _ ⟨rfl, rfl⟩
      have c0 := p1.cell 0
      have c1 := p1.cell 1
      have c2 := p1.cell 2
      have c3 := p1.cell 3
      simp at c0 c1 c2 c3
      go_wp2_with fail
      refine (check_to HC.out w9.heap.size w9 p5.locs (Nat.le_refl _)).mono ?_
      rintro e w10 ⟨rfl, b10⟩
      replace p2 := p2.below b10 p2.lt
      replace p4 := p4.trans (b10.mono p4.size)
      clear c0 c1 c2 c3 p1 p3 p5
      have q0 := p2.cell 0
      have q1 := p2.cell 1
      have q2 := p2.cell 2
      have q3 := p2.cell 3
      have g0 := p2.frozen 0
      have g1 := p2.frozen 1
      have g2 := p2.frozen 2
      have g3 := p2.frozen 3
      simp at q0 q1 q2 q3
      go_wp2
      refine bodyPost_ret (v := .tuple #[.agg #[.slice none 0 0, .int .i64 0, .int .i64 0, .string (bstr [])], .int .i64 3]) ?h1 rfl ?h2
      case h1 => simp [results, Try.results16, go_sem, *]
      case h2 => exact ⟨_, rfl, LocsAt.nil _ _, below_at (below_at (below_at (below_at p4 (Nat.le_of_eq hG) _ _) (Nat.le_of_eq hG) _ _) (Nat.le_of_eq hG) _ _) (Nat.le_of_eq hG) _ _⟩

set_option maxHeartbeats 2000000 in
theorem pdec_ok (s : List UInt8) (hs : s.length ≤ 140737488351232) (hne : s.isEmpty = false) (n : Nat) (r1 : Rd) (H1 : Hid (Rd.number ⟨s, 0⟩ 1 = ((n : Int), r1))) (hn : 1 ≤ n) (hn2 : n ≤ 2)
    (locs : List Lc) (r2 : Rd) (H2 : Hid (readLocs n r1 = (locs, r2))) (hl1 : r1.s.length ≤ 140737488351232)
    (len : Int) (r3 : Rd) (H3 : Hid (r2.number 2 = (len, r3))) (birth : Int) (r4 : Rd) (H4 : Hid (r3.number 6 = (birth, r4))) (sum : List UInt8) (r5 : Rd) (H5 : Hid (r4.bytes 32 = (sum, r5)))
    (HF : Hid (r5.fin = 0)) (HC : Hid (ckE ⟨locs, len, birth, sum⟩ = 0)) (w : World) :
    Calls Try.prog 16 #[.string (bstr s)] w fun e w' => ∃ v, e = .returned (.tuple #[ptV v ⟨locs, len, birth, sum⟩, .int .i64 0]) ∧ LocsAt w'.heap.size w' v (⟨locs, len, birth, sum⟩ : Pt).locs ∧ Below w.heap.size w w' := by
  obtain ⟨i0, hi0, hz0, hz1, hz2⟩ := info_parts loc_info
  have hs' : (⟨s, 0⟩ : Rd).s.length ≤ 9223372036854775807 := Nat.le_trans hs (by decide)
  go_enter Try.func16, Try.ntmps16
  go_wp2_with fail
  obtain ⟨G, hG⟩ : ∃ g, w.heap.size = g := ⟨_, rfl⟩
  obtain ⟨w0, hw0⟩ : ∃ w0, w.alloc (.cells #[.slice none 0 0, .int .i64 0, .int .i64 0, .string ⟨#[]⟩] 24) = w0 := ⟨_, rfl⟩
  have hb0 : Blk w0 G 24 #[.slice none 0 0, .int .i64 0, .int .i64 0, .string ⟨#[]⟩] := by rw [← hw0, ← hG]; exact Blk.new _ _ _
  have k0 : Below w.heap.size w w0 := by rw [← hw0]; exact (Below.refl _ _).alloc (Nat.le_refl _) _
  have hGg := hb0.lt
  have hwg := k0.size
  have hwG : w.heap.size ≤ G := by omega
  rw [hw0, hG]
  refine (read_any s _).mono ?_
  rintro e w1 ⟨rfl, hr1, b1⟩
  obtain ⟨g, hg⟩ : ∃ g, w0.heap.size = g := ⟨_, rfl⟩
  have st1 : DecSt w G g #[.slice none 0 0, .int .i64 0, .int .i64 0, .string ⟨#[]⟩] ⟨s, 0⟩ w1 := ⟨hb0.below b1 hb0.lt, by rw [← hg]; exact hr1, k0.trans (b1.mono hwg)⟩
  rw [hg] at hGg hwg ⊢
  clear hb0 k0 hw0 b1 hr1 hg
  go_wp2_with fail
  refine (number_to H1.out g w1 st1.hr hs').mono ?_
  rintro e w2 ⟨rfl, hr2, k2⟩
  have st2 := st1.rd hGg hwg hr2 k2
  clear st1 hr2 k2
  go_wp2_with fail
  obtain ⟨P, hP⟩ : ∃ g, w2.heap.size = g := ⟨_, rfl⟩
  obtain ⟨w3, hw3⟩ : ∃ w3, w2.alloc (.cells #[.slice none 0 0, .int .i64 0, .int .i64 0, .string ⟨#[]⟩] 24) = w3 := ⟨_, rfl⟩
  have hgP : g < P := by rw [← hP]; exact st2.hr.lt
  have st3 : LoopSt w G g P (.slice none 0 0) [] r1 w3 := by
    have h3 := st2.below ((Below.refl _ w2).alloc (Nat.le_refl _) (.cells #[.slice none 0 0, .int .i64 0, .int .i64 0, .string ⟨#[]⟩] 24))
    rw [hw3] at h3
    exact ⟨h3.hb, by rw [← hw3, ← hP]; exact Blk.new _ _ _, h3.hr, h3.k, World.ownsRow_nil _ _ _ _⟩
  rw [hw3, hP]
  clear hw3 hP st2
  go_loopw [24] (fun i wr => ∃ j : Nat, j ≤ n ∧ i = .int .i64 j ∧ ∃ v pre rj rest, readLocs (n - j) rj = (rest, r2) ∧ pre ++ rest = locs ∧ pre.length = j ∧ rj.s.length ≤ 140737488351232 ∧ LoopSt w G g P v pre rj wr) (fun i _ => n - (intOf i).toNat)
  case atStart => exact ⟨0, by omega, rfl, _, [], r1, locs, H2.out, rfl, rfl, hl1, st3⟩
  case round =>
    obtain ⟨j, hj, rfl, v, pre, rj, rest, hrl, hpr, hpl, hlj, st⟩ := hrel
    clear st3
    have HPR := Lib.hid hpr
    by_cases hlt : j < n
    · obtain ⟨m, hm⟩ : ∃ m, n - j = m + 1 := ⟨n - j - 1, by omega⟩
      rw [hm, readLocs] at hrl
      have hra := num_len rj 1
      obtain ⟨⟨d, ra⟩, hD⟩ : ∃ x, rj.number 1 = x := ⟨_, rfl⟩
      rw [hD] at hrl hra
      have hrb := num_len ra 2
      obtain ⟨⟨a, rb⟩, hA⟩ : ∃ x, ra.number 2 = x := ⟨_, rfl⟩
      rw [hA] at hrl hrb
      simp only [Prod.mk.injEq] at hrl hra hrb
      have HD := Lib.hid hD
      have HA := Lib.hid hA
      have HRL := Lib.hid hrl
      have hlj' : rj.s.length ≤ 9223372036854775807 := by omega
      have hla' : ra.s.length ≤ 9223372036854775807 := by omega
      have hlb : rb.s.length ≤ 140737488351232 := by omega
      have hfit1 : pre.length + 1 ≤ maxLen := by unfold maxLen; omega
      have hfit2 : (pre.length + 1) * 16 ≤ 140737488355328 := by omega
      have LJ := Lib.hid hlj'
      have LA := Lib.hid hla'
      have LB := Lib.hid hlb
      have F1 := Lib.hid hfit1
      have F2 := Lib.hid hfit2
      have HPL := Lib.hid hpl
      clear hD hA hrl hra hrb hlj hlj' hla' hlb hfit1 hfit2 hpl hpr
      have y0 := st.hb.cell 0
      simp at y0
      go_wp2_with fail
      go_region_law (first
        | (refine step_append_lies _ (by rfl) _ _ _ (by rfl) P 31 i0 _ 2 16 (by kernel_rfl) hi0 hz0 hz1 hz2 rfl (by decide) v pre.length (lcsV pre) rfl (st7.own.alloc _) ⟨w7.heap.size, 0, none⟩ 1 1 (lcV ⟨d, a⟩) rfl rfl (World.news_of_block (Blk.new w7 _ _)) (fun u hu => by simp [lcV] at hu; rcases hu with rfl | rfl <;> rfl) (by decide) F1.out F2.out (by simp; have := st7.hb.lt; omega) _ rfl ?_; intro gn cap w9 hown9 hgrow9 hat9 hlt9; have hb9 := (st7.hb.alloc _).grown hgrow9 (fun e => own_ne st7.own st7.hb (by decide) e.symm); have q0 := hb9.cell 0; have f0 := hb9.frozen 0; simp at q0)
        | (go_simp; go_at_call 28; refine (number_to HA.out g w6 st6.hr LA.out).mono ?_; rintro e w7 ⟨rfl, hr7, k7⟩; have st7 := st6.rd hGg hgP hwG hr7 k7; have v0 := st7.hb.cell 0; simp at v0; have v0a := fun o => alloc_cell v0 st7.hb.lt o; dsimp only)
        | (go_simp; go_at_call 28; refine (number_to HD.out g wr.drew st.hr LJ.out).mono ?_; rintro e w6 ⟨rfl, hr6, k6⟩; have st6 := st.rd hGg hgP hwG hr6 k6.fromDrew; have u0 := st6.hb.cell 0; simp at u0; dsimp only))
      all_goals
        have st8 := (st7.below ((Below.refl _ w7).alloc (Nat.le_refl _) _)).store hGg hgP hwG (v' := .slice (some ⟨gn, 0, none⟩) (pre.length + 1) cap) (pre' := pre ++ [⟨d, a⟩]) (by unfold OwnL; rw [lcsV_snoc, List.length_append]; exact hown9) hgrow9
        go_wp2
        go_round
        case rel => exact ⟨j + 1, by omega, by go_num, _, _, rb, (readLocs m rb).1, by rw [show n - (j + 1) = m by omega, ← HRL.out.2], by rw [← HPR.out, ← HRL.out.1]; simp, by simp [HPL.out], LB.out, st8⟩
        case measure => simp [intOf]; omega
    · obtain rfl : j = n := by omega
      rw [Nat.sub_self, readLocs] at hrl
      simp only [Prod.mk.injEq] at hrl
      obtain ⟨rfl, rfl⟩ := hrl
      rw [List.append_nil] at hpr
      subst hpr
      have LJ : rj.s.length ≤ 9223372036854775807 := by omega
      have hra := num_len rj 2
      rw [H3.out] at hra
      have hrb := num_len r3 6
      rw [H4.out] at hrb
      simp only at hra hrb
      have L3 : r3.s.length ≤ 9223372036854775807 := by omega
      have L4 : r4.s.length ≤ 9223372036854775807 := by omega
      have LJ := Lib.hid LJ
      have L3 := Lib.hid L3
      have L4 := Lib.hid L4
      have HPL := Lib.hid hpl
      clear hlj hra hrb hpl HPR
      go_wp2_with fail
      refine (number_to H3.out g wr st.hr LJ.out).mono ?_
      rintro e w6 ⟨rfl, hr6, k6⟩
      have st6 := st.rd hGg hgP hwG hr6 k6
      clear st hr6 k6
      go_wp2_with fail
      refine (number_to H4.out g w6 st6.hr L3.out).mono ?_
      rintro e w7 ⟨rfl, hr7, k7⟩
      have st7 := st6.rd hGg hgP hwG hr7 k7
      clear st6 hr7 k7
      go_wp2_with fail
      refine (bytes_to H5.out g w7 st7.hr L4.out).mono ?_
      rintro e w8 ⟨rfl, hr8, k8⟩
      have st8 := st7.rd hGg hgP hwG hr8 k8
      clear st7 hr8 k8
      have y0 := st8.hb.cell 0
      have y1 := st8.hb.cell 1
      have y2 := st8.hb.cell 2
      have y3 := st8.hb.cell 3
      have f1 := st8.hb.frozen 1
      have f2 := st8.hb.frozen 2
      have f3 := st8.hb.frozen 3
      simp at y0 y1 y2 y3
      go_wp2_with fail
      have p1 := (((st8.hb.set_ 1 (.int .i64 len)).set_ 2 (.int .i64 birth)).set_ 3 (.string (bstr sum)))
      have p2 : Blk (((w8.setCell ⟨P, 1, none⟩ (.int .i64 len)).setCell ⟨P, 2, none⟩ (.int .i64 birth)).setCell ⟨P, 3, none⟩ (.string (bstr sum))) G 24 #[.slice none 0 0, .int .i64 0, .int .i64 0, .string ⟨#[]⟩] :=
        ((st8.hG.far (p := ⟨P, 1, none⟩) (by show G ≠ P; omega) _).far (p := ⟨P, 2, none⟩) (by show G ≠ P; omega) _).far (p := ⟨P, 3, none⟩) (by show G ≠ P; omega) _
      have p3 : RdAt (((w8.setCell ⟨P, 1, none⟩ (.int .i64 len)).setCell ⟨P, 2, none⟩ (.int .i64 birth)).setCell ⟨P, 3, none⟩ (.string (bstr sum))) g r5 :=
        Blk.far (p := ⟨P, 3, none⟩) (Blk.far (p := ⟨P, 2, none⟩) (Blk.far (p := ⟨P, 1, none⟩) st8.hr (by show g ≠ P; omega) _) (by show g ≠ P; omega) _) (by show g ≠ P; omega) _
      have hwP : w.heap.size ≤ P := by omega
      have p4 : Below w.heap.size w (((w8.setCell ⟨P, 1, none⟩ (.int .i64 len)).setCell ⟨P, 2, none⟩ (.int .i64 birth)).setCell ⟨P, 3, none⟩ (.string (bstr sum))) := below_at (below_at (below_at st8.k hwP _ _) hwP _ _) hwP _ _
      have o1 := own_ne st8.own st8.hb (by decide)
      have p5 : OwnL P (((w8.setCell ⟨P, 1, none⟩ (.int .i64 len)).setCell ⟨P, 2, none⟩ (.int .i64 birth)).setCell ⟨P, 3, none⟩ (.string (bstr sum))) v pre := own_set (own_set (own_set st8.own o1 _) o1 _) o1 _
      simp at p1
      obtain ⟨w9, hw9⟩ : ∃ w9, ((w8.setCell ⟨P, 1, none⟩ (.int .i64 len)).setCell ⟨P, 2, none⟩ (.int .i64 birth)).setCell ⟨P, 3, none⟩ (.string (bstr sum)) = w9 := ⟨_, rfl⟩
      rw [hw9] at p1 p2 p3 p4 p5 ⊢
      clear hw9 y0 y1 y2 y3 f1 f2 f3 st8 o1
      refine (end_to HF.out g w9 p3).mono ?_
      rintro e _ ⟨rfl, rfl⟩
      obtain ⟨Av, cv, rfl, hcv, hcv2⟩ := p5.locs.form
      have c0 := p1.cell 0
      have c1 := p1.cell 1
      have c2 := p1.cell 2
      have c3 := p1.cell 3
      simp at c0 c1 c2 c3
      go_wp2_with fail
      refine (check_to HC.out w9.heap.size w9 p5.locs (Nat.le_refl _)).mono ?_
      rintro e w10 ⟨rfl, b10⟩
      replace p1 := p1.below b10 p1.lt
      replace p2 := p2.below b10 p2.lt
      replace p4 := p4.trans (b10.mono p4.size)
      replace p5 := own_below p5 b10
      clear c0 c1 c2 c3 p3
      have c0 := p1.cell 0
      have c1 := p1.cell 1
      have c2 := p1.cell 2
      have c3 := p1.cell 3
      simp at c0 c1 c2 c3
      have q0 := p2.cell 0
      have q1 := p2.cell 1
      have q2 := p2.cell 2
      have q3 := p2.cell 3
      have g0 := p2.frozen 0
      have g1 := p2.frozen 1
      have g2 := p2.frozen 2
      have g3 := p2.frozen 3
      simp at q0 q1 q2 q3
      go_wp2
      refine bodyPost_ret (v := .tuple #[.agg #[.slice Av pre.length cv, .int .i64 len, .int .i64 birth, .string (bstr sum)], .int .i64 0]) ?h1 rfl ?h2
      case h1 => simp [results, Try.results16, go_sem, *]
      case h2 => exact ⟨_, rfl, OwnL.locs (own_set (own_set (own_set (own_set p5 (own_ne p5 p2 (by decide)) _) (own_ne p5 p2 (by decide)) _) (own_ne p5 p2 (by decide)) _) (own_ne p5 p2 (by decide)) _), below_at (below_at (below_at (below_at p4 (Nat.le_of_eq hG) _ _) (Nat.le_of_eq hG) _ _) (Nat.le_of_eq hG) _ _) (Nat.le_of_eq hG) _ _⟩

end Go.Proofs.Ytnjbhooogfonbaa
