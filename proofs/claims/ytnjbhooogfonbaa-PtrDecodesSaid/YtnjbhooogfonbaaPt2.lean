/- Contracts of slices.Equal, slices.ContainsFunc, On, Same, and of the reference's Locs, Check, Same. -/
import Derived.Test.YtnjbhooogfonbaaPt
namespace Go.Proofs.Ytnjbhooogfonbaa
open Go.RowKit
set_option linter.unusedSimpArgs false
set_option linter.unnecessarySimpa false
set_option linter.unusedVariables false

theorem drewN_zero (w : World) : w = w.drewN 0 := rfl
theorem below_dN (w : World) (n : Nat) : Below w.heap.size w (w.drewN n) := (Below.refl _ _).dN n
theorem drewN_drewN (w : World) (a b : Nat) : (w.drewN a).drewN b = w.drewN (a + b) := by simp [World.drewN, Nat.add_assoc]
theorem lc_eq (a b : Lc) : a = b ↔ a.dev = b.dev ∧ a.pos = b.pos := by
  cases a; cases b; simp
theorem take_eq_snoc {l m : List Lc} {k : Nat} (hl : k < l.length) (hm : k < m.length) (h : l.take k = m.take k) (h2 : l[k] = m[k]) : l.take (k + 1) = m.take (k + 1) := by
  rw [List.take_succ_eq_append_getElem hl, List.take_succ_eq_append_getElem hm, h, h2]

set_option maxHeartbeats 1000000 in
theorem equal_any (v u : Value) (l m : List Lc) (B C : Nat) (w : World) (hv : LocsAt B w v l) (hu : LocsAt C w u m) :
    Calls Try.prog 35 #[v, u] w fun e w' => e = .returned (.bool (decide (l = m))) ∧ ∃ n, w' = w.drewN n := by
  obtain ⟨A, c, rfl, hc, hm⟩ := hv.form
  obtain ⟨A', c', rfl, hc', hm'⟩ := hu.form
  go_enter Try.func35, Try.ntmps35
  go_wp2_with fail
  · have hne : l ≠ m := by rintro rfl; simp_all
    go_ret
    exact ⟨ret_bool (by simp [hne]), 0, rfl⟩
  · rename_i hlen K hK
    have hlen' : l.length = m.length := by have h : (l.length : Int) = m.length := (by simpa using hlen); omega
    go_loopw [13] (fun i wr => ∃ k : Nat, k ≤ l.length ∧ i = .int .i64 k ∧ l.take k = m.take k ∧ ∃ n, wr = w.drewN n) (fun i _ => l.length - (intOf i).toNat)
    case atStart => exact ⟨0, by omega, rfl, rfl, 0, rfl⟩
    case round =>
      obtain ⟨k, hk, rfl, htk, nn, rfl⟩ := hrel
      by_cases hlt : k < l.length
      · have hltm : k < m.length := by omega
        obtain ⟨ad, rfl, had, hx, hy⟩ := hv.get k hlt
        obtain ⟨ad', rfl, had', hx', hy'⟩ := hu.get k hltm
        by_cases e1 : l[k].dev = m[k].dev
        · by_cases e2 : l[k].pos = m[k].pos
          · have e : l[k] = m[k] := (lc_eq _ _).2 ⟨e1, e2⟩
            go_wp2_with fail
            go_quiet ((fail))
            go_wp2_with fail
            go_round
            case rel => exact ⟨k + 1, by omega, by go_num, take_eq_snoc hlt hltm htk e, _, rfl⟩
            case measure => simp [intOf]; omega
          · have hne : l ≠ m := by rintro rfl; exact e2 rfl
            go_wp2_with fail
            go_quiet ((fail))
            go_wp2_with fail
            go_ret
            exact ⟨ret_bool (by simp [hne]), _, drewN_drewN _ _ _⟩
        · have hne : l ≠ m := by rintro rfl; exact e1 rfl
          go_wp2_with fail
          go_quiet ((fail))
          go_wp2_with fail
          go_ret
          exact ⟨ret_bool (by simp [hne]), _, drewN_drewN _ _ _⟩
      · obtain rfl : k = l.length := by omega
        go_wp2
        go_ret
        rw [List.take_length, hlen', List.take_length] at htk
        exact ⟨ret_bool (by simp [htk]), nn, rfl⟩

set_option maxHeartbeats 1000000 in
theorem rlocs_any (v u : Value) (l m : List Lc) (B C : Nat) (w : World) (hv : LocsAt B w v l) (hu : LocsAt C w u m) :
    Calls Try.prog 34 #[v, u] w fun e w' => e = .returned (.bool (decide (l = m))) ∧ ∃ n, w' = w.drewN n := by
  obtain ⟨A, c, rfl, hc, hm⟩ := hv.form
  obtain ⟨A', c', rfl, hc', hm'⟩ := hu.form
  go_enter Try.func34, Try.ntmps34
  go_wp2_with fail
  · have hne : l ≠ m := by rintro rfl; simp_all
    go_ret
    exact ⟨ret_bool (by simp [hne]), 0, rfl⟩
  · rename_i hlen K hK
    have hlen' : l.length = m.length := by have h : (l.length : Int) = m.length := (by simpa using hlen); omega
    go_loopw [5] (fun i wr => ∃ k : Nat, k ≤ l.length ∧ i = .int .i64 k ∧ l.take k = m.take k ∧ ∃ n, wr = w.drewN n) (fun i _ => l.length - (intOf i).toNat)
    case atStart => exact ⟨0, by omega, rfl, rfl, 0, rfl⟩
    case round =>
      obtain ⟨k, hk, rfl, htk, nn, rfl⟩ := hrel
      by_cases hlt : k < l.length
      · have hltm : k < m.length := by omega
        obtain ⟨ad, rfl, had, hx, hy⟩ := hv.get k hlt
        obtain ⟨ad', rfl, had', hx', hy'⟩ := hu.get k hltm
        by_cases e1 : l[k].dev = m[k].dev
        · by_cases e2 : l[k].pos = m[k].pos
          · have e : l[k] = m[k] := (lc_eq _ _).2 ⟨e1, e2⟩
            go_wp2_with fail
            go_quiet ((fail))
            go_wp2_with fail
            go_round
            case rel => exact ⟨k + 1, by omega, by go_num, take_eq_snoc hlt hltm htk e, _, rfl⟩
            case measure => simp [intOf]; omega
          · have hne : l ≠ m := by rintro rfl; exact e2 rfl
            go_wp2_with fail
            go_quiet ((fail))
            go_wp2_with fail
            go_ret
            exact ⟨ret_bool (by simp [hne]), _, drewN_drewN _ _ _⟩
        · have hne : l ≠ m := by rintro rfl; exact e1 rfl
          go_wp2_with fail
          go_quiet ((fail))
          go_wp2_with fail
          go_ret
          exact ⟨ret_bool (by simp [hne]), _, drewN_drewN _ _ _⟩
      · obtain rfl : k = l.length := by omega
        go_wp2
        go_ret
        rw [List.take_length, hlen', List.take_length] at htk
        exact ⟨ret_bool (by simp [htk]), nn, rfl⟩

theorem alloc_cell {w : World} {g i : Nat} {u : Value} (h : w.cell? ⟨g, i, none⟩ = some u) (hg : g < w.heap.size) (o : Obj) : (w.alloc o).cell? ⟨g, i, none⟩ = some u := by
  rw [(((Below.refl w.heap.size w).alloc (Nat.le_refl _) o).cell (p := ⟨g, i, none⟩) hg)]; exact h
set_option maxHeartbeats 1000000 in
theorem onf_any (g : Nat) (dev a b : Int) (w : World) (hg : w.cell? ⟨g, 0, none⟩ = some (.int .i64 dev)) (hgl : g < w.heap.size) :
    Calls Try.prog 26 #[.agg #[.int .i64 a, .int .i64 b], .pointer (some ⟨g, 0, none⟩)] w fun e w' => e = .returned (.bool (a == dev)) ∧ Below w.heap.size w w' := by
  have hg1 := alloc_cell hg hgl (.cells #[.int .i64 a, .int .i64 b] 31)
  go_enter Try.func26, Try.ntmps26
  go_wp2
  go_ret
  exact ⟨rfl, (Below.refl _ _).alloc (Nat.le_refl _) _⟩

set_option maxHeartbeats 1000000 in
theorem idxf_any (v : Value) (l : List Lc) (g : Nat) (dev : Int) (B : Nat) (w : World) (hv : LocsAt B w v l) (hB : B ≤ w.heap.size) (hg : w.cell? ⟨g, 0, none⟩ = some (.int .i64 dev)) (hgl : g < w.heap.size) :
    Calls Try.prog 39 #[v, .func (.func 26) #[] #[.pointer (some ⟨g, 0, none⟩)]] w fun e w' => (∃ i : Int, e = .returned (.int .i64 i) ∧ decide (0 ≤ i) = l.any fun x => x.dev == dev) ∧ Below w.heap.size w w' := by
  obtain ⟨A, c, rfl, hc, hm⟩ := hv.form
  go_enter Try.func39, Try.ntmps39
  go_wp2_with fail
  go_loopw [8] (fun i wr => ∃ k : Nat, k ≤ l.length ∧ i = .int .i64 k ∧ ((l.take k).any fun x => x.dev == dev) = false ∧ Below w.heap.size w wr) (fun i _ => l.length - (intOf i).toNat)
  case atStart => exact ⟨0, by omega, rfl, rfl, Below.refl _ _⟩
  case round =>
    obtain ⟨k, hk, rfl, htk, hbel⟩ := hrel
    have HT := Lib.hid htk
    clear htk
    have hv2 := hv.keep (hbel.mono hB) (Nat.le_refl _)
    have hg2 := (hbel.cell (p := ⟨g, 0, none⟩) hgl).trans hg
    have hsz := hbel.size
    by_cases hlt : k < l.length
    · obtain ⟨ad, rfl, had, hx, hy⟩ := hv2.get k hlt
      go_wp2_with fail
      refine (onf_any g dev _ _ _ hg2 (by omega)).mono ?_
      rintro e w1 ⟨rfl, b1⟩
      by_cases e1 : l[k].dev = dev
      · have e2 : (l[k].dev == dev) = true := by simp [e1]
        go_wp2
        go_ret
        exact ⟨⟨k, rfl, by rw [any_at hlt e2]; simp⟩, hbel.trans (b1.mono hsz)⟩
      · have e2 : (l[k].dev == dev) = false := by simp [e1]
        go_wp2
        go_round
        case rel => exact ⟨k + 1, by omega, by go_num, any_snoc hlt HT.out e2, hbel.trans (b1.mono hsz)⟩
        case measure => simp [intOf]; omega
    · obtain rfl : k = l.length := by omega
      go_wp2
      go_ret
      have hh := HT.out
      rw [List.take_length] at hh
      exact ⟨⟨-1, rfl, by rw [hh]; rfl⟩, hbel⟩

set_option maxHeartbeats 1000000 in
theorem contf_any (v : Value) (l : List Lc) (g : Nat) (dev : Int) (B : Nat) (w : World) (hv : LocsAt B w v l) (hB : B ≤ w.heap.size) (hg : w.cell? ⟨g, 0, none⟩ = some (.int .i64 dev)) (hgl : g < w.heap.size) :
    Calls Try.prog 25 #[v, .func (.func 26) #[] #[.pointer (some ⟨g, 0, none⟩)]] w fun e w' => e = .returned (.bool (l.any fun x => x.dev == dev)) ∧ Below w.heap.size w w' := by
  go_enter Try.func25, Try.ntmps25
  go_wp2_with fail
  refine (idxf_any v l g dev B _ hv hB hg hgl).mono ?_
  rintro e w1 ⟨⟨i, rfl, hi⟩, b1⟩
  go_wp2
  go_ret
  exact ⟨by first | rfl | exact ret_bool hi, b1⟩

set_option maxHeartbeats 1000000 in
theorem on_any (v : Value) (l : List Lc) (len birth dev : Int) (sum : List UInt8) (B : Nat) (w : World) (hv : LocsAt B w v l) (hB : B ≤ w.heap.size) :
    Calls Try.prog 15 #[.agg #[v, .int .i64 len, .int .i64 birth, .string (bstr sum)], .int .i64 dev] w fun e w' => e = .returned (.bool (l.any fun x => x.dev == dev)) ∧ Below w.heap.size w w' := by
  obtain ⟨A, c, rfl, hc, hm⟩ := hv.form
  go_enter Try.func15, Try.ntmps15
  go_wp2_with fail
  have hb : Below w.heap.size w ((w.alloc (.cells #[.slice A l.length c, .int .i64 len, .int .i64 birth, .string (bstr sum)] 24)).alloc (.cells #[.int .i64 dev] 3)) := ((Below.refl _ _).alloc (Nat.le_refl _) _).alloc (by simp) _
  refine (contf_any _ l (w.heap.size + 1) dev B _ (hv.keep (hb.mono hB) (Nat.le_refl _)) (by simp; omega) (by simp [go_sem]) (by simp)).mono ?_
  rintro e w1 ⟨rfl, b1⟩
  go_wp2
  go_ret
  exact ⟨rfl, hb.trans (b1.mono (by simp; omega))⟩

/-- a pointer -/
structure Pt where
  locs : List Lc
  len : Int
  birth : Int
  sum : List UInt8
deriving DecidableEq
theorem pt_eq (a b : Pt) : a = b ↔ a.locs = b.locs ∧ a.len = b.len ∧ a.birth = b.birth ∧ a.sum = b.sum := by
  cases a; cases b; simp
abbrev ptV (v : Value) (p : Pt) : Value := .agg #[v, .int .i64 p.len, .int .i64 p.birth, .string (bstr p.sum)]

set_option maxHeartbeats 2000000 in
theorem same_any (v u : Value) (p q : Pt) (B C : Nat) (w : World) (hv : LocsAt B w v p.locs) (hB : B ≤ w.heap.size) (hu : LocsAt C w u q.locs) (hC : C ≤ w.heap.size) :
    Calls Try.prog 19 #[ptV v p, ptV u q] w fun e w' => e = .returned (.bool (decide (p = q))) ∧ Below w.heap.size w w' := by
  obtain ⟨l, len, birth, sum⟩ := p
  obtain ⟨m, len2, birth2, sum2⟩ := q
  obtain ⟨A, c, rfl, hc, hm⟩ := hv.form
  obtain ⟨A', c', rfl, hc', hm'⟩ := hu.form
  go_enter Try.func19, Try.ntmps19
  go_wp2_with fail
  have hb : Below w.heap.size w ((w.alloc (.cells #[.slice A l.length c, .int .i64 len, .int .i64 birth, .string (bstr sum)] 24)).alloc (.cells #[.slice A' m.length c', .int .i64 len2, .int .i64 birth2, .string (bstr sum2)] 24)) := ((Below.refl _ _).alloc (Nat.le_refl _) _).alloc (by simp) _
  refine (equal_any _ _ l m B C _ (hv.keep (hb.mono hB) (Nat.le_refl _)) (hu.keep (hb.mono hC) (Nat.le_refl _))).mono ?_
  rintro e w1 ⟨rfl, n, rfl⟩
  go_wp2
  all_goals go_ret
  all_goals exact ⟨ret_bool (by first | (simp_all [pt_eq]; done) | (rw [Bool.eq_iff_iff]; simp_all [pt_eq]; done)), (((Below.refl _ _).alloc (Nat.le_refl _) _).alloc (by simp) _).dN n⟩

set_option maxHeartbeats 2000000 in
theorem rsame_any (v u : Value) (p q : Pt) (B C : Nat) (w : World) (hv : LocsAt B w v p.locs) (hB : B ≤ w.heap.size) (hu : LocsAt C w u q.locs) (hC : C ≤ w.heap.size) :
    Calls Try.prog 18 #[ptV v p, ptV u q] w fun e w' => e = .returned (.bool (decide (p = q))) ∧ Below w.heap.size w w' := by
  obtain ⟨l, len, birth, sum⟩ := p
  obtain ⟨m, len2, birth2, sum2⟩ := q
  obtain ⟨A, c, rfl, hc, hm⟩ := hv.form
  obtain ⟨A', c', rfl, hc', hm'⟩ := hu.form
  go_enter Try.func18, Try.ntmps18
  go_wp2_with fail
  have hb : Below w.heap.size w ((w.alloc (.cells #[.slice A l.length c, .int .i64 len, .int .i64 birth, .string (bstr sum)] 24)).alloc (.cells #[.slice A' m.length c', .int .i64 len2, .int .i64 birth2, .string (bstr sum2)] 24)) := ((Below.refl _ _).alloc (Nat.le_refl _) _).alloc (by simp) _
  refine (rlocs_any _ _ l m B C _ (hv.keep (hb.mono hB) (Nat.le_refl _)) (hu.keep (hb.mono hC) (Nat.le_refl _))).mono ?_
  rintro e w1 ⟨rfl, n, rfl⟩
  go_wp2
  all_goals go_ret
  all_goals exact ⟨ret_bool (by first | (simp_all [pt_eq]; done) | (rw [Bool.eq_iff_iff]; simp_all [pt_eq]; done)), (((Below.refl _ _).alloc (Nat.le_refl _) _).alloc (by simp) _).dN n⟩

end Go.Proofs.Ytnjbhooogfonbaa
