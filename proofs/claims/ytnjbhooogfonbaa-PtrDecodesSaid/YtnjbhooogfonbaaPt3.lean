/- The reference's Check of a pointer. -/
import Derived.Test.YtnjbhooogfonbaaPt2
namespace Go.Proofs.Ytnjbhooogfonbaa
open Go.RowKit
set_option linter.unusedSimpArgs false
set_option linter.unnecessarySimpa false
set_option linter.unusedVariables false

theorem checkE_bad {l : List Lc} {len birth : Int} {sum : List UInt8} (h : (l.length : Int) < 1 ∨ 2 < (l.length : Int) ∨ len < 0 ∨ 960 < len ∨ birth < 0 ∨ 1099511627776 < birth ∨ sum.length ≠ 32) :
    checkE l len birth sum = 1 := by
  unfold checkE
  rw [if_pos]
  generalize l.any badLoc = a
  generalize same2 l = b
  rcases h with h | h | h | h | h | h | h
  · have : l.length < 1 := by omega
    simp [this]
  · have : 2 < l.length := by omega
    simp [this]
  · have : inI len 960 = false := by simp [inI]; omega
    simp [this]
  · have : inI len 960 = false := by simp [inI]; omega
    simp [this]
  · have : inI birth 1099511627776 = false := by simp [inI]; omega
    simp [this]
  · have : inI birth 1099511627776 = false := by simp [inI]; omega
    simp [this]
  · simp [h]
theorem checkE_loc {l : List Lc} {len birth : Int} {sum : List UInt8} (h : l.any badLoc = true) : checkE l len birth sum = 1 := by
  unfold checkE; rw [if_pos (by simp [h])]
theorem checkE_two {l : List Lc} {len birth : Int} {sum : List UInt8} (h : same2 l = true) : checkE l len birth sum = 1 := by
  unfold checkE; rw [if_pos (by simp [h])]
theorem checkE_ok {l : List Lc} {len birth : Int} {sum : List UInt8} (h1 : l.any badLoc = false) (h2 : 1 ≤ (l.length : Int)) (h3 : (l.length : Int) ≤ 2) (h4 : same2 l = false) (h5 : 0 ≤ len) (h6 : len ≤ 960) (h7 : 0 ≤ birth) (h8 : birth ≤ 1099511627776) (h9 : sum.length = 32) :
    checkE l len birth sum = 0 := by
  unfold checkE
  have e1 : ¬ l.length < 1 := by omega
  have e2 : ¬ 2 < l.length := by omega
  have e3 : inI len 960 = true := by simp [inI]; omega
  have e4 : inI birth 1099511627776 = true := by simp [inI]; omega
  rw [if_neg]
  simp only [h1, h4, e1, e2, e3, e4, h9]
  decide
theorem badLoc_eq (x : Lc) : badLoc x = (decide (x.dev < 0) || decide (1 < x.dev) || decide (x.pos < 0) || decide (511 < x.pos)) := by
  rw [Bool.eq_iff_iff]
  simp [badLoc, inI]
  omega

set_option maxHeartbeats 2000000 in
theorem rcheck_any (v : Value) (p : Pt) (B : Nat) (w : World) (hv : LocsAt B w v p.locs) (hB : B ≤ w.heap.size) :
    Calls Try.prog 14 #[ptV v p] w fun e w' => e = .returned (.int .i64 (checkE p.locs p.len p.birth p.sum)) ∧ Below w.heap.size w w' := by
  obtain ⟨l, len, birth, sum⟩ := p
  obtain ⟨A, c, rfl, hc, hm⟩ := hv.form
  simp only
  by_cases h9 : sum.length = 32
  · have h9b : ((sum.length : Int) == 32) = true := by simp [h9]
    have h9c : ((sum.length : Int) != 32) = false := by simp [h9]
    go_enter Try.func14, Try.ntmps14
    go_wp2_with fail
    all_goals try (go_ret; exact ⟨ret_int (checkE_bad (by omega)).symm, (Below.refl _ _).alloc (Nat.le_refl _) _⟩)
    have H1 : 1 ≤ (l.length : Int) := by omega
    have H2 : (l.length : Int) ≤ 2 := by omega
    have H3 : 0 ≤ len := by omega
    have H4 : len ≤ 960 := by omega
    have H5 : 0 ≤ birth := by omega
    have H6 : birth ≤ 1099511627776 := by omega
    go_loopw [3] (fun i wr => ∃ k : Nat, k ≤ l.length ∧ i = .int .i64 k ∧ (l.take k).any badLoc = false ∧ (k = 2 → same2 l = false) ∧ Blk wr w.heap.size 24 #[.slice A l.length c, .int .i64 len, .int .i64 birth, .string (bstr sum)] ∧ Below w.heap.size w wr) (fun i _ => l.length - (intOf i).toNat)
    case atStart => exact ⟨0, by omega, rfl, rfl, by omega, Blk.new _ _ _, (Below.refl _ _).alloc (Nat.le_refl _) _⟩
    case round =>
      obtain ⟨k, hk, rfl, htk, hk2, hb, hbel⟩ := hrel
      have HT := Lib.hid htk
      have HK := Lib.hid hk2
      clear htk hk2
      have hv2 := hv.keep (hbel.mono hB) (Nat.le_refl _)
      have hsz := hbel.size
      have c0 := hb.cell 0
      simp at c0
      by_cases hlt : k < l.length
      · obtain ⟨ad, rfl, had, hx, hy⟩ := hv2.get k hlt
        by_cases t0 : l[k].dev < 0
        · have b0 : decide (l[k].dev < 0) = true := decide_eq_true t0
          go_wp2_with fail
          go_quiet ((fail))
          go_wp2_with fail
          go_ret
          have hq : badLoc l[k] = true := by simp [badLoc_eq, t0]
          exact ⟨ret_int (checkE_loc (any_at hlt hq)).symm, (hbel.alloc hsz _).dN _⟩
        · have b0 : decide (l[k].dev < 0) = false := decide_eq_false t0
          by_cases t1 : 1 < l[k].dev
          · have b1 : decide (1 < l[k].dev) = true := decide_eq_true t1
            go_wp2_with fail
            go_quiet ((fail))
            go_wp2_with fail
            go_ret
            have hq : badLoc l[k] = true := by simp [badLoc_eq, t1]
            exact ⟨ret_int (checkE_loc (any_at hlt hq)).symm, (hbel.alloc hsz _).dN _⟩
          · have b1 : decide (1 < l[k].dev) = false := decide_eq_false t1
            by_cases t2 : l[k].pos < 0
            · have b2 : decide (l[k].pos < 0) = true := decide_eq_true t2
              go_wp2_with fail
              go_quiet ((fail))
              go_wp2_with fail
              go_ret
              have hq : badLoc l[k] = true := by simp [badLoc_eq, t2]
              exact ⟨ret_int (checkE_loc (any_at hlt hq)).symm, (hbel.alloc hsz _).dN _⟩
            · have b2 : decide (l[k].pos < 0) = false := decide_eq_false t2
              by_cases t3 : 511 < l[k].pos
              · have b3 : decide (511 < l[k].pos) = true := decide_eq_true t3
                go_wp2_with fail
                go_quiet ((fail))
                go_wp2_with fail
                go_ret
                have hq : badLoc l[k] = true := by simp [badLoc_eq, t3]
                exact ⟨ret_int (checkE_loc (any_at hlt hq)).symm, (hbel.alloc hsz _).dN _⟩
              · have b3 : decide (511 < l[k].pos) = false := decide_eq_false t3
                have hq : badLoc l[k] = false := by simp [badLoc_eq, t0, t1, t2, t3]
                by_cases t4 : k = 1
                · have b4 : ((k : Int) == 1) = true := by subst t4; rfl
                  have T4 := Lib.hid t4
                  clear t4
                  obtain ⟨ad2, e2, had2, hx2, hy2⟩ := hv2.get 0 (by omega)
                  obtain rfl : ad = ad2 := by simpa using e2
                  have hx0 : ∀ o, (wr.alloc o).cell? ad = some (.int .i64 l[0].dev) := fun o => (((Below.refl _ wr).alloc (Nat.le_refl _) o).cell (p := ad) (by omega)).trans hx2
                  have c0a : ∀ o, (wr.alloc o).cell? ⟨w.heap.size, 0, none⟩ = some (.slice (some ad) l.length c) := fun o => alloc_cell c0 hb.lt o
                  clear hx2 hy2 e2
                  by_cases t5 : l[k].dev = l[0].dev
                  · have b5 : (l[k].dev == l[0].dev) = true := by simp [t5]
                    have T5 := Lib.hid t5
                    clear t5
                    go_wp2_with fail
                    go_quiet ((fail))
                    go_wp2_with fail
                    go_ret
                    have hs : same2 l = true := by
                      obtain rfl := T4.out
                      rcases l with _ | ⟨x, _ | ⟨y, _ | ⟨z, l⟩⟩⟩
                      · simp at hlt
                      · simp at hlt
                      · simp [same2]; simpa using T5.out.symm
                      · simp at H2; omega
                    exact ⟨ret_int (checkE_two hs).symm, (hbel.alloc hsz _).dN _⟩
                  · have b5 : (l[k].dev == l[0].dev) = false := by simp [t5]
                    go_wp2_with fail
                    go_quiet ((fail))
                    go_wp2_with fail
                    have hs : same2 l = false := by
                      obtain rfl := T4.out
                      rcases l with _ | ⟨x, _ | ⟨y, _ | ⟨z, l⟩⟩⟩
                      · simp at hlt
                      · simp at hlt
                      · simp [same2]; intro h; exact t5 (by simpa using h.symm)
                      · simp at H2; omega
                    go_round
                    case rel => exact ⟨k + 1, by omega, by go_num, any_snoc hlt HT.out hq, fun _ => hs, (hb.alloc _).drewN _, (hbel.alloc hsz _).dN _⟩
                    case measure => simp [intOf]; omega
                · have b4 : ((k : Int) == 1) = false := by simp; omega
                  go_wp2_with fail
                  go_quiet ((fail))
                  go_wp2_with fail
                  go_round
                  case rel => exact ⟨k + 1, by omega, by go_num, any_snoc hlt HT.out hq, fun e => absurd e (by omega), (hb.alloc _).drewN _, (hbel.alloc hsz _).dN _⟩
                  case measure => simp [intOf]; omega
      · obtain rfl : k = l.length := by omega
        go_wp2
        go_ret
        have hh := HT.out
        rw [List.take_length] at hh
        have h2 : same2 l = false := by
          rcases l with _ | ⟨x, _ | ⟨y, _ | ⟨z, l⟩⟩⟩
          · rfl
          · rfl
          · exact HK.out rfl
          · rfl
        exact ⟨ret_int (checkE_ok hh H1 H2 h2 H3 H4 H5 H6 h9).symm, hbel⟩
  · have h9b : ((sum.length : Int) == 32) = false := by simp; omega
    have h9c : ((sum.length : Int) != 32) = true := by simp; omega
    go_enter Try.func14, Try.ntmps14
    go_wp2_with fail
    all_goals
      go_ret
      exact ⟨ret_int (checkE_bad (by omega)).symm, (Below.refl _ _).alloc (Nat.le_refl _) _⟩

end Go.Proofs.Ytnjbhooogfonbaa
