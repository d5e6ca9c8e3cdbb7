/- The walk of the law FixedBack: it returns true at every input, and writes to nothing that was there. No condition but that numbers fit their kind. -/
import Derived.Test.YtpjkkhciokheiaaLaws01
import Derived.Test.YtpjkkhciokheiaaLaws01b
namespace Go.Proofs.Ytpjkkhciokheiaa
open Go.RowKit
set_option linter.unusedSimpArgs false
set_option linter.unusedVariables false

theorem SlAt.form {T : Type} {B : Nat} {w : World} {R : List Value → T → Prop} {size : Nat} {v : Value} {l : List T} (h : SlAt B w R size [v] l) :
    ∃ A c, v = .slice A l.length c ∧ l.length ≤ c ∧ c ≤ 9223372036854775807 := by
  obtain ⟨A, n, c, e, rfl, h1, h2, _⟩ := h
  simp at e
  exact ⟨A, c, e, h1, h2⟩
theorem SlAt.at1 {T : Type} {B : Nat} {w : World} {R : List Value → T → Prop} {A : Option Addr} {n c : Nat} {l : List T} (h : SlAt B w R 1 [.slice A n c] l) (k : Nat) (hk : k < l.length) :
    ∃ ad u, A = some ad ∧ ad.block < B ∧ R [u] l[k] ∧ w.cell? (ad.add k) = some u := by
  obtain ⟨A', n', c', e, rfl, h1, h2, h3⟩ := h
  simp at e
  obtain ⟨rfl, rfl, rfl⟩ := e
  obtain ⟨ad, rfl, hb, hx⟩ := h3 (by omega)
  obtain ⟨es, hl, hr, hc⟩ := hx k l[k] (List.getElem?_eq_getElem hk)
  match es, hl with
  | [u], _ => exact ⟨ad, u, rfl, hb, hr, by simpa using hc 0 u rfl⟩

def catN (l : List Int) (wd : Int) : List UInt8 := (l.map fun n => putL n wd).flatten
def catT (l : List (List UInt8)) (wd : Int) : List UInt8 := (l.map fun s => textL s wd).flatten
theorem catN_snoc (l : List Int) (wd : Int) (k : Nat) (hk : k < l.length) : catN (l.take (k + 1)) wd = catN (l.take k) wd ++ putL l[k] wd := by
  unfold catN
  rw [List.take_succ_eq_append_getElem hk, List.map_append, List.flatten_append]
  simp
theorem catN_len (l : List Int) (wd : Int) : (catN l wd).length ≤ 7 * l.length := by
  induction l with
  | nil => simp [catN]
  | cons n l ih =>
    have := putL_len n wd
    simp only [catN, List.map_cons, List.flatten_cons, List.length_append, List.length_cons] at ih ⊢
    omega

theorem catT_snoc (l : List (List UInt8)) (wd : Int) (k : Nat) (hk : k < l.length) : catT (l.take (k + 1)) wd = catT (l.take k) wd ++ textL l[k] wd := by
  unfold catT
  rw [List.take_succ_eq_append_getElem hk, List.map_append, List.flatten_append]
  simp
theorem textL_len (s : List UInt8) (wd : Int) : (textL s wd).length ≤ 7 + s.length := by
  unfold textL
  have := putL_len s.length wd
  split
  · simp
  · simp; omega
theorem catT_len (l : List (List UInt8)) (wd : Int) (h : ∀ x ∈ l, x.length ≤ 100) : (catT l wd).length ≤ 107 * l.length := by
  induction l with
  | nil => simp [catT]
  | cons n l ih =>
    have h1 := textL_len n wd
    have h2 := h n (by simp)
    have h3 := ih (fun x hx => h x (by simp [hx]))
    simp only [catT, List.map_cons, List.flatten_cons, List.length_append, List.length_cons] at h3 ⊢
    omega
theorem number_cat {n wd : Int} (h1 : 1 ≤ wd) (h7 : wd ≤ 7) (h0 : 0 ≤ n) (hn : n ≤ mostI wd) (rest : List UInt8) : Rd.number ⟨putL n wd ++ rest, 0⟩ wd = (n, ⟨rest, 0⟩) := by
  obtain ⟨m, rfl⟩ : ∃ m : Nat, wd = m := ⟨wd.toNat, by omega⟩
  obtain ⟨q, rfl⟩ : ∃ q : Nat, n = q := ⟨n.toNat, by omega⟩
  rw [mostI_nat (by omega) (by omega)] at hn
  have hp : 0 < 256 ^ m := Nat.pow_pos (by decide)
  have hq : q < 256 ^ m := by omega
  have e : putL (q : Int) m = leB q m := by
    unfold putL
    rw [if_neg (by omega), mostI_nat (by omega) (by omega), if_neg (by omega)]
    simp
  have hm : ¬ mostI (m : Int) < 0 := by rw [mostI_nat (by omega) (by omega)]; omega
  unfold Rd.number Rd.take
  rw [if_neg hm, e]
  simp only [ne_eq, not_true_eq_false, if_false]
  rw [if_neg (by simp [length_leB]; omega)]
  have hl := length_leB q m
  have e1 : (leB q m ++ rest).take m = leB q m := by rw [List.take_append_of_le_length (by omega), List.take_of_length_le (by omega)]
  have e2 : (leB q m ++ rest).drop m = rest := by rw [List.drop_append_of_le_length (by omega), List.drop_of_length_le (by omega)]; rfl
  simp only [Int.toNat_natCast, e1, e2, leN_leB q m hq]
theorem bytes_cat (s rest : List UInt8) : Rd.bytes ⟨s ++ rest, 0⟩ s.length = (s, ⟨rest, 0⟩) := by
  unfold Rd.bytes Rd.take
  have h0 : ¬ ((s.length : Nat) : Int) < 0 := by omega
  rw [if_neg h0]
  simp only [ne_eq, not_true_eq_false, if_false]
  have hle : ¬ (((s ++ rest).length : Nat) : Int) < (s.length : Int) := by rw [List.length_append]; omega
  rw [if_neg hle]
  simp
theorem text_cat {s : List UInt8} {wd : Int} (h1 : 1 ≤ wd) (h7 : wd ≤ 7) (hs : (s.length : Int) ≤ mostI wd) (rest : List UInt8) : Rd.text ⟨textL s wd ++ rest, 0⟩ wd = (s, ⟨rest, 0⟩) := by
  unfold Rd.text textL
  rw [if_neg (by omega), List.append_assoc, number_cat h1 h7 (by omega) hs]
  exact bytes_cat s rest

set_option maxHeartbeats 2000000 in
theorem fixedBack_walk (w : World) (v0 : Value) (a0 : List Int) (h0 : SlAt w.heap.size w (IsInt .i64) 1 [v0] a0) (v1 : Value) (a1 : List (List UInt8)) (h1 : SlAt w.heap.size w IsStr 1 [v1] a1) (a2 : Int) (h2 : (Lit.int .i64 a2).wf = true) :
    Calls Try.prog 4 #[v0, v1, .int .i64 a2] w fun e w' => e = .returned (.bool true) ∧ Below w.heap.size w w' := by
  clear h2
  obtain ⟨A0, c0, rfl, hc0, hm0⟩ := h0.form
  obtain ⟨A1, c1, rfl, hc1, hm1⟩ := h1.form
  by_cases g0 : 20 < a0.length
  · go_enter Try.func4, Try.ntmps4
    go_wp2_with fail
    refine (live_any _).mono ?_
    rintro e w1 ⟨rfl, b1⟩
    go_wp2
    go_ret
    exact ⟨rfl, b1⟩
  by_cases g1 : 20 < a1.length
  · go_enter Try.func4, Try.ntmps4
    go_wp2_with fail
    refine (live_any _).mono ?_
    rintro e w1 ⟨rfl, b1⟩
    go_wp2
    go_ret
    exact ⟨rfl, b1⟩
  by_cases g2 : a2 < 1
  · go_enter Try.func4, Try.ntmps4
    go_wp2_with fail
    refine (live_any _).mono ?_
    rintro e w1 ⟨rfl, b1⟩
    go_wp2
    go_ret
    exact ⟨rfl, b1⟩
  by_cases g3 : 7 < a2
  · go_enter Try.func4, Try.ntmps4
    go_wp2_with fail
    refine (live_any _).mono ?_
    rintro e w1 ⟨rfl, b1⟩
    go_wp2
    go_ret
    exact ⟨rfl, b1⟩
  go_enter Try.func4, Try.ntmps4
  go_wp2_with fail
  go_loopw [7, 8] (fun s i wr => ∃ k : Nat, k ≤ a0.length ∧ i = .int .i64 k ∧ s = .string (bstr (catN (a0.take k) a2)) ∧ (∀ x ∈ a0.take k, 0 ≤ x ∧ x ≤ mostI a2) ∧ Below w.heap.size w wr) (fun _ i _ => a0.length - (intOf i).toNat)
  case atStart => exact ⟨0, by omega, rfl, rfl, by simp, Below.refl _ _⟩
  case round =>
    obtain ⟨k, hk, rfl, rfl, hall, hbl⟩ := hrel
    have HA := Lib.hid hall
    clear hall
    have hs := hbl.size
    by_cases hlt : k < a0.length
    · obtain ⟨ad, u, rfl, hadb, ⟨hu, _⟩, hcell⟩ := h0.at1 k hlt
      simp only [List.cons.injEq, and_true] at hu
      subst hu
      have hc := (hbl.cell (p := ad.add k) (by unfold Addr.add; split <;> exact hadb)).trans hcell
      have hcl := catN_len (a0.take k) a2
      have hcl2 : (catN (a0.take k) a2).length ≤ 140 := by simp at hcl; omega
      clear hcell hcl
      by_cases hneg : a0[k] < 0
      · have hd : decide (a0[k] < 0) = true := decide_eq_true hneg
        go_wp2_with fail
        go_quiet ((fail))
        go_wp2_with fail
        refine (live_any _).mono ?_
        rintro e w1 ⟨rfl, b1⟩
        go_wp2
        go_ret
        exact ⟨rfl, hbl.trans (b1.fromN.mono hs)⟩
      · have hd : decide (a0[k] < 0) = false := decide_eq_false hneg
        by_cases hbig : mostI a2 < a0[k]
        · go_wp2_with fail
          go_quiet ((go_at_call 13; exact quiet_same (most_any _ _)))
          go_wp2_with fail
          refine (live_any _).mono ?_
          rintro e w1 ⟨rfl, b1⟩
          go_wp2
          go_ret
          exact ⟨rfl, hbl.trans (b1.fromN.mono hs)⟩
        · have hp := putL_len a0[k] a2
          go_wp2_with fail
          go_quiet ((go_at_call 13; exact quiet_same (most_any _ _)))
          go_wp2_with fail
          refine (put_any _ _ _).mono ?_
          rintro e w1 ⟨rfl, b1⟩
          go_wp2
          go_roundw
          case rel =>
            refine ⟨k + 1, by omega, by go_num, by rw [catN_snoc _ _ _ hlt], ?_, hbl.trans (b1.fromN.mono hs)⟩
            intro x hx
            rw [List.take_succ_eq_append_getElem hlt] at hx
            rcases List.mem_append.1 hx with hx | hx
            · exact HA.out x hx
            · simp at hx; subst hx; exact ⟨by omega, by omega⟩
          case measure => simp [intOf]; omega
    · obtain rfl : k = a0.length := by omega
      rw [List.take_length] at HA ⊢
      have hcl := catN_len a0 a2
      have hcl2 : (catN a0 a2).length ≤ 140 := by omega
      clear hcl
      go_wp2_with fail
      obtain ⟨wa, hwa⟩ : ∃ wa, wr = wa := ⟨_, rfl⟩
      subst hwa
      go_loopw [7, 9] (fun s i wr => ∃ k : Nat, k ≤ a1.length ∧ i = .int .i64 k ∧ s = .string (bstr (catN a0 a2 ++ catT (a1.take k) a2)) ∧ (∀ x ∈ a1.take k, x.length ≤ 100) ∧ Below w.heap.size w wr) (fun _ i _ => a1.length - (intOf i).toNat)
      case atStart => exact ⟨0, by omega, rfl, by simp [catT], by simp, hbl⟩
      case round =>
        clear hbl hs
        obtain ⟨k, hk, rfl, rfl, hall, hbl⟩ := hrel
        have hcl := catT_len (a1.take k) a2 hall
        have hcl3 : (catT (a1.take k) a2).length ≤ 2140 := by simp at hcl; omega
        have HT := Lib.hid hall
        clear hall hcl
        have hs := hbl.size
        by_cases hlt : k < a1.length
        · obtain ⟨ad, u, rfl, hadb, ⟨hu, hul⟩, hcell⟩ := h1.at1 k hlt
          simp only [List.cons.injEq, and_true] at hu
          subst hu
          have hc := (hbl.cell (p := ad.add k) (by unfold Addr.add; split <;> exact hadb)).trans hcell
          clear hcell
          by_cases hbig : 100 < a1[k].length
          · go_wp2_with fail
            refine (live_any _).mono ?_
            rintro e w1 ⟨rfl, b1⟩
            go_wp2
            go_ret
            exact ⟨rfl, hbl.trans (b1.mono hs)⟩
          · have hp := textL_len a1[k] a2
            go_wp2_with fail
            refine (text_any _ _ _ (by omega)).mono ?_
            rintro e w1 ⟨rfl, b1⟩
            go_wp2
            go_roundw
            case rel =>
              refine ⟨k + 1, by omega, by go_num, by rw [catT_snoc _ _ _ hlt], ?_, hbl.trans (b1.mono hs)⟩
              intro x hx
              rw [List.take_succ_eq_append_getElem hlt] at hx
              rcases List.mem_append.1 hx with hx | hx
              · exact HT.out x hx
              · simp at hx; subst hx; omega
            case measure => simp [intOf]; omega
        · obtain rfl : k = a1.length := by omega
          rw [List.take_length] at HT hcl3 ⊢
          go_wp2_with fail
          refine (read_any _ _).mono ?_
          rintro e w1 ⟨rfl, r1, b1⟩
          obtain ⟨g, hg⟩ : ∃ g, wr.heap.size = g := ⟨_, rfl⟩
          rw [hg] at r1 hs b1 ⊢
          have hb1 := hbl.trans (b1.mono hs)
          clear hg b1
          go_wp2_with fail
          go_loopw [11] (fun i wr => ∃ k : Nat, k ≤ a0.length ∧ i = .int .i64 k ∧ RdAt wr g ⟨catN (a0.drop k) a2 ++ catT a1 a2, 0⟩ ∧ Below w.heap.size w wr) (fun i _ => a0.length - (intOf i).toNat)
          case atStart => exact ⟨0, by omega, rfl, r1, hb1⟩
          case round =>
            clear hbl hb1 r1
            obtain ⟨k, hk, rfl, r1, hbl⟩ := hrel
            by_cases hlt : k < a0.length
            · obtain ⟨ad, u, rfl, hadb, ⟨hu, _⟩, hcell⟩ := h0.at1 k hlt
              simp only [List.cons.injEq, and_true] at hu
              subst hu
              have hc := (hbl.cell (p := ad.add k) (by unfold Addr.add; split <;> exact hadb)).trans hcell
              clear hcell
              have hin := HA.out a0[k] (List.getElem_mem hlt)
              have hnum := number_cat (by omega) (by omega) hin.1 hin.2 (catN (a0.drop (k + 1)) a2 ++ catT a1 a2)
              have hsplit : catN (a0.drop k) a2 = putL a0[k] a2 ++ catN (a0.drop (k + 1)) a2 := by
                unfold catN
                rw [List.drop_eq_getElem_cons hlt]
                rfl
              rw [hsplit, List.append_assoc] at r1
              have HN := Lib.hid hnum
              have hadg : ¬ (ad.add k).block = g := by
                have : (ad.add k).block = ad.block := by unfold Addr.add; split <;> rfl
                omega
              have hlr : (putL a0[k] a2 ++ (catN (a0.drop (k + 1)) a2 ++ catT a1 a2)).length ≤ 9223372036854775807 := by
                have := putL_len a0[k] a2
                have := catN_len (a0.drop (k + 1)) a2
                simp at this ⊢
                omega
              have hadk : (ad.add k).block < wr.heap.size := by
                have : (ad.add k).block = ad.block := by unfold Addr.add; split <;> rfl
                have := hbl.size
                omega
              clear hin hnum hsplit
              go_wp2_with fail
              go_region_with (go_at_call 16; refine (number_to HN.out g wr.drew r1 hlr).mono ?_; rintro e w2 ⟨rfl, r2, k2⟩; have hc2 := (k2.cell hadk hadg).trans hc)
              all_goals
                go_wp2
                go_roundw
                case rel => exact ⟨k + 1, by omega, by go_num, r2, hbl.trans (k2.fromDrew.mono hbl.size (fun j hj e => by omega)).below⟩
                case measure => simp [intOf]; omega
            · obtain rfl : k = a0.length := by omega
              rw [List.drop_length] at r1
              replace r1 : RdAt wr g ⟨catT a1 a2, 0⟩ := r1
              go_wp2_with fail
              obtain ⟨wa, hwa⟩ : ∃ wa, wr = wa := ⟨_, rfl⟩
              subst hwa
              go_loopw [12] (fun i wr => ∃ k : Nat, k ≤ a1.length ∧ i = .int .i64 k ∧ RdAt wr g ⟨catT (a1.drop k) a2, 0⟩ ∧ Below w.heap.size w wr) (fun i _ => a1.length - (intOf i).toNat)
              case atStart => exact ⟨0, by omega, rfl, r1, hbl⟩
              case round =>
                clear hbl r1
                obtain ⟨k, hk, rfl, r1, hbl⟩ := hrel
                by_cases hlt : k < a1.length
                · obtain ⟨ad, u, rfl, hadb, ⟨hu, _⟩, hcell⟩ := h1.at1 k hlt
                  simp only [List.cons.injEq, and_true] at hu
                  subst hu
                  have hc := (hbl.cell (p := ad.add k) (by unfold Addr.add; split <;> exact hadb)).trans hcell
                  clear hcell
                  have hin := HT.out a1[k] (List.getElem_mem hlt)
                  have hm1 : (a1[k].length : Int) ≤ mostI a2 := by
                    obtain ⟨m, rfl⟩ : ∃ m : Nat, a2 = m := ⟨a2.toNat, by omega⟩
                    rw [mostI_nat (by omega) (by omega)]
                    have : 256 ^ 1 ≤ 256 ^ m := Nat.pow_le_pow_right (by decide) (by omega)
                    omega
                  have hnum := text_cat (by omega) (by omega) hm1 (catT (a1.drop (k + 1)) a2)
                  have hsplit : catT (a1.drop k) a2 = textL a1[k] a2 ++ catT (a1.drop (k + 1)) a2 := by
                    unfold catT
                    rw [List.drop_eq_getElem_cons hlt]
                    rfl
                  rw [hsplit] at r1
                  have HN := Lib.hid hnum
                  have hadg : ¬ (ad.add k).block = g := by
                    have : (ad.add k).block = ad.block := by unfold Addr.add; split <;> rfl
                    omega
                  have hlr : (textL a1[k] a2 ++ catT (a1.drop (k + 1)) a2).length ≤ 9223372036854775807 := by
                    have h8 := textL_len a1[k] a2
                    have h9 := catT_len (a1.drop (k + 1)) a2 (fun x hx => HT.out x (List.mem_of_mem_drop hx))
                    simp at h9 ⊢
                    omega
                  have hadk : (ad.add k).block < wr.heap.size := by
                    have : (ad.add k).block = ad.block := by unfold Addr.add; split <;> rfl
                    have := hbl.size
                    omega
                  clear hin hnum hsplit hm1
                  go_wp2_with fail
                  go_region_with (go_at_call 17; refine (rtext_to HN.out g wr.drew r1 hlr).mono ?_; rintro e w2 ⟨rfl, r2, k2⟩; have hc2 := (k2.cell hadk hadg).trans hc)
                  all_goals
                    go_wp2
                    go_roundw
                    case rel => exact ⟨k + 1, by omega, by go_num, r2, hbl.trans (k2.fromDrew.mono hbl.size (fun j hj e => by omega)).below⟩
                    case measure => simp [intOf]; omega
                · obtain rfl : k = a1.length := by omega
                  rw [List.drop_length] at r1
                  replace r1 : RdAt wr g ⟨[], 0⟩ := r1
                  go_wp2_with fail
                  refine (end_to (n := 0) rfl _ _ r1).mono ?_
                  rintro e _ ⟨rfl, rfl⟩
                  go_wp2_with fail
                  refine (live_any _).mono ?_
                  rintro e w1 ⟨rfl, b1⟩
                  go_wp2
                  go_ret
                  exact ⟨rfl, hbl.trans (b1.mono hbl.size)⟩
end Go.Proofs.Ytpjkkhciokheiaa
