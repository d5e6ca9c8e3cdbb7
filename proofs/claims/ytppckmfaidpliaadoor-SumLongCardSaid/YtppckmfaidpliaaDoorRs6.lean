/- The reference of package sum: primes: its contract at 64. -/
import Derived.Test.YtppckmfaidpliaaDoorRs5
import Derived.Deep.DeepMust
namespace Go.Proofs.YtppckmfaidpliaaDoor
open Go.RowKit
set_option linter.unusedSimpArgs false
set_option linter.unnecessarySimpa false
set_option linter.unusedVariables false

def prStep (out : List Nat) (i : Nat) : List Nat := if out.all (fun d => (2 + i) % d != 0) then out ++ [2 + i] else out
def prL (s : Nat) : List Nat := (List.range s).foldl prStep []
theorem prL_succ (s : Nat) : prL (s + 1) = prStep (prL s) s := by
  unfold prL
  rw [List.range_succ, List.foldl_append]
  rfl
theorem prL_mono (s : Nat) : (prL s).length ≤ (prL (s + 1)).length := by
  rw [prL_succ]
  unfold prStep
  split <;> simp
theorem prL_le : ∀ {s t : Nat}, s ≤ t → (prL s).length ≤ (prL t).length := by
  intro s t h
  induction h with
  | refl => exact Nat.le_refl _
  | step _ ih => exact Nat.le_trans ih (prL_mono _)
theorem pr309 : (prL 309).length = 63 := by decide +kernel
theorem pr310 : (prL 310).length = 64 := by decide +kernel
theorem prL_pos (s : Nat) : ∀ d ∈ prL s, 2 ≤ d ∧ d < 2 + s := by
  induction s with
  | zero => intro d h; simp [prL] at h
  | succ s ih =>
    intro d h
    rw [prL_succ, prStep] at h
    split at h
    · rcases List.mem_append.1 h with h | h
      · have := ih d h; omega
      · simp at h; omega
    · have := ih d h; omega
theorem own_read {w : World} {base n : Nat} {v : Value} {l : List Nat} (h : w.ownsRow base 3 1 v n (natV l)) :
    ∃ A c, v = .slice A n c ∧ ∀ j, j < n → ∃ ad : Addr, A = some ad ∧ w.cell? (ad.add j) = some (.int .i64 (l.getD j 0 : Nat)) := by
  have hl : l.length = n := by have := h.1; simpa [natV] using this
  have h0 := h
  rcases h.2 with ⟨rfl, hn⟩ | ⟨g, cap, cur, rfl, hg, hc, hr⟩
  · exact ⟨none, 0, by rw [hn], fun j hj => by omega⟩
  · refine ⟨some ⟨g, 0, none⟩, cap, rfl, fun j hj => ⟨_, rfl, ?_⟩⟩
    have : (⟨g, 0, none⟩ : Addr).add j = ⟨g, j, none⟩ := by unfold Addr.add; split <;> simp_all
    rw [this, World.ownsRow.cellAt h0 j (by omega)]
    simp [natV, List.getD, show j < l.length by omega]

set_option maxHeartbeats 4000000 in
theorem primes_any (w : World) : Calls Tryd.prog 18 #[.int .i64 64] w fun e w' => ∃ v, e = .returned v ∧ w'.ownsRow w.heap.size 3 1 v 64 (natV (prL 310)) ∧ Below w.heap.size w w' := by
  go_enter Tryd.func18, Tryd.ntmps18
  go_wp2_with fail
  go_loopw [3, 4] (fun v i wr => ∃ s : Nat, s ≤ 310 ∧ i = .int .i64 ((2 + s : Nat)) ∧ wr.ownsRow w.heap.size 3 1 v (prL s).length (natV (prL s)) ∧ Below w.heap.size w wr) (fun _ i _ => 312 - (intOf i).toNat)
  case atStart => exact ⟨0, by omega, rfl, World.ownsRow_nil _ _ _ _, Below.refl _ _⟩
  case round =>
    obtain ⟨s, hs, rfl, hown, hbl⟩ := hrel
    obtain ⟨A, c, rfl, hrd⟩ := own_read hown
    by_cases hlt : s < 310
    · have hle : (prL s).length ≤ 63 := by rw [← pr309]; exact prL_le (by omega)
      have hpos := prL_pos s
      have hnx := prL_succ s
      have HOWN := Lib.hid hown
      have HNX := Lib.hid hnx
      have HRD := Lib.hid hrd
      have HPOS := Lib.hid hpos
      clear hown hnx hrd hpos
      obtain ⟨l, hl⟩ : ∃ l, prL s = l := ⟨_, rfl⟩
      rw [hl] at hle HOWN HNX HRD HPOS ⊢
      obtain ⟨n, hn⟩ : ∃ n, l.length = n := ⟨_, rfl⟩
      rw [hn] at hle HOWN HRD ⊢
      clear hl
      obtain ⟨kk, hkk⟩ : ∃ kk : Nat, 2 + s = kk := ⟨_, rfl⟩
      have hkl : kk < 312 := by omega
      rw [hkk] at HPOS ⊢
      have HKK := Lib.hid hkk
      clear hkk
      have q1 : decide ((n : Int) < 64) = true := decide_eq_true (by omega)
      obtain ⟨wo, hwo⟩ : ∃ wo : World, wo = wr := ⟨_, rfl⟩
      go_wp2_with fail
      go_loopw [5, 6] (fun b i wv => ∃ q : Nat, q ≤ n ∧ i = .int .i64 q ∧ b = .bool ((l.take q).all (fun d => kk % d != 0)) ∧ wv = wo) (fun _ i _ => n - (intOf i).toNat)
      case atStart => exact ⟨0, by omega, rfl, by simp, hwo.symm⟩
      case round =>
        obtain ⟨q, hq, rfl, rfl, hwv⟩ := hrel
        have HWO := Lib.hid hwo
        rw [hwv]
        clear hwo hwv
        by_cases hlq : q < n
        · have q2 : decide ((q : Int) < n) = true := decide_eq_true (by omega)
          have hqn : q < l.length := by omega
          obtain ⟨ad, rfl, cd⟩ := HRD.out q hlq
          rw [← HWO.out] at cd
          obtain ⟨d, hd⟩ : ∃ d, l.getD q 0 = d := ⟨_, rfl⟩
          have hdl : l[q] = d := by rw [← hd]; simp [List.getD, hqn]
          have hdp := HPOS.out d (by rw [← hdl]; exact List.getElem_mem hqn)
          rw [hd] at cd
          have htk : (l.take (q + 1)).all (fun d => kk % d != 0) = ((l.take q).all (fun d => kk % d != 0) && (kk % d != 0)) := by
            rw [List.take_succ_eq_append_getElem hqn, List.all_append, hdl]
            simp
          have HTK := Lib.hid htk
          obtain ⟨b, hb⟩ : ∃ b, (l.take q).all (fun d => kk % d != 0) = b := ⟨_, rfl⟩
          obtain ⟨r, hr⟩ : ∃ r, kk % d = r := ⟨_, rfl⟩
          have hdn : (d : Int) ≠ 0 := by omega
          have hm : ((kk : Int)).tmod d = (r : Int) := by rw [Int.tmod_eq_emod_of_nonneg (by omega), ← hr]; simp
          rw [hb, hr] at htk
          rw [hb]
          have HT2 := Lib.hid htk
          have q0 : (0 : Int) ≤ q := by omega
          have hrb : r ≤ 1000 := by rw [← hr]; exact Nat.le_trans (Nat.mod_le _ _) (by omega)
          clear htk hb hr hd hdl
          cases b
          · go_wp2
            go_round
            case rel => exact ⟨q + 1, by omega, by go_num, by rw [HT2.out]; rfl, by first | rfl | trivial⟩
            case measure => simp [intOf] <;> omega
          · by_cases hr0 : r = 0
            · have hm2 : (((kk : Nat) : Int)).tmod d = 0 := by rw [hm, hr0]; rfl
              clear hm
              go_wp2
              go_round
              case rel => exact ⟨q + 1, by omega, by go_num, by rw [HT2.out, hr0]; rfl, by first | rfl | trivial⟩
              case measure => simp [intOf] <;> omega
            · have hr1 : ((r : Int) != 0) = true := bne_iff_ne.2 (by omega)
              have hr2 : (r != 0) = true := bne_iff_ne.2 hr0
              have HR2 := Lib.hid hr2
              clear hr2
              go_wp2
              go_round
              case rel => exact ⟨q + 1, by omega, by go_num, by rw [HT2.out, HR2.out]; rfl, by first | rfl | trivial⟩
              case measure => simp [intOf] <;> omega
        · have q2 : decide ((q : Int) < n) = false := decide_eq_false (by omega)
          have hqt : l.take q = l := List.take_of_length_le (by omega)
          rw [hqt]
          have hown := HOWN.out
          have hb2 := hbl
          rw [← HWO.out] at hown hb2
          have hstep : prL (s + 1) = if l.all (fun d => kk % d != 0) then l ++ [kk] else l := by rw [HNX.out, prStep, HKK.out]
          have hk1 : ((kk : Int) + 1) = ((2 + (s + 1) : Nat) : Int) := by rw [← HKK.out]; omega
          obtain ⟨b, hb⟩ : ∃ b, l.all (fun d => kk % d != 0) = b := ⟨_, rfl⟩
          rw [hb] at hstep ⊢
          have HS := Lib.hid hstep
          have HK1 := Lib.hid hk1
          clear hstep hb hk1 hqt
          have hsz := hb2.size
          cases b
          · have hfin : wo.ownsRow w.heap.size 3 1 (.slice A n c) (prL (s + 1)).length (natV (prL (s + 1))) := by
              rw [HS.out, if_neg (by decide), hn]
              exact hown
            have HF := Lib.hid hfin
            clear hfin hown
            go_wp2
            go_round
            case rel => exact ⟨s + 1, by omega, by rw [← HK1.out], HF.out, hb2⟩
            case measure => simp [intOf] <;> omega
          · have hn8 : n + 1 ≤ maxLen := by unfold maxLen; omega
            have hn9 : (n + 1) * 8 ≤ 140737488355328 := by omega
            go_wp2_with (at_builtin; go_must (refine wpList_app (P := Tryd.prog) _ rfl _ _ 36 rfl w.heap.size 3 (.int .i64 0) 1 8 Tryd.underlying36 int_info rfl (by decide) _ n _ rfl hown _ rfl rfl ?c1 hn8 hn9 hsz ?_))
            case c1 => first | rfl | (intro u hu; simp at hu; subst hu; rfl)
            intro v' w1 hown1 _ hb1
            have hfin : w1.ownsRow w.heap.size 3 1 v' (prL (s + 1)).length (natV (prL (s + 1))) := by
              rw [HS.out]
              simp only [if_true, List.length_append, hn]
              simpa [natV] using hown1
            have HF := Lib.hid hfin
            have hb3 := hb2.trans hb1
            clear hfin hown1 hown
            go_wp2
            go_roundw
            case rel => exact ⟨s + 1, by omega, by rw [← HK1.out], HF.out, hb3⟩
            case measure => simp [intOf] <;> omega
    · obtain rfl : s = 310 := by omega
      have hrd2 := hrd
      rw [pr310] at hown ⊢
      go_wp2
      go_ret
      exact ⟨_, rfl, hown, hbl⟩
end Go.Proofs.YtppckmfaidpliaaDoor
