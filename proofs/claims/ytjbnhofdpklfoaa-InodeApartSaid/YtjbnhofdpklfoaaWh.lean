/- What Which computes, of package inode and of the reference 15: contracts of their calls. -/
import Derived.Test.YtjbnhofdpklfoaaInR
namespace Go.Proofs.Ytjbnhofdpklfoaa
open Go.RowKit
set_option linter.unusedSimpArgs false
set_option linter.unnecessarySimpa false
set_option linter.unusedVariables false

theorem inum_to {q : List UInt8} {n : Nat} {b : Bool} (hq : q.length = 4) (h : beN q = n) (hb : inB (n : Int) = b) (w : World) :
    Calls Try.prog 22 #[.string (bstr q)] w fun e w' => e = .returned (.tuple #[.int .i64 n, .bool b]) ∧ w = w' := by subst h; subst hb; exact inum_any q hq w
theorem rinum_to {q : List UInt8} {n : Int} (hq : q.length = 4) (h : (if 2147483648 < beN q then -1 else ((beN q : Nat) : Int)) = n) (w : World) :
    Calls Try.prog 23 #[.string (bstr q)] w fun e w' => e = .returned (.int .i64 n) ∧ w = w' := by subst h; exact rinum_any q hq w

def whV (r : Wh) : Value := .tuple #[.int .i64 r.kind, .int .i64 r.n, .string (bstr r.rest), .bool r.is]
theorem ret_wh {r s : Wh} (h : r = s) : Ending.returned (whV r) = .returned (whV s) := by rw [h]

set_option maxHeartbeats 1000000 in
theorem which_any (key : List UInt8) (hk : key.length ≤ 140737488351232) (w : World) :
    Calls Try.prog 9 #[.string (bstr key)] w fun e w' => e = .returned (whV (whichL key)) ∧ w = w' := by
  by_cases h5 : key.length ≤ 4
  · have hw : whichL key = Wh.none := by
      match key, h5 with
      | [], _ => rfl
      | [_], _ => rfl
      | [_, _], _ => rfl
      | [_, _, _], _ => rfl
      | [_, _, _, _], _ => rfl
    rw [hw]
    go_enter Try.func9, Try.ntmps9
    go_wp2
    exact bodyPost_ret (v := whV Wh.none) (by simp [results, Try.results9, go_sem, whV, Wh.none]) rfl ⟨rfl, rfl⟩
  · obtain ⟨c, x1, x2, x3, x4, rest, rfl⟩ : ∃ c x1 x2 x3 x4 rest, key = c :: x1 :: x2 :: x3 :: x4 :: rest := by
      match key, h5 with
      | [], h => exact absurd (Nat.zero_le _) h
      | [_], h => simp at h
      | [_, _], h => simp at h
      | [_, _, _], h => simp at h
      | [_, _, _, _], h => simp at h
      | c :: x1 :: x2 :: x3 :: x4 :: rest, _ => exact ⟨c, x1, x2, x3, x4, rest, rfl⟩
    have hr : rest.length ≤ 140737488351232 := by simp at hk; omega
    clear hk h5
    obtain ⟨n, hn⟩ : ∃ n, beN [x1, x2, x3, x4] = n := ⟨_, rfl⟩
    simp only [whichL, hn]
    have HN := Lib.hid hn
    clear hn
    by_cases hbig : 2147483648 < n
    · rw [if_pos hbig]
      have HI : Hid (inB (n : Int) = false) := by show inB _ = _; simp [inB]; omega
      clear hbig
      by_cases h105 : c = 105
      · subst h105
        go_enter Try.func9, Try.ntmps9
        go_wp2_with fail
        refine (inum_to rfl HN.out HI.out _).mono ?_
        rintro e _ ⟨rfl, rfl⟩
        go_wp2
        exact bodyPost_ret (v := whV Wh.none) (by simp [results, Try.results9, go_sem, whV, Wh.none, bstr_nil]) rfl ⟨rfl, rfl⟩
      · have q105 : ((c.toNat : Int) == 105) = false := by rw [beq_eq_false_iff_ne]; intro h; exact h105 (UInt8.toNat_inj.1 (by simpa using (by omega : c.toNat = 105)))
        by_cases h100 : c = 100
        · subst h100
          go_enter Try.func9, Try.ntmps9
          go_wp2_with fail
          refine (inum_to rfl HN.out HI.out _).mono ?_
          rintro e _ ⟨rfl, rfl⟩
          go_wp2
          exact bodyPost_ret (v := whV Wh.none) (by simp [results, Try.results9, go_sem, whV, Wh.none, bstr_nil]) rfl ⟨rfl, rfl⟩
        · have q100 : ((c.toNat : Int) == 100) = false := by rw [beq_eq_false_iff_ne]; intro h; exact h100 (UInt8.toNat_inj.1 (by simpa using (by omega : c.toNat = 100)))
          by_cases h99 : c = 99
          · subst h99
            go_enter Try.func9, Try.ntmps9
            go_wp2_with fail
            refine (inum_to rfl HN.out HI.out _).mono ?_
            rintro e _ ⟨rfl, rfl⟩
            go_wp2
            exact bodyPost_ret (v := whV Wh.none) (by simp [results, Try.results9, go_sem, whV, Wh.none, bstr_nil]) rfl ⟨rfl, rfl⟩
          · have q99 : ((c.toNat : Int) == 99) = false := by rw [beq_eq_false_iff_ne]; intro h; exact h99 (UInt8.toNat_inj.1 (by simpa using (by omega : c.toNat = 99)))
            go_enter Try.func9, Try.ntmps9
            go_wp2_with fail
            refine (inum_to rfl HN.out HI.out _).mono ?_
            rintro e _ ⟨rfl, rfl⟩
            go_wp2
            exact bodyPost_ret (v := whV Wh.none) (by simp [results, Try.results9, go_sem, whV, Wh.none, bstr_nil]) rfl ⟨rfl, rfl⟩
    · rw [if_neg hbig]
      have HI : Hid (inB (n : Int) = true) := by show inB _ = _; simp [inB]; omega
      by_cases h105 : c = 105
      · subst h105
        by_cases hr0 : rest = []
        · subst hr0
          rw [if_pos ⟨rfl, rfl⟩]
          go_enter Try.func9, Try.ntmps9
          go_wp2_with fail
          refine (inum_to rfl HN.out HI.out _).mono ?_
          rintro e _ ⟨rfl, rfl⟩
          go_wp2
          exact bodyPost_ret (v := whV ⟨0, n, [], true⟩) (by simp [results, Try.results9, go_sem, whV, Wh.none, bstr_nil]) rfl ⟨rfl, rfl⟩
        · rw [if_neg (fun h => hr0 h.2), if_neg (fun h => by simp at h), if_neg (fun h => by simp at h)]
          have he : rest.isEmpty = false := by simp [hr0]
          go_enter Try.func9, Try.ntmps9
          go_wp2_with fail
          refine (inum_to rfl HN.out HI.out _).mono ?_
          rintro e _ ⟨rfl, rfl⟩
          go_wp2
          exact bodyPost_ret (v := whV Wh.none) (by simp [results, Try.results9, go_sem, whV, Wh.none, bstr_nil]) rfl ⟨rfl, rfl⟩
      · have q105 : ((c.toNat : Int) == 105) = false := by rw [beq_eq_false_iff_ne]; intro h; exact h105 (UInt8.toNat_inj.1 (by simpa using (by omega : c.toNat = 105)))
        by_cases h100 : c = 100
        · subst h100
          rw [if_neg (fun h => by simp at h)]
          by_cases hr0 : rest = []
          · subst hr0
            rw [if_neg (fun h => h.2.1 rfl), if_neg (fun h => by simp at h)]
            go_enter Try.func9, Try.ntmps9
            go_wp2_with fail
            refine (inum_to rfl HN.out HI.out _).mono ?_
            rintro e _ ⟨rfl, rfl⟩
            go_wp2
            exact bodyPost_ret (v := whV Wh.none) (by simp [results, Try.results9, go_sem, whV, Wh.none, bstr_nil]) rfl ⟨rfl, rfl⟩
          · have he : rest.isEmpty = false := by simp [hr0]
            by_cases hr2 : rest.length ≤ 255
            · rw [if_pos ⟨rfl, hr0, hr2⟩]
              have hd : decide ((rest.length : Int) ≤ 255) = true := by rw [decide_eq_true_eq]; omega
              go_enter Try.func9, Try.ntmps9
              go_wp2_with fail
              refine (inum_to rfl HN.out HI.out _).mono ?_
              rintro e _ ⟨rfl, rfl⟩
              go_wp2
              exact bodyPost_ret (v := whV ⟨1, n, rest, true⟩) (by simp [results, Try.results9, go_sem, whV, Wh.none, bstr_nil]) rfl ⟨rfl, rfl⟩
            · rw [if_neg (fun h => hr2 h.2.2), if_neg (fun h => by simp at h)]
              have hd : decide ((rest.length : Int) ≤ 255) = false := by rw [decide_eq_false_iff_not]; omega
              go_enter Try.func9, Try.ntmps9
              go_wp2_with fail
              refine (inum_to rfl HN.out HI.out _).mono ?_
              rintro e _ ⟨rfl, rfl⟩
              go_wp2
              exact bodyPost_ret (v := whV Wh.none) (by simp [results, Try.results9, go_sem, whV, Wh.none, bstr_nil]) rfl ⟨rfl, rfl⟩
        · have q100 : ((c.toNat : Int) == 100) = false := by rw [beq_eq_false_iff_ne]; intro h; exact h100 (UInt8.toNat_inj.1 (by simpa using (by omega : c.toNat = 100)))
          by_cases h99 : c = 99
          · subst h99
            rw [if_neg (fun h => by simp at h), if_neg (fun h => by simp at h)]
            by_cases hr4 : rest.length = 4
            · obtain ⟨y1, y2, y3, y4, rfl⟩ : ∃ y1 y2 y3 y4, rest = [y1, y2, y3, y4] := by
                match rest, hr4 with
                | [y1, y2, y3, y4], _ => exact ⟨y1, y2, y3, y4, rfl⟩
              clear hr4 hr
              by_cases hm : beN [y1, y2, y3, y4] ≤ 2147483648
              · rw [if_pos ⟨rfl, rfl, hm⟩]
                obtain ⟨m, hm2⟩ : ∃ m, beN [y1, y2, y3, y4] = m := ⟨_, rfl⟩
                have HJ : Hid (inB (m : Int) = true) := by show inB _ = _; simp [inB]; omega
                have HM := Lib.hid hm2
                clear hm hm2
                go_enter Try.func9, Try.ntmps9
                go_wp2_with fail
                refine (inum_to rfl HN.out HI.out _).mono ?_
                rintro e _ ⟨rfl, rfl⟩
                go_wp2_with fail
                refine (inum_to rfl HM.out HJ.out _).mono ?_
                rintro e _ ⟨rfl, rfl⟩
                go_wp2
                exact bodyPost_ret (v := whV ⟨2, n, [y1, y2, y3, y4], true⟩) (by simp [results, Try.results9, go_sem, whV, Wh.none, bstr_nil]) rfl ⟨rfl, rfl⟩
              · rw [if_neg (fun h => hm h.2.2)]
                obtain ⟨m, hm2⟩ : ∃ m, beN [y1, y2, y3, y4] = m := ⟨_, rfl⟩
                have HJ : Hid (inB (m : Int) = false) := by show inB _ = _; simp [inB]; omega
                have HM := Lib.hid hm2
                clear hm hm2
                go_enter Try.func9, Try.ntmps9
                go_wp2_with fail
                refine (inum_to rfl HN.out HI.out _).mono ?_
                rintro e _ ⟨rfl, rfl⟩
                go_wp2_with fail
                refine (inum_to rfl HM.out HJ.out _).mono ?_
                rintro e _ ⟨rfl, rfl⟩
                go_wp2
                exact bodyPost_ret (v := whV Wh.none) (by simp [results, Try.results9, go_sem, whV, Wh.none, bstr_nil]) rfl ⟨rfl, rfl⟩
            · rw [if_neg (fun h => hr4 h.2.1)]
              have hr5 : ((rest.length : Int) == 4) = false := by rw [beq_eq_false_iff_ne]; omega
              clear hr4
              go_enter Try.func9, Try.ntmps9
              go_wp2_with fail
              refine (inum_to rfl HN.out HI.out _).mono ?_
              rintro e _ ⟨rfl, rfl⟩
              go_wp2
              exact bodyPost_ret (v := whV Wh.none) (by simp [results, Try.results9, go_sem, whV, Wh.none, bstr_nil]) rfl ⟨rfl, rfl⟩
          · have q99 : ((c.toNat : Int) == 99) = false := by rw [beq_eq_false_iff_ne]; intro h; exact h99 (UInt8.toNat_inj.1 (by simpa using (by omega : c.toNat = 99)))
            rw [if_neg (fun h => h105 h.1), if_neg (fun h => h100 h.1), if_neg (fun h => h99 h.1)]
            clear h105 h100 h99
            go_enter Try.func9, Try.ntmps9
            go_wp2_with fail
            refine (inum_to rfl HN.out HI.out _).mono ?_
            rintro e _ ⟨rfl, rfl⟩
            go_wp2
            exact bodyPost_ret (v := whV Wh.none) (by simp [results, Try.results9, go_sem, whV, Wh.none, bstr_nil]) rfl ⟨rfl, rfl⟩

set_option maxHeartbeats 1000000 in
theorem rwhich_any (key : List UInt8) (hk : key.length ≤ 140737488351232) (w : World) :
    Calls Try.prog 10 #[.string (bstr key)] w fun e w' => e = .returned (whV (whichL key)) ∧ w = w' := by
  by_cases h5 : key.length ≤ 4
  · have hw : whichL key = Wh.none := by
      match key, h5 with
      | [], _ => rfl
      | [_], _ => rfl
      | [_, _], _ => rfl
      | [_, _, _], _ => rfl
      | [_, _, _, _], _ => rfl
    rw [hw]
    go_enter Try.func10, Try.ntmps10
    go_wp2
    exact bodyPost_ret (v := whV Wh.none) (by simp [results, Try.results10, go_sem, whV, Wh.none]) rfl ⟨rfl, rfl⟩
  · obtain ⟨c, x1, x2, x3, x4, rest, rfl⟩ : ∃ c x1 x2 x3 x4 rest, key = c :: x1 :: x2 :: x3 :: x4 :: rest := by
      match key, h5 with
      | [], h => exact absurd (Nat.zero_le _) h
      | [_], h => simp at h
      | [_, _], h => simp at h
      | [_, _, _], h => simp at h
      | [_, _, _, _], h => simp at h
      | c :: x1 :: x2 :: x3 :: x4 :: rest, _ => exact ⟨c, x1, x2, x3, x4, rest, rfl⟩
    have hr : rest.length ≤ 140737488351232 := by simp at hk; omega
    clear hk h5
    obtain ⟨n, hn⟩ : ∃ n, beN [x1, x2, x3, x4] = n := ⟨_, rfl⟩
    simp only [whichL, hn]
    have HN := Lib.hid hn
    clear hn
    by_cases hbig : 2147483648 < n
    · rw [if_pos hbig]
      have HI : Hid ((if 2147483648 < beN [x1, x2, x3, x4] then -1 else ((beN [x1, x2, x3, x4] : Nat) : Int)) = -1) := by show _ = _; rw [HN.out, if_pos hbig]
      clear hbig
      go_enter Try.func10, Try.ntmps10
      go_wp2_with fail
      refine (rinum_to rfl HI.out _).mono ?_
      rintro e _ ⟨rfl, rfl⟩
      go_wp2
      exact bodyPost_ret (v := whV Wh.none) (by simp [results, Try.results10, go_sem, whV, Wh.none, bstr_nil]) rfl ⟨rfl, rfl⟩
    · rw [if_neg hbig]
      have HI : Hid ((if 2147483648 < beN [x1, x2, x3, x4] then -1 else ((beN [x1, x2, x3, x4] : Nat) : Int)) = n) := by show _ = _; rw [HN.out, if_neg hbig]
      by_cases h105 : c = 105
      · subst h105
        by_cases hr0 : rest = []
        · subst hr0
          rw [if_pos ⟨rfl, rfl⟩]
          go_enter Try.func10, Try.ntmps10
          go_wp2_with fail
          refine (rinum_to rfl HI.out _).mono ?_
          rintro e _ ⟨rfl, rfl⟩
          go_wp2_with fail
          refine (rinum_to rfl HI.out _).mono ?_
          rintro e _ ⟨rfl, rfl⟩
          go_wp2
          exact bodyPost_ret (v := whV ⟨0, n, [], true⟩) (by simp [results, Try.results10, go_sem, whV, Wh.none, bstr_nil]) rfl ⟨rfl, rfl⟩
        · rw [if_neg (fun h => hr0 h.2), if_neg (fun h => by simp at h), if_neg (fun h => by simp at h)]
          have he : rest.isEmpty = false := by simp [hr0]
          go_enter Try.func10, Try.ntmps10
          go_wp2_with fail
          refine (rinum_to rfl HI.out _).mono ?_
          rintro e _ ⟨rfl, rfl⟩
          go_wp2_with fail
          refine (rinum_to rfl HI.out _).mono ?_
          rintro e _ ⟨rfl, rfl⟩
          go_wp2
          exact bodyPost_ret (v := whV Wh.none) (by simp [results, Try.results10, go_sem, whV, Wh.none, bstr_nil]) rfl ⟨rfl, rfl⟩
      · have q105 : ((c.toNat : Int) == 105) = false := by rw [beq_eq_false_iff_ne]; intro h; exact h105 (UInt8.toNat_inj.1 (by simpa using (by omega : c.toNat = 105)))
        by_cases h100 : c = 100
        · subst h100
          rw [if_neg (fun h => by simp at h)]
          by_cases hr0 : rest = []
          · subst hr0
            rw [if_neg (fun h => h.2.1 rfl), if_neg (fun h => by simp at h)]
            go_enter Try.func10, Try.ntmps10
            go_wp2_with fail
            refine (rinum_to rfl HI.out _).mono ?_
            rintro e _ ⟨rfl, rfl⟩
            go_wp2_with fail
            refine (rinum_to rfl HI.out _).mono ?_
            rintro e _ ⟨rfl, rfl⟩
            go_wp2
            exact bodyPost_ret (v := whV Wh.none) (by simp [results, Try.results10, go_sem, whV, Wh.none, bstr_nil]) rfl ⟨rfl, rfl⟩
          · have he : rest.isEmpty = false := by simp [hr0]
            by_cases hr2 : rest.length ≤ 255
            · rw [if_pos ⟨rfl, hr0, hr2⟩]
              have hd : decide ((rest.length : Int) ≤ 255) = true := by rw [decide_eq_true_eq]; omega
              go_enter Try.func10, Try.ntmps10
              go_wp2_with fail
              refine (rinum_to rfl HI.out _).mono ?_
              rintro e _ ⟨rfl, rfl⟩
              go_wp2_with fail
              refine (rinum_to rfl HI.out _).mono ?_
              rintro e _ ⟨rfl, rfl⟩
              go_wp2
              exact bodyPost_ret (v := whV ⟨1, n, rest, true⟩) (by simp [results, Try.results10, go_sem, whV, Wh.none, bstr_nil]) rfl ⟨rfl, rfl⟩
            · rw [if_neg (fun h => hr2 h.2.2), if_neg (fun h => by simp at h)]
              have hd : decide ((rest.length : Int) ≤ 255) = false := by rw [decide_eq_false_iff_not]; omega
              go_enter Try.func10, Try.ntmps10
              go_wp2_with fail
              refine (rinum_to rfl HI.out _).mono ?_
              rintro e _ ⟨rfl, rfl⟩
              go_wp2_with fail
              refine (rinum_to rfl HI.out _).mono ?_
              rintro e _ ⟨rfl, rfl⟩
              go_wp2
              exact bodyPost_ret (v := whV Wh.none) (by simp [results, Try.results10, go_sem, whV, Wh.none, bstr_nil]) rfl ⟨rfl, rfl⟩
        · have q100 : ((c.toNat : Int) == 100) = false := by rw [beq_eq_false_iff_ne]; intro h; exact h100 (UInt8.toNat_inj.1 (by simpa using (by omega : c.toNat = 100)))
          by_cases h99 : c = 99
          · subst h99
            rw [if_neg (fun h => by simp at h), if_neg (fun h => by simp at h)]
            by_cases hr4 : rest.length = 4
            · obtain ⟨y1, y2, y3, y4, rfl⟩ : ∃ y1 y2 y3 y4, rest = [y1, y2, y3, y4] := by
                match rest, hr4 with
                | [y1, y2, y3, y4], _ => exact ⟨y1, y2, y3, y4, rfl⟩
              clear hr4 hr
              by_cases hm : beN [y1, y2, y3, y4] ≤ 2147483648
              · rw [if_pos ⟨rfl, rfl, hm⟩]
                obtain ⟨m, hm2⟩ : ∃ m, beN [y1, y2, y3, y4] = m := ⟨_, rfl⟩
                have HJ : Hid ((if 2147483648 < beN [y1, y2, y3, y4] then -1 else ((beN [y1, y2, y3, y4] : Nat) : Int)) = m) := by show _ = _; rw [if_neg (by omega), hm2]
                clear hm hm2
                go_enter Try.func10, Try.ntmps10
                go_wp2_with fail
                refine (rinum_to rfl HI.out _).mono ?_
                rintro e _ ⟨rfl, rfl⟩
                go_wp2_with fail
                refine (rinum_to rfl HI.out _).mono ?_
                rintro e _ ⟨rfl, rfl⟩
                go_wp2_with fail
                refine (rinum_to rfl HJ.out _).mono ?_
                rintro e _ ⟨rfl, rfl⟩
                go_wp2
                exact bodyPost_ret (v := whV ⟨2, n, [y1, y2, y3, y4], true⟩) (by simp [results, Try.results10, go_sem, whV, Wh.none, bstr_nil]) rfl ⟨rfl, rfl⟩
              · rw [if_neg (fun h => hm h.2.2)]
                obtain ⟨m, hm2⟩ : ∃ m, beN [y1, y2, y3, y4] = m := ⟨_, rfl⟩
                have HJ : Hid ((if 2147483648 < beN [y1, y2, y3, y4] then -1 else ((beN [y1, y2, y3, y4] : Nat) : Int)) = -1) := by show _ = _; rw [if_pos (by omega)]
                clear hm hm2
                go_enter Try.func10, Try.ntmps10
                go_wp2_with fail
                refine (rinum_to rfl HI.out _).mono ?_
                rintro e _ ⟨rfl, rfl⟩
                go_wp2_with fail
                refine (rinum_to rfl HI.out _).mono ?_
                rintro e _ ⟨rfl, rfl⟩
                go_wp2_with fail
                refine (rinum_to rfl HJ.out _).mono ?_
                rintro e _ ⟨rfl, rfl⟩
                go_wp2
                exact bodyPost_ret (v := whV Wh.none) (by simp [results, Try.results10, go_sem, whV, Wh.none, bstr_nil]) rfl ⟨rfl, rfl⟩
            · rw [if_neg (fun h => hr4 h.2.1)]
              have hr5 : ((rest.length : Int) == 4) = false := by rw [beq_eq_false_iff_ne]; omega
              clear hr4
              go_enter Try.func10, Try.ntmps10
              go_wp2_with fail
              refine (rinum_to rfl HI.out _).mono ?_
              rintro e _ ⟨rfl, rfl⟩
              go_wp2_with fail
              refine (rinum_to rfl HI.out _).mono ?_
              rintro e _ ⟨rfl, rfl⟩
              go_wp2
              exact bodyPost_ret (v := whV Wh.none) (by simp [results, Try.results10, go_sem, whV, Wh.none, bstr_nil]) rfl ⟨rfl, rfl⟩
          · have q99 : ((c.toNat : Int) == 99) = false := by rw [beq_eq_false_iff_ne]; intro h; exact h99 (UInt8.toNat_inj.1 (by simpa using (by omega : c.toNat = 99)))
            rw [if_neg (fun h => h105 h.1), if_neg (fun h => h100 h.1), if_neg (fun h => h99 h.1)]
            clear h105 h100 h99
            go_enter Try.func10, Try.ntmps10
            go_wp2_with fail
            refine (rinum_to rfl HI.out _).mono ?_
            rintro e _ ⟨rfl, rfl⟩
            go_wp2_with fail
            refine (rinum_to rfl HI.out _).mono ?_
            rintro e _ ⟨rfl, rfl⟩
            go_wp2
            exact bodyPost_ret (v := whV Wh.none) (by simp [results, Try.results10, go_sem, whV, Wh.none, bstr_nil]) rfl ⟨rfl, rfl⟩

end Go.Proofs.Ytjbnhofdpklfoaa
