/- The reference of package sum: Of: its contract. -/
import Derived.Test.YtppckmfaidpliaaDoorOf
import Derived.Test.YtppckmfaidpliaaDoorOn
namespace Go.Proofs.YtppckmfaidpliaaDoor
open Go.RowKit
set_option linter.unusedSimpArgs false
set_option linter.unnecessarySimpa false
set_option linter.unusedVariables false

theorem word_vals (x : BitVec 32) : [Value.int .u8 (u x / 16777216), Value.int .u8 (u x / 65536 % 256), Value.int .u8 (u x / 256 % 256), Value.int .u8 (u x % 256)] = bvals (wordB x) := by
  have := x.isLt
  unfold u
  simp [bvals, wordB]
  omega
set_option maxRecDepth 100000 in
set_option maxHeartbeats 4000000 in
theorem of_ref (s : List UInt8) (hs : s.length ≤ 300) (w : World) :
    Calls Tryd.prog 11 #[.string (bstr s)] w fun e w' => e = .returned (.string (bstr (shaL s))) ∧ Below w.heap.size w w' := by
  have hsha := sha_feed s
  obtain ⟨hp1, hp2⟩ := pad_len s
  have PAD := pad_any s (by omega)
  obtain ⟨PL, hPL⟩ : ∃ y, padL s = y := ⟨_, rfl⟩
  rw [hPL] at hsha hp1 hp2 PAD
  have HSHA := Lib.hid hsha
  clear hsha hPL
  go_enter Tryd.func11, Tryd.ntmps11
  go_wp2_with fail
  refine (primes_any _).mono ?_
  rintro e w1 ⟨pv, rfl, hpo, hb1⟩
  obtain ⟨gp, cp, hpv, hPA⟩ := nums_own hpo (by omega)
  rw [pr310] at hpv hPA
  subst hpv
  have HPA := Lib.hid hPA
  clear hPA hpo
  obtain ⟨i0, hi0, hz0, hz1, hz2⟩ := info_parts int_info
  go_wp2_with fail
  go_loopw [4, 5, 6] (fun kv hv i wr => ∃ n : Nat, n ≤ 64 ∧ i = .int .i64 n ∧ OfSt w1.heap.size wr kv hv n (min n 8) ∧ Below w1.heap.size w1 wr) (fun _ _ i _ => 64 - (intOf i).toNat)
  case atStart => exact ⟨0, by omega, rfl, ⟨Owns.nil _ _ _, Owns.nil _ _ _, (by intro b e; cases e), (by intro b e; cases e), (by intro b e; cases e)⟩, Below.refl _ _⟩
  case round =>
    obtain ⟨n, hn, rfl, st, hb⟩ := hrel
    by_cases hlt : n < 64
    · have q1 : decide ((n : Int) < 64) = true := decide_eq_true (by omega)
      have T0 : (0 : Int) ≤ n := by omega
      have T64 : (n : Int) < 64 := by omega
      have pc : wr.cell? ⟨gp, n, none⟩ = some (.int .i64 ((prL 310).getD n 0 : Nat)) := by rw [hb.cell (p := ⟨gp, n, none⟩) (cell_lt (HPA.out n hlt))]; exact HPA.out n hlt
      have R3 := root3_to n hlt
      have R2 := fun h => root2_to n h
      obtain ⟨p, hp⟩ : ∃ y, (prL 310).getD n 0 = y := ⟨_, rfl⟩
      rw [hp] at pc R3 R2
      have hp2' : wr.cell? ⟨gp, n, none⟩ = some (.int .i64 (p : Nat)) := pc
      have hp1' : w1.cell? ⟨gp, n, none⟩ = some (.int .i64 (p : Nat)) := by rw [← hp]; exact HPA.out n hlt
      have HPC := Lib.hid hp1'
      have HR2 := Lib.hid R2
      have G1 := Lib.hid (show n + 1 ≤ maxLen by unfold maxLen; omega)
      have G2 := Lib.hid (show (n + 1) * 8 ≤ 140737488355328 by omega)
      clear hp R2 hp2' hp1'
      go_wp2_with fail
      refine (R3 _).mono ?_
      rintro e w2 ⟨rfl, hb2⟩
      have st2 := st.below hb2
      have hb2' := bthen hb hb2
      have hs2 := hb2'.size
      have hal := World.grownBy_alloc w2 (.cells #[.int .i64 (u (rootsW.getD n 0))] 3)
      go_wp2_with (at_builtin; refine wpList_append_z (P := Tryd.prog) _ rfl _ _ 36 rfl 3 i0 (.int .i64 0) 1 8 Tryd.underlying36 hi0 hz0 hz1 hz2 rfl (by decide) _ n _ rfl (st2.k.alloc _) ⟨w2.heap.size, 0, none⟩ 1 1 [.int .i64 (u (rootsW.getD n 0))] rfl rfl (World.news_of_block (Blk.new w2 _ _)) ?c1 (by decide) G1.out G2.out _ rfl ?_)
      case c1 => intro u hu; simp at hu; subst hu; rfl
      intro g cap w3 hown3 hgr3 hat3 hlt3 hcap3
      have st2a := st2.below ((Below.refl _ _).alloc (Nat.le_refl _) (.cells #[.int .i64 (u (rootsW.getD n 0))] 3))
      have hsa : w1.heap.size ≤ (w2.alloc (.cells #[.int .i64 (u (rootsW.getD n 0))] 3)).heap.size := by simp; omega
      have st3 := st2a.addK hsa hlt hown3 hgr3 (by simpa using hat3) hcap3
      have hb3 := (hb2'.alloc hs2 (.cells #[.int .i64 (u (rootsW.getD n 0))] 3)).grown hgr3 hsa (fun k hk => st.kB k hk)
      have hs3 := hb3.size
      clear hown3 hgr3 hat3 st2a hsa hal
      by_cases h8 : n < 8
      · have q2 : decide ((n : Int) < 8) = true := decide_eq_true (by omega)
        rw [show min n 8 = n by omega] at st3
        have pc3 : w3.cell? ⟨gp, n, none⟩ = some (.int .i64 (p : Nat)) := by rw [hb3.cell (p := ⟨gp, n, none⟩) (cell_lt HPC.out)]; exact HPC.out
        go_wp2_with fail
        refine (HR2.out h8 _).mono ?_
        rintro e w4 ⟨rfl, hb4⟩
        have st4 := st3.below hb4
        have hb4' := bthen hb3 hb4
        have hs4 := hb4'.size
        go_wp2_with (at_builtin; refine wpList_append_z (P := Tryd.prog) _ rfl _ _ 36 rfl 3 i0 (.int .i64 0) 1 8 Tryd.underlying36 hi0 hz0 hz1 hz2 rfl (by decide) _ n _ rfl (st4.h.alloc _) ⟨w4.heap.size, 0, none⟩ 1 1 [.int .i64 (u (H8.begin0.l.getD n 0))] rfl rfl (World.news_of_block (Blk.new w4 _ _)) ?c2 (by decide) G1.out G2.out _ rfl ?_)
        case c2 => intro u hu; simp at hu; subst hu; rfl
        intro g5 cap5 w5 hown5 hgr5 hat5 hlt5 hcap5
        have st4a := st4.below ((Below.refl _ _).alloc (Nat.le_refl _) (.cells #[.int .i64 (u (H8.begin0.l.getD n 0))] 3))
        have hsa : w1.heap.size ≤ (w4.alloc (.cells #[.int .i64 (u (H8.begin0.l.getD n 0))] 3)).heap.size := by simp; omega
        have st5 := st4a.addH hsa h8 hown5 hgr5 (by simpa using hat5) hcap5
        have hb5 := (hb4'.alloc hs4 (.cells #[.int .i64 (u (H8.begin0.l.getD n 0))] 3)).grown hgr5 hsa (fun k hk => st4.hB k hk)
        rw [show n + 1 = min (n + 1) 8 by omega] at st5
        have e5 : min (n + 1) 8 = n + 1 := by omega
        clear hown5 hgr5 hat5 st4a hsa
        have HST := Lib.hid st5
        clear st5 st4 st3 st2 st
        go_wp2
        go_roundw
        case rel =>
          refine ⟨n + 1, by omega, by go_num, ?_, hb5⟩
          have := HST.out
          simpa [e5] using this
        case measure => simp [intOf] <;> omega
      · have q2 : decide ((n : Int) < 8) = false := decide_eq_false (by omega)
        rw [show min n 8 = min (n + 1) 8 by omega] at st3
        go_wp2
        go_roundw
        case rel => exact ⟨n + 1, by omega, by go_num, st3, hb3⟩
        case measure => simp [intOf] <;> omega
    · obtain rfl : n = 64 := by omega
      have q1 : decide ((64 : Int) < 64) = false := by decide
      have hk : WordsAt wr u4 rootsW := words_own (n := 64) (l := rootsW.take 64) (st.k.row (by decide)) (by decide)
      have hh : WordsAt wr u5 H8.begin0.l := words_own (n := 8) (l := H8.begin0.l.take (min 64 8)) (st.h.row (by decide)) (by decide)
      have hb' := bthen hb1 hb
      clear st
      go_wp2_with fail
      refine (PAD _).mono ?_
      rintro e w3 ⟨rfl, hb3⟩
      have hk3 := hk.all hb3
      have hh3 := hh.all hb3
      have hb3' := bthen hb' hb3
      have HK := Lib.hid hk3
      clear hk hh hk3
      go_wp2_with fail
      go_loopw [5, 7] (fun hv at_ wv => ∃ q : Nat, 64 * q ≤ PL.length ∧ at_ = .int .i64 ((64 * q : Nat) : Int) ∧ WordsAt wv hv (H8.feed q H8.begin0 PL).l ∧ Below w3.heap.size w3 wv) (fun _ i _ => PL.length - (intOf i).toNat)
      case atStart => exact ⟨0, by omega, rfl, hh3, Below.refl _ _⟩
      case round =>
        clear hh3
        obtain ⟨q, hq, rfl, hW, hb4⟩ := hrel
        obtain ⟨A, hA⟩ : ∃ A, 64 * q = A := ⟨_, rfl⟩
        have hfs := feed_step q PL
        obtain ⟨Y, hY⟩ : ∃ Y, H8.feed q H8.begin0 PL = Y := ⟨_, rfl⟩
        rw [hY] at hW hfs
        rw [hA] at hq hfs ⊢
        by_cases hlt : A < PL.length
        · have hlt2 : A + 64 ≤ PL.length := by omega
          have q1' : decide ((A : Int) < PL.length) = true := decide_eq_true (by omega)
          have e1 : IntKind.i64.wrap ((A : Int) + 64) = A + 64 := IntWalk.i64_in _ ⟨by omega, by omega⟩
          have T0 : (0 : Int) ≤ A := by omega
          have T1 : (A : Int) ≤ A + 64 := by omega
          have T2 : (A : Int) + 64 ≤ PL.length := by omega
          have T3 : ((A : Int) + 64).toNat = A + 64 := by omega
          have hcl : ((PL.take (A + 64)).drop A).length = 64 := by simp; omega
          have hfs2 : H8.feed (q + 1) H8.begin0 PL = Y.behind ((PL.take (A + 64)).drop A) := by rw [hfs, List.drop_take, show A + 64 - A = 64 by omega]
          obtain ⟨CK, hCK⟩ : ∃ y, (PL.take (A + 64)).drop A = y := ⟨_, rfl⟩
          have hkw := HK.out.all hb4
          rw [hCK] at hcl hfs2
          have HFS := Lib.hid hfs2
          have HCK := Lib.hid hCK
          have HCL := Lib.hid hcl
          have HA2 := Lib.hid (show 64 * (q + 1) = A + 64 by omega)
          clear hfs hfs2 hCK hcl hY
          go_wp2_with fail
          rw [HCK.out]
          refine (one_any Y CK HCL.out _ _ _ hW hkw).mono ?_
          rintro e w5 ⟨hv5, rfl, hown5, hb5⟩
          have hW5 := words_own hown5 (by omega)
          rw [← HFS.out] at hW5
          have hb5' := bthen hb4 hb5
          clear hown5 hW hkw
          go_wp2
          go_roundw
          case rel => exact ⟨q + 1, by rw [HA2.out]; omega, by rw [HA2.out]; go_num, hW5, hb5'⟩
          case measure => simp [intOf] <;> omega
        · have q1' : decide ((A : Int) < PL.length) = false := decide_eq_false (by omega)
          have hqe : PL.length / 64 = q := by omega
          have hfin : shaL s = Y.bytes := by rw [HSHA.out, hqe, hY]
          have HF := Lib.hid hfin
          have hb4' := bthen hb3' hb4
          obtain ⟨gh, ch, hhv, hHA⟩ := hW
          rw [show Y.l.length = 8 from rfl] at hhv hHA
          subst hhv
          have HHA := Lib.hid hHA
          clear hfin hHA hfs hY hqe
          go_wp2_with fail
          go_loopw [8, 9] (fun v i wv => ∃ j : Nat, j ≤ 8 ∧ i = .int .i64 j ∧ wv.ownsRow wr.heap.size 5 1 v (4 * j) (bvals ((Y.l.take j).flatMap wordB)) ∧ Below wr.heap.size wr wv) (fun _ i _ => 8 - (intOf i).toNat)
          case atStart => exact ⟨0, by omega, rfl, World.ownsRow_nil _ _ _ _, Below.refl _ _⟩
          case round =>
            obtain ⟨j, hj, rfl, hown, hb6⟩ := hrel
            by_cases hlt8 : j < 8
            · have q3 : decide ((j : Int) < 8) = true := decide_eq_true (by omega)
              have T0 : (0 : Int) ≤ j := by omega
              have T8 : (j : Int) < 8 := by omega
              have kc : wr.cell? ⟨gh, j, none⟩ = some (.int .i64 (u (Y.l.getD j 0))) := by rw [hb6.cell (p := ⟨gh, j, none⟩) (cell_lt (HHA.out j hlt8))]; exact HHA.out j hlt8
              have hnx := bytes_step Y j hlt8
              obtain ⟨X, hX⟩ : ∃ y, Y.l.getD j 0 = y := ⟨_, rfl⟩
              rw [hX] at kc hnx
              have hlo := u_lo X
              have hhi := u_hi X
              have wv := word_vals X
              have hnx2 : bvals ((Y.l.take j).flatMap wordB) ++ [Value.int .u8 (u X / 16777216), Value.int .u8 (u X / 65536 % 256), Value.int .u8 (u X / 256 % 256), Value.int .u8 (u X % 256)] = bvals ((Y.l.take (j + 1)).flatMap wordB) := by rw [hnx, wv]; simp [bvals]
              have HN2 := Lib.hid hnx2
              have s3 : IntKind.u8.wrap (u X / 16777216) = u X / 16777216 := by rw [IntKind.wrap_u8]; omega
              have s2 : IntKind.u8.wrap (u X / 65536) = u X / 65536 % 256 := by rw [IntKind.wrap_u8]
              have s1 : IntKind.u8.wrap (u X / 256) = u X / 256 % 256 := by rw [IntKind.wrap_u8]
              have s0 : IntKind.u8.wrap (u X) = u X % 256 := by rw [IntKind.wrap_u8]
              have F1 := Lib.hid (show 4 * j + 4 ≤ maxLen by unfold maxLen; omega)
              have F2 := Lib.hid (show (4 * j + 4) * 1 ≤ 140737488355328 by omega)
              have hod := drow hown
              have hbd := hb6.drew
              obtain ⟨wd, hwd⟩ : ∃ y, wr.drew = y := ⟨_, rfl⟩
              have kd : wd.cell? ⟨gh, j, none⟩ = some (.int .i64 (u X)) := by rw [← hwd]; exact kc
              rw [hwd] at hod hbd
              have hsz := hbd.size
              clear hnx hnx2 hX hown hb6 wv
              go_wp2_with fail
              refine wp_region_lag 24 (by kernel_rfl) (by kernel_rfl) rfl (.inl ⟨rfl, fun _ => rfl⟩) (fun _ _ _ h => h) ?_
              simp only [List.take_succ_cons, List.take_zero, List.drop_succ_cons, List.drop_zero]
              go_simp
              try rw [hwd]
              clear hwd
              repeat still_step
              refine wpStill_nil ?_
              go_wp2_with (at_builtin; refine wpList_appm (P := Tryd.prog) _ rfl _ _ 33 rfl _ 5 (.int .u8 0) 1 1 Tryd.underlying33 bl_byte rfl (by decide) _ (4 * j) 4 _ rfl hod _ rfl rfl ?c1 (by decide) F1.out F2.out hsz ?_)
              case c1 => intro y hy; simp at hy; rcases hy with rfl | rfl | rfl | rfl <;> rfl
              intro v' w7 hown7 _ hb7
              rw [HN2.out] at hown7
              have hb9 := hbd.trans hb7
              go_wp2
              go_roundw
              case rel => exact ⟨j + 1, by omega, by go_num, hown7, hb9⟩
              case measure => simp [intOf] <;> omega
            · obtain rfl : j = 8 := by omega
              have q3 : decide ((8 : Int) < 8) = false := by decide
              have hcv := own_string (P := Tryd.prog) (l := Y.bytes) Tryd.underlying33 Tryd.underlying5 Tryd.underlying9 hown
              have hb9 := bthen hb4' hb6
              clear hown
              go_wp2
              go_ret
              exact ⟨by rw [HF.out]; rfl, hb9⟩
end Go.Proofs.YtppckmfaidpliaaDoor
