/- The reference of package heat: Hot: contract. Written by wip/gen_rhot.py. -/
import Derived.Test.YtefobchpcdniiaaHre
namespace Go.Proofs.Ytefobchpcdniiaa
open Go Go.RowKit Go.Maps
set_option linter.unusedSimpArgs false
set_option linter.unnecessarySimpa false
set_option linter.unusedVariables false

def wsV (S : List It) : List Value := S.map fun i => Value.int .i64 i.w
theorem int_info : (Try.prog.info? 3).map (fun i => (i.zero, i.size, i.bytes)) = some (some (.int .i64 0), 1, 8) := by kernel_rfl
theorem wsV_get (S : List It) (i : Nat) (h : i < S.length) : (wsV S)[i]? = some (.int .i64 S[i].w) := by simp [wsV, h]
theorem keysV_get (S : List It) (i : Nat) (h : i < S.length) : (secV (S.map It.key))[i]? = some (.string (bstr S[i].key)) := by simp [secV, h]
theorem secV_one (l : List (List UInt8)) : ∀ u ∈ secV l, u.oneCell' = true := by
  intro u hu
  obtain ⟨_, _, rfl⟩ := List.mem_map.1 hu
  rfl
theorem wsV_one (l : List It) : ∀ u ∈ wsV l, u.oneCell' = true := by
  intro u hu
  obtain ⟨_, _, rfl⟩ := List.mem_map.1 hu
  rfl
theorem bk_yes {x : It} {S : List It} {b : Nat} (hb : b < S.length) (h : ltI x S[b] = true) : bk x S (b + 1) = bk x S b := by
  rw [bk]
  have e : S.getD b default = S[b] := by simp [List.getD_eq_getElem?_getD, hb]
  rw [e, if_pos h]
theorem bk_no {x : It} {S : List It} {b : Nat} (hb : b < S.length) (h : ltI x S[b] = false) : bk x S (b + 1) = b + 1 := by
  rw [bk]
  have e : S.getD b default = S[b] := by simp [List.getD_eq_getElem?_getD, hb]
  rw [e, if_neg (by simp [h])]
theorem less_irr (a b : List UInt8) (h : (a == b) = true) : Op.bytesLess a b = false := by
  have e : a = b := by simpa using h
  subst e
  rw [less_cmp, cmp_refl]
  rfl
theorem orow_pos {w : World} {base n size : Nat} {e : TypeId} {v : Value} {xs : List Value} (h : w.ownsRow base e size v n xs) (hn : 0 < n) : ∃ b c, v = .slice (some ⟨b, 0, none⟩) n c := by
  rcases h.2 with ⟨_, e⟩ | ⟨g, cap, cur, rfl, _⟩
  · omega
  · exact ⟨_, _, rfl⟩
theorem orow_cap {w : World} {base n size b c : Nat} {e : TypeId} {xs : List Value} (h : w.ownsRow base e size (.slice (some ⟨b, 0, none⟩) n c) n xs) : n ≤ c ∧ c ≤ maxLen := by
  rcases h.2 with ⟨e, _⟩ | ⟨g, cap, cur, e, _, _, h3, h4, _⟩
  · cases e
  · cases e; exact ⟨h3, h4⟩
theorem row_take {w : World} {base n b c : Nat} {e : TypeId} {xs : List Value} (h : w.ownsRow base e 1 (.slice (some ⟨b, 0, none⟩) n c) n xs) (p : Nat) : ∀ j u, (xs.take p)[j]? = some u → w.cell? ((⟨b, 0, none⟩ : Addr).add j) = some u := by
  intro j u hu
  have hl := h.1
  have hj : j < (xs.take p).length := by
    rcases Nat.lt_or_ge j (xs.take p).length with h | h
    · exact h
    · rw [List.getElem?_eq_none h] at hu; cases hu
  rw [List.length_take] at hj
  rw [List.getElem?_take_of_lt (by omega)] at hu
  rw [addr_add, Nat.zero_add, h.cellAt j (by omega)]
  exact hu
theorem row_drop {w : World} {base n b c : Nat} {e : TypeId} {xs : List Value} (h : w.ownsRow base e 1 (.slice (some ⟨b, 0, none⟩) n c) n xs) (p : Nat) : ∀ j u, (xs.drop p)[j]? = some u → w.cell? ((⟨b, p, none⟩ : Addr).add j) = some u := by
  intro j u hu
  have hl := h.1
  have hj : j < (xs.drop p).length := by
    rcases Nat.lt_or_ge j (xs.drop p).length with h | h
    · exact h
    · rw [List.getElem?_eq_none h] at hu; cases hu
  rw [List.length_drop] at hj
  rw [List.getElem?_drop] at hu
  rw [addr_add, h.cellAt (p + j) (by omega)]
  exact hu
theorem cut_ss {w : World} {base n b c : Nat} {e : TypeId} {l : List (List UInt8)} (h : w.ownsRow base e 1 (.slice (some ⟨b, 0, none⟩) n c) n (secV l)) (hn : l.length = n) (p : Nat) (hp : p ≤ n) : SsAt w (.slice (some ⟨b, 0, none⟩) p c) (l.take p) := by
  have e : (l.take p).length = p := by rw [List.length_take]; omega
  refine ⟨_, c, by rw [e], fun j hj => ⟨_, rfl, ?_⟩⟩
  rw [e] at hj
  rw [addr_add, Nat.zero_add, h.cellAt j (by omega)]
  simp [secV, List.getD_eq_getElem?_getD, List.getElem?_take_of_lt hj, show j < l.length by omega]

set_option maxRecDepth 100000 in
set_option maxHeartbeats 16000000 in
theorem rhot_any (g : Nat) (v : Value) (L : List Cn) (now n : Int) (hw : (Lit.int .i64 now).wf = true) (hn : L.length ≤ 1000) (w : World) (h : RfAt w g v L) :
    Calls Try.prog 20 #[.pointer (some ⟨g, 0, none⟩), .int .i64 now, .int .i64 n] w fun e w' => ∃ u, e = .returned u ∧ SsAt w' u (hotL L now n) ∧ Below w.heap.size w w' := by
  obtain ⟨A, c, rfl⟩ := h.form
  go_enter Try.func20, Try.ntmps20
  go_wp2_with fail
  go_loopw [7, 8, 9] (fun o ws i wr => ∃ j : Nat, j ≤ L.length ∧ i = .int .i64 j ∧ wr.ownsRow 0 9 1 o (rhot now (L.take j)).length (secV ((rhot now (L.take j)).map It.key)) ∧ wr.ownsRow 0 3 1 ws (rhot now (L.take j)).length (wsV (rhot now (L.take j))) ∧ (rhot now (L.take j) = [] → o = .slice none 0 0 ∧ ws = .slice none 0 0) ∧ Below w.heap.size w wr) (fun _ _ i _ => L.length - (intOf i).toNat)
  case atStart => exact ⟨0, by omega, rfl, World.ownsRow_nil _ _ _ _, World.ownsRow_nil _ _ _ _, fun _ => ⟨rfl, rfl⟩, Below.refl _ _⟩
  case round =>
    obtain ⟨j, hj, rfl, ho, hws, hnil, hbel⟩ := hrel
    have hd := h.below hbel
    have Y0 := hd.1.cell 0
    simp at Y0
    by_cases hlt : j < L.length
    · have q1 : decide ((j : Int) < (L.length : Int)) = true := decide_eq_true (by omega)
      have hsn : rhot now (L.take (j + 1)) = rstep now (rhot now (L.take j)) L[j] := by rw [List.take_succ_eq_append_getElem hlt, rhot_snoc]
      have hlen : (rhot now (L.take j)).length ≤ 1000 := by
        have := rhot_len now (L.take j)
        rw [List.length_take] at this
        omega
      obtain ⟨S, hS⟩ : ∃ S, rhot now (L.take j) = S := ⟨_, rfl⟩
      rw [hS] at ho hws hnil hsn hlen
      have HS := Lib.hid hS
      have HSN := Lib.hid hsn
      clear hS hsn
      obtain ⟨b, c', e, hrow⟩ := hd.row (by omega)
      cases e
      obtain ⟨g1, g2, g3⟩ := cnsV_get L j hlt
      have y0 := hrow.cellAt (j * 3) (by omega)
      have y1 := hrow.cellAt (j * 3 + 1) (by omega)
      have y2 := hrow.cellAt (j * 3 + 2) (by omega)
      rw [g1] at y0
      rw [g2] at y1
      rw [g3] at y2
      have hok := h.2.2 L[j] (List.getElem_mem hlt)
      obtain ⟨x, hx⟩ : ∃ x, worthH L[j].n L[j].tick now = x := ⟨_, rfl⟩
      have W := fun w => rworth_to hx hok hw w
      have HX := Lib.hid hx
      clear hx
      have hsz := hbel.size
      by_cases hS0 : S = []
      · subst hS0
        obtain ⟨rfl, rfl⟩ := hnil rfl
        clear hnil g1 g2 g3
        go_wp2_with fail
        refine (W _).mono ?_
        rintro e w2 ⟨rfl, c1⟩
        have ho2 := row_below ho c1
        have hws2 := row_below hws c1
        have hd2 := hd.below c1
        have hb2 : Below w.heap.size w w2 := hbel.trans (c1.mono hsz)
        have hsz2 := hb2.size
        clear y0 y1 y2 hrow hd Y0 ho hws
        go_wp2_with fail
        go_loopw [11] (fun i wi => i = .int .i64 0 ∧ Below w2.heap.size w2 wi) (fun i _ => 0)
        case atStart => exact ⟨rfl, Below.refl _ _⟩
        case round =>
          obtain ⟨rfl, hb3⟩ := hrel
          have hd3 := hd2.below hb3
          have ho3 := row_below ho2 hb3
          have hws3 := row_below hws2 hb3
          go_wp2_with fail
          go_quiet (fail)
          generalize hw4 : World.drewN _ _ = w4
          have hb4 : Below w2.heap.size w2 w4 := by rw [← hw4]; exact hb3.dN _
          clear hw4 ho3 hws3 hd3
          have ho4 := row_below ho2 hb4
          have hws4 := row_below hws2 hb4
          have hd4 := hd2.below hb4
          have hb24 : Below w.heap.size w w4 := hb2.trans (hb4.mono hsz2)
          have hszw : w.heap.size ≤ w4.heap.size := hb24.size
          by_cases hx0 : 0 < x
          · have q5 : decide (0 < x) = true := decide_eq_true hx0
            go_wp2_with (at_builtin; refine wpList_spread (P := Try.prog) w4 rfl _ _ 37 rfl w4.heap.size 9 (.string ⟨#[]⟩) 1 16 Try.underlying37 str_info rfl (by decide) (.slice none 0 0) 0 [] rfl (World.ownsRow_nil _ _ _ _) none 0 0 [] rfl rfl (fun h => absurd h (by decide)) (fun u hu => by cases hu) (by decide) (by decide) (Nat.le_refl _) ?_)
            intro v5 w5 r5 m5 b5 s5
            have R5 := Lib.hid r5
            clear r5
            have b45 : Below w4.heap.size w4 w5 := b5
            have hd5 := hd4.below b45
            have z3 := hd5.1.cell 0
            simp at z3
            obtain ⟨g1, g2, g3⟩ := cnsV_get L j hlt
            have z2 := hd5.2.1.cellAt (j * 3) (by omega)
            rw [g1] at z2
            clear g1 g2 g3
            go_wp2_with (at_builtin; refine wpList_ap2 (P := Try.prog) _ rfl _ _ 37 rfl w4.heap.size 9 (.string ⟨#[]⟩) 1 16 Try.underlying37 str_info rfl (by decide) v5 0 [] rfl R5.out _ (g := w5.heap.size) rfl rfl rfl ?c1 (by decide) (by decide) s5 ?_)
            case c1 => intro u hu; simp at hu; subst hu; rfl
            intro v6 w6 r6 g6 b6
            have R6 := Lib.hid r6
            clear r6
            have b46 : Below w4.heap.size w4 w6 := b45.trans b6
            go_wp2_with (at_builtin; refine wpList_spread (P := Try.prog) w6 rfl _ _ 37 rfl w4.heap.size 9 (.string ⟨#[]⟩) 1 16 Try.underlying37 str_info rfl (by decide) v6 1 [Value.string (bstr L[j].key)] rfl R6.out none 0 0 [] rfl rfl (fun h => absurd h (by decide)) (fun u hu => by cases hu) (by decide) (by decide) b46.size ?_)
            intro v7 w7 r7 m7 b7 s7
            have R7 := Lib.hid r7
            clear r7
            have b47 : Below w4.heap.size w4 w7 := b46.trans b7
            go_wp2_with (at_builtin; refine wpList_spread (P := Try.prog) w7 rfl _ _ 65 rfl w4.heap.size 3 (.int .i64 0) 1 8 Try.underlying65 int_info rfl (by decide) (.slice none 0 0) 0 [] rfl (World.ownsRow_nil _ _ _ _) none 0 0 [] rfl rfl (fun h => absurd h (by decide)) (fun u hu => by cases hu) (by decide) (by decide) b47.size ?_)
            intro v8 w8 r8 m8 b8 s8
            have R8 := Lib.hid r8
            clear r8
            have b48 : Below w4.heap.size w4 w8 := b47.trans b8
            have K8 := Lib.hid (row_moved R7.out (fun k e => m8 k (R7.out.lt k e).2 (by simp [Value.ownBlock])))
            go_wp2_with (at_builtin; refine wpList_ap2 (P := Try.prog) _ rfl _ _ 65 rfl w4.heap.size 3 (.int .i64 0) 1 8 Try.underlying65 int_info rfl (by decide) v8 0 [] rfl R8.out _ (g := w8.heap.size) rfl rfl rfl ?c1 (by decide) (by decide) b48.size ?_)
            case c1 => intro u hu; simp at hu; subst hu; rfl
            intro v9 w9 r9 g9 b9
            have R9 := Lib.hid r9
            clear r9
            have b49 : Below w4.heap.size w4 w9 := b48.trans b9
            have K9 := Lib.hid (row_grown (row_below K8.out ((Below.refl _ _).alloc (Nat.le_refl _) _)) g9 (fun k e e2 => orow_apart K8.out R8.out (by decide) e e2))
            go_wp2_with (at_builtin; refine wpList_spread (P := Try.prog) w9 rfl _ _ 65 rfl w4.heap.size 3 (.int .i64 0) 1 8 Try.underlying65 int_info rfl (by decide) v9 1 [Value.int .i64 x] rfl R9.out none 0 0 [] rfl rfl (fun h => absurd h (by decide)) (fun u hu => by cases hu) (by decide) (by decide) b49.size ?_)
            intro v10 w10 r10 m10 b10 s10
            have b410 : Below w4.heap.size w4 w10 := b49.trans b10
            have k10 := row_moved K9.out (fun k e => m10 k (K9.out.lt k e).2 (orow_apart K9.out R9.out (by decide) e))
            have hbf : Below w.heap.size w w10 := hb24.trans (b410.mono hszw)
            have hr : rhot now (L.take (j + 1)) = [(⟨L[j].key, x⟩ : It)] := by
              rw [HSN.out]
              unfold rstep itOf rins
              rw [HX.out, if_pos hx0]
              rfl
            have hK : secV ((rhot now (L.take (j + 1))).map It.key) = [Value.string (bstr L[j].key)] := by
              rw [hr]
              rfl
            have hW : wsV (rhot now (L.take (j + 1))) = [Value.int .i64 x] := by
              rw [hr]
              rfl
            have hN : (rhot now (L.take (j + 1))).length = 1 := by
              rw [hr]
              rfl
            have hne : rhot now (L.take (j + 1)) ≠ [] := by rw [hr]; simp
            have K10 : Hid (w10.ownsRow w4.heap.size 9 1 v7 (rhot now (L.take (j + 1))).length (secV ((rhot now (L.take (j + 1))).map It.key))) := Lib.hid (by rw [hN, hK]; simpa using k10)
            have R10 : Hid (w10.ownsRow w4.heap.size 3 1 v10 (rhot now (L.take (j + 1))).length (wsV (rhot now (L.take (j + 1))))) := Lib.hid (by rw [hN, hW]; simpa using r10)
            clear hr hK hW hN k10 r10
            go_wp2
            go_round
            case rel => exact ⟨j + 1, by omega, by go_num, K10.out.at0, R10.out.at0, fun e => absurd e hne, hbf⟩
            case measure => simp [intOf]; omega
          · have q5 : decide (0 < x) = false := decide_eq_false hx0
            have hr : rhot now (L.take (j + 1)) = [] := by
              rw [HSN.out]
              unfold rstep itOf rins
              rw [HX.out, if_neg hx0]
            have HR := Lib.hid hr
            have HI := Lib.hid hx0
            clear hr hx0
            go_wp2
            go_roundw
            case rel => exact ⟨j + 1, by omega, by go_num, by rw [HR.out]; exact ho4, by rw [HR.out]; exact hws4, fun e => ⟨rfl, rfl⟩, hb24⟩
            case measure => simp [intOf]; omega
      · have hpos : 0 < S.length := List.length_pos_iff.2 hS0
        have HNE := Lib.hid hS0
        clear hnil hS0
        obtain ⟨bo, co, rfl⟩ := orow_pos ho hpos
        obtain ⟨bw, cw, rfl⟩ := orow_pos hws hpos
        clear g1 g2 g3
        go_wp2_with fail
        refine (W _).mono ?_
        rintro e w2 ⟨rfl, c1⟩
        have ho2 := row_below ho c1
        have hws2 := row_below hws c1
        have hd2 := hd.below c1
        have hb2 : Below w.heap.size w w2 := hbel.trans (c1.mono hsz)
        have hsz2 := hb2.size
        clear y0 y1 y2 hrow hd Y0 ho hws
        go_wp2_with fail
        go_loopw [11] (fun i wi => ∃ a : Nat, a ≤ S.length ∧ i = .int .i64 a ∧ Hid (bk ⟨L[j].key, x⟩ S S.length = bk ⟨L[j].key, x⟩ S a) ∧ Below w2.heap.size w2 wi) (fun i _ => (intOf i).toNat)
        case atStart => exact ⟨S.length, Nat.le_refl _, rfl, Lib.hid rfl, Below.refl _ _⟩
        case round =>
          obtain ⟨a, ha, rfl, HB, hb3⟩ := hrel
          have hd3 := hd2.below hb3
          have ho3 := row_below ho2 hb3
          have hws3 := row_below hws2 hb3
          rcases a with _ | a
          · obtain ⟨p, HP, hpl, HPE⟩ : ∃ p, Hid (bk ⟨L[j].key, x⟩ S S.length = p) ∧ p ≤ S.length ∧ Hid (((0 : Nat) : Int) = (p : Int)) := ⟨0, Lib.hid HB.out, by omega, Lib.hid rfl⟩
            go_wp2_with fail
            go_quiet (fail)
            rw [HPE.out]
            clear HPE HB
            generalize hw4 : World.drewN _ _ = w4
            have hb4 : Below w2.heap.size w2 w4 := by rw [← hw4]; exact hb3.dN _
            clear hw4 ho3 hws3 hd3
            have ho4 := row_below ho2 hb4
            have hws4 := row_below hws2 hb4
            have hd4 := hd2.below hb4
            have hb24 : Below w.heap.size w w4 := hb2.trans (hb4.mono hsz2)
            have hszw : w.heap.size ≤ w4.heap.size := hb24.size
            by_cases hx0 : 0 < x
            · have q5 : decide (0 < x) = true := decide_eq_true hx0
              obtain ⟨hco, hco2⟩ := orow_cap ho4
              obtain ⟨hcw, hcw2⟩ := orow_cap hws4
              have T1 : (0 : Int) ≤ p := by omega
              have T2 : (p : Int) ≤ S.length := by omega
              have T3 : (p : Int) ≤ co := by omega
              have T4 : (p : Int) ≤ cw := by omega
              have T5 : p ≤ co := by omega
              have T6 : p ≤ cw := by omega
              obtain ⟨KV, hKV⟩ : ∃ y, secV (S.map It.key) = y := ⟨_, rfl⟩
              obtain ⟨WV, hWV⟩ : ∃ y, wsV S = y := ⟨_, rfl⟩
              rw [hKV] at ho4
              rw [hWV] at hws4
              have ok1 : ∀ u ∈ KV, u.oneCell' = true := by rw [← hKV]; exact secV_one _
              have ok2 : ∀ u ∈ WV, u.oneCell' = true := by rw [← hWV]; exact wsV_one _
              have kl : KV.length = S.length := by rw [← hKV]; simp [secV]
              have wl : WV.length = S.length := by rw [← hWV]; simp [wsV]
              have U1 := Lib.hid (show (KV.take p).length = p * 1 by simp; omega)
              have U2 := Lib.hid (show (KV.drop p).length = (S.length - p) * 1 by simp; omega)
              have U3 := Lib.hid (show (WV.take p).length = p * 1 by simp; omega)
              have U4 := Lib.hid (show (WV.drop p).length = (S.length - p) * 1 by simp; omega)
              have O1 := Lib.hid (fun u (hu : u ∈ KV.take p) => ok1 u (List.mem_of_mem_take hu))
              have O2 := Lib.hid (fun u (hu : u ∈ KV.drop p) => ok1 u (List.mem_of_mem_drop hu))
              have O3 := Lib.hid (fun u (hu : u ∈ WV.take p) => ok2 u (List.mem_of_mem_take hu))
              have O4 := Lib.hid (fun u (hu : u ∈ WV.drop p) => ok2 u (List.mem_of_mem_drop hu))
              have F1 := Lib.hid (show 0 + p ≤ maxLen ∧ p + 1 ≤ maxLen ∧ p + 1 + (S.length - p) ≤ maxLen by unfold maxLen; omega)
              have F2 := Lib.hid (show (0 + p) * 16 ≤ 140737488355328 ∧ (p + 1) * 16 ≤ 140737488355328 ∧ (p + 1 + (S.length - p)) * 16 ≤ 140737488355328 by omega)
              have F3 := Lib.hid (show (0 + p) * 8 ≤ 140737488355328 ∧ (p + 1) * 8 ≤ 140737488355328 ∧ (p + 1 + (S.length - p)) * 8 ≤ 140737488355328 by omega)
              have HKV := Lib.hid hKV
              have HWV := Lib.hid hWV
              have fin : p + 1 + (S.length - p) = S.length + 1 := by omega
              have FIN := Lib.hid fin
              clear hKV hWV ok1 ok2 kl wl fin
              go_wp2_with (at_builtin; refine wpList_spread (P := Try.prog) w4 rfl _ _ 37 rfl w4.heap.size 9 (.string ⟨#[]⟩) 1 16 Try.underlying37 str_info rfl (by decide) (.slice none 0 0) 0 [] rfl (World.ownsRow_nil _ _ _ _) (some ⟨bo, 0, none⟩) p co (KV.take p) rfl U1.out (fun _ => ⟨_, rfl, row_take ho4 p⟩) O1.out F1.out.1 F2.out.1 (Nat.le_refl _) ?_)
              intro v5 w5 r5 m5 b5 s5
              have R5 := Lib.hid r5
              clear r5
              have b45 : Below w4.heap.size w4 w5 := b5
              have hd5 := hd4.below b45
              have z3 := hd5.1.cell 0
              simp at z3
              obtain ⟨g1, g2, g3⟩ := cnsV_get L j hlt
              have z2 := hd5.2.1.cellAt (j * 3) (by omega)
              rw [g1] at z2
              clear g1 g2 g3
              go_wp2_with (at_builtin; refine wpList_ap2 (P := Try.prog) _ rfl _ _ 37 rfl w4.heap.size 9 (.string ⟨#[]⟩) 1 16 Try.underlying37 str_info rfl (by decide) v5 p (KV.take p) rfl R5.out _ (g := w5.heap.size) rfl rfl rfl ?c1 F1.out.2.1 F2.out.2.1 s5 ?_)
              case c1 => intro u hu; simp at hu; subst hu; rfl
              intro v6 w6 r6 g6 b6
              have R6 := Lib.hid r6
              clear r6
              have b46 : Below w4.heap.size w4 w6 := b45.trans b6
              go_wp2_with (refine wpList_tail w6 rfl _ _ 37 9 rfl Try.underlying37 (.string ⟨#[]⟩) 16 str_info bo S.length co p rfl rfl hpl hco ?_)
              intro ad1 had1
              have had1 := Lib.hid had1
              go_wp2_with (at_builtin; refine wpList_spread (P := Try.prog) w6 rfl _ _ 37 rfl w4.heap.size 9 (.string ⟨#[]⟩) 1 16 Try.underlying37 str_info rfl (by decide) v6 (p + 1) ((KV.take p) ++ [Value.string (bstr L[j].key)]) rfl R6.out (some ad1) (S.length - p) (co - p) (KV.drop p) rfl U2.out (fun hm => ⟨_, rfl, by rw [had1.out hm]; exact row_drop (row_below ho4 b46) p⟩) O2.out F1.out.2.2 F2.out.2.2 b46.size ?_)
              intro v7 w7 r7 m7 b7 s7
              have R7 := Lib.hid r7
              clear r7
              have b47 : Below w4.heap.size w4 w7 := b46.trans b7
              go_wp2_with (at_builtin; refine wpList_spread (P := Try.prog) w7 rfl _ _ 65 rfl w4.heap.size 3 (.int .i64 0) 1 8 Try.underlying65 int_info rfl (by decide) (.slice none 0 0) 0 [] rfl (World.ownsRow_nil _ _ _ _) (some ⟨bw, 0, none⟩) p cw (WV.take p) rfl U3.out (fun _ => ⟨_, rfl, row_take (row_below hws4 b47) p⟩) O3.out F1.out.1 F3.out.1 b47.size ?_)
              intro v8 w8 r8 m8 b8 s8
              have R8 := Lib.hid r8
              clear r8
              have b48 : Below w4.heap.size w4 w8 := b47.trans b8
              have K8 := Lib.hid (row_moved R7.out (fun k e => m8 k (R7.out.lt k e).2 (by simp [Value.ownBlock])))
              go_wp2_with (at_builtin; refine wpList_ap2 (P := Try.prog) _ rfl _ _ 65 rfl w4.heap.size 3 (.int .i64 0) 1 8 Try.underlying65 int_info rfl (by decide) v8 p (WV.take p) rfl R8.out _ (g := w8.heap.size) rfl rfl rfl ?c1 F1.out.2.1 F3.out.2.1 b48.size ?_)
              case c1 => intro u hu; simp at hu; subst hu; rfl
              intro v9 w9 r9 g9 b9
              have R9 := Lib.hid r9
              clear r9
              have b49 : Below w4.heap.size w4 w9 := b48.trans b9
              have K9 := Lib.hid (row_grown (row_below K8.out ((Below.refl _ _).alloc (Nat.le_refl _) _)) g9 (fun k e e2 => orow_apart K8.out R8.out (by decide) e e2))
              go_wp2_with (refine wpList_tail w9 rfl _ _ 65 3 rfl Try.underlying65 (.int .i64 0) 8 int_info bw S.length cw p rfl rfl hpl hcw ?_)
              intro ad2 had2
              have had2 := Lib.hid had2
              go_wp2_with (at_builtin; refine wpList_spread (P := Try.prog) w9 rfl _ _ 65 rfl w4.heap.size 3 (.int .i64 0) 1 8 Try.underlying65 int_info rfl (by decide) v9 (p + 1) ((WV.take p) ++ [Value.int .i64 x]) rfl R9.out (some ad2) (S.length - p) (cw - p) (WV.drop p) rfl U4.out (fun hm => ⟨_, rfl, by rw [had2.out hm]; exact row_drop (row_below hws4 b49) p⟩) O4.out F1.out.2.2 F3.out.2.2 b49.size ?_)
              intro v10 w10 r10 m10 b10 s10
              have b410 : Below w4.heap.size w4 w10 := b49.trans b10
              have k10 := row_moved K9.out (fun k e => m10 k (K9.out.lt k e).2 (orow_apart K9.out R9.out (by decide) e))
              have hbf : Below w.heap.size w w10 := hb24.trans (b410.mono hszw)
              have hr : rhot now (L.take (j + 1)) = S.take p ++ (⟨L[j].key, x⟩ : It) :: S.drop p := by
                rw [HSN.out]
                unfold rstep itOf rins
                rw [HX.out, if_pos hx0, HP.out]
              have hK : secV ((rhot now (L.take (j + 1))).map It.key) = KV.take p ++ [Value.string (bstr L[j].key)] ++ KV.drop p := by
                rw [hr, ← HKV.out]
                simp [secV, List.map_take, List.map_drop]
              have hW : wsV (rhot now (L.take (j + 1))) = WV.take p ++ [Value.int .i64 x] ++ WV.drop p := by
                rw [hr, ← HWV.out]
                simp [wsV, List.map_take, List.map_drop]
              have hN : (rhot now (L.take (j + 1))).length = p + 1 + (S.length - p) := by
                rw [hr]
                simp
                omega
              have hne : rhot now (L.take (j + 1)) ≠ [] := by rw [hr]; simp
              have K10 : Hid (w10.ownsRow w4.heap.size 9 1 v7 (rhot now (L.take (j + 1))).length (secV ((rhot now (L.take (j + 1))).map It.key))) := Lib.hid (by rw [hN, hK]; simpa using k10)
              have R10 : Hid (w10.ownsRow w4.heap.size 3 1 v10 (rhot now (L.take (j + 1))).length (wsV (rhot now (L.take (j + 1))))) := Lib.hid (by rw [hN, hW]; simpa using r10)
              clear hr hK hW hN k10 r10
              go_wp2
              go_round
              case rel => exact ⟨j + 1, by omega, by go_num, K10.out.at0, R10.out.at0, fun e => absurd e hne, hbf⟩
              case measure => simp [intOf]; omega
            · have q5 : decide (0 < x) = false := decide_eq_false hx0
              have hr : rhot now (L.take (j + 1)) = S := by
                rw [HSN.out]
                unfold rstep itOf rins
                rw [HX.out, if_neg hx0]
              have HR := Lib.hid hr
              have HI := Lib.hid hx0
              clear hr hx0
              go_wp2
              go_roundw
              case rel => exact ⟨j + 1, by omega, by go_num, by rw [HR.out]; exact ho4, by rw [HR.out]; exact hws4, fun e => absurd (HR.out.symm.trans e) HNE.out, hb24⟩
              case measure => simp [intOf]; omega
          · have hla : a < S.length := by omega
            have z0 := ho3.cellAt a (by omega)
            have z1 := hws3.cellAt a (by omega)
            rw [keysV_get S a hla] at z0
            rw [wsV_get S a hla] at z1
            obtain ⟨g1, g2, g3⟩ := cnsV_get L j hlt
            have z2 := hd3.2.1.cellAt (j * 3) (by omega)
            rw [g1] at z2
            have z3 := hd3.1.cell 0
            simp at z3
            have q0 : decide ((0 : Int) < (a : Int) + 1) = true := decide_eq_true (by omega)
            have T1 : (0 : Int) ≤ a := by omega
            have T2 : (a : Int) < S.length := by omega
            have T3 : (0 : Int) ≤ j := by omega
            have T4 : (j : Int) < L.length := by omega
            obtain ⟨sk, sw, hsa⟩ : ∃ sk sw, S[a] = (⟨sk, sw⟩ : It) := ⟨_, _, rfl⟩
            have hby := @bk_yes ⟨L[j].key, x⟩ S a hla
            have hbn := @bk_no ⟨L[j].key, x⟩ S a hla
            rw [hsa] at z0 z1 hby hbn
            simp only at z0 z1
            have hlI := ltI_iff ⟨L[j].key, x⟩ ⟨sk, sw⟩
            simp only at hlI
            have hcmp := less_cmp sk L[j].key
            clear g1 g2 g3 hsa
            rw [show ((a + 1 : Nat) : Int) = (a : Int) + 1 from rfl]
            by_cases k1 : sw < x
            · have q2 : decide (sw < x) = true := decide_eq_true k1
              have HB2 := Lib.hid (HB.out.trans (hby (hlI.2 (.inl k1))))
              clear hby hbn hlI hcmp HB
              go_wp2_with fail
              go_quiet (fail)
              go_wp2
              go_roundw
              case rel => exact ⟨a, by omega, by go_num, HB2, hb3.dN _⟩
              case measure => simp [intOf]
            · have q2 : decide (sw < x) = false := decide_eq_false k1
              by_cases k2 : sw = x
              · have q3 : decide (sw = x) = true := decide_eq_true k2
                have q4 : (sw == x) = true := by simp [k2]
                have hsw := cmp_swap L[j].key sk
                cases k4 : (sk == L[j].key)
                · cases k3 : Op.bytesLess sk L[j].key
                  · have hne : sk ≠ L[j].key := by simpa using k4
                    have hgt : Lib.compareBytes L[j].key sk < 0 := by
                      have h1 : ¬ Lib.compareBytes sk L[j].key < 0 := of_decide_eq_false (hcmp.symm.trans k3)
                      have h2 : Lib.compareBytes L[j].key sk ≠ 0 := fun e => hne (cmp_eq0 _ _ e).symm
                      omega
                    have HB2 := Lib.hid (HB.out.trans (hby (hlI.2 (.inr ⟨k2.symm, hgt⟩))))
                    clear hby hbn hlI hcmp hsw HB hne hgt
                    go_wp2_with fail
                    go_quiet (fail)
                    go_wp2
                    go_roundw
                    case rel => exact ⟨a, by omega, by go_num, HB2, hb3.dN _⟩
                    case measure => simp [intOf]
                  · have hno : ltI ⟨L[j].key, x⟩ ⟨sk, sw⟩ = false := by
                      rw [← Bool.not_eq_true, hlI]
                      have : Lib.compareBytes sk L[j].key < 0 := of_decide_eq_true (hcmp.symm.trans k3)
                      omega
                    obtain ⟨p, HP, hpl, HPE⟩ : ∃ p, Hid (bk ⟨L[j].key, x⟩ S S.length = p) ∧ p ≤ S.length ∧ Hid ((a : Int) + 1 = (p : Int)) := ⟨a + 1, Lib.hid (HB.out.trans (hbn hno)), by omega, Lib.hid rfl⟩
                    clear hby hbn hlI hcmp hsw HB hno
                    go_wp2_with fail
                    go_quiet (fail)
                    rw [HPE.out]
                    clear HPE z0 z1 z2 z3 q0 q2 q3 q4 k1 k2 k3 k4 T1 T2
                    generalize hw4 : World.drewN _ _ = w4
                    have hb4 : Below w2.heap.size w2 w4 := by rw [← hw4]; exact hb3.dN _
                    clear hw4 ho3 hws3 hd3
                    have ho4 := row_below ho2 hb4
                    have hws4 := row_below hws2 hb4
                    have hd4 := hd2.below hb4
                    have hb24 : Below w.heap.size w w4 := hb2.trans (hb4.mono hsz2)
                    have hszw : w.heap.size ≤ w4.heap.size := hb24.size
                    by_cases hx0 : 0 < x
                    · have q5 : decide (0 < x) = true := decide_eq_true hx0
                      obtain ⟨hco, hco2⟩ := orow_cap ho4
                      obtain ⟨hcw, hcw2⟩ := orow_cap hws4
                      have T1 : (0 : Int) ≤ p := by omega
                      have T2 : (p : Int) ≤ S.length := by omega
                      have T3 : (p : Int) ≤ co := by omega
                      have T4 : (p : Int) ≤ cw := by omega
                      have T5 : p ≤ co := by omega
                      have T6 : p ≤ cw := by omega
                      obtain ⟨KV, hKV⟩ : ∃ y, secV (S.map It.key) = y := ⟨_, rfl⟩
                      obtain ⟨WV, hWV⟩ : ∃ y, wsV S = y := ⟨_, rfl⟩
                      rw [hKV] at ho4
                      rw [hWV] at hws4
                      have ok1 : ∀ u ∈ KV, u.oneCell' = true := by rw [← hKV]; exact secV_one _
                      have ok2 : ∀ u ∈ WV, u.oneCell' = true := by rw [← hWV]; exact wsV_one _
                      have kl : KV.length = S.length := by rw [← hKV]; simp [secV]
                      have wl : WV.length = S.length := by rw [← hWV]; simp [wsV]
                      have U1 := Lib.hid (show (KV.take p).length = p * 1 by simp; omega)
                      have U2 := Lib.hid (show (KV.drop p).length = (S.length - p) * 1 by simp; omega)
                      have U3 := Lib.hid (show (WV.take p).length = p * 1 by simp; omega)
                      have U4 := Lib.hid (show (WV.drop p).length = (S.length - p) * 1 by simp; omega)
                      have O1 := Lib.hid (fun u (hu : u ∈ KV.take p) => ok1 u (List.mem_of_mem_take hu))
                      have O2 := Lib.hid (fun u (hu : u ∈ KV.drop p) => ok1 u (List.mem_of_mem_drop hu))
                      have O3 := Lib.hid (fun u (hu : u ∈ WV.take p) => ok2 u (List.mem_of_mem_take hu))
                      have O4 := Lib.hid (fun u (hu : u ∈ WV.drop p) => ok2 u (List.mem_of_mem_drop hu))
                      have F1 := Lib.hid (show 0 + p ≤ maxLen ∧ p + 1 ≤ maxLen ∧ p + 1 + (S.length - p) ≤ maxLen by unfold maxLen; omega)
                      have F2 := Lib.hid (show (0 + p) * 16 ≤ 140737488355328 ∧ (p + 1) * 16 ≤ 140737488355328 ∧ (p + 1 + (S.length - p)) * 16 ≤ 140737488355328 by omega)
                      have F3 := Lib.hid (show (0 + p) * 8 ≤ 140737488355328 ∧ (p + 1) * 8 ≤ 140737488355328 ∧ (p + 1 + (S.length - p)) * 8 ≤ 140737488355328 by omega)
                      have HKV := Lib.hid hKV
                      have HWV := Lib.hid hWV
                      have fin : p + 1 + (S.length - p) = S.length + 1 := by omega
                      have FIN := Lib.hid fin
                      clear hKV hWV ok1 ok2 kl wl fin
                      go_wp2_with (at_builtin; refine wpList_spread (P := Try.prog) w4 rfl _ _ 37 rfl w4.heap.size 9 (.string ⟨#[]⟩) 1 16 Try.underlying37 str_info rfl (by decide) (.slice none 0 0) 0 [] rfl (World.ownsRow_nil _ _ _ _) (some ⟨bo, 0, none⟩) p co (KV.take p) rfl U1.out (fun _ => ⟨_, rfl, row_take ho4 p⟩) O1.out F1.out.1 F2.out.1 (Nat.le_refl _) ?_)
                      intro v5 w5 r5 m5 b5 s5
                      have R5 := Lib.hid r5
                      clear r5
                      have b45 : Below w4.heap.size w4 w5 := b5
                      have hd5 := hd4.below b45
                      have z3 := hd5.1.cell 0
                      simp at z3
                      obtain ⟨g1, g2, g3⟩ := cnsV_get L j hlt
                      have z2 := hd5.2.1.cellAt (j * 3) (by omega)
                      rw [g1] at z2
                      clear g1 g2 g3
                      go_wp2_with (at_builtin; refine wpList_ap2 (P := Try.prog) _ rfl _ _ 37 rfl w4.heap.size 9 (.string ⟨#[]⟩) 1 16 Try.underlying37 str_info rfl (by decide) v5 p (KV.take p) rfl R5.out _ (g := w5.heap.size) rfl rfl rfl ?c1 F1.out.2.1 F2.out.2.1 s5 ?_)
                      case c1 => intro u hu; simp at hu; subst hu; rfl
                      intro v6 w6 r6 g6 b6
                      have R6 := Lib.hid r6
                      clear r6
                      have b46 : Below w4.heap.size w4 w6 := b45.trans b6
                      go_wp2_with (refine wpList_tail w6 rfl _ _ 37 9 rfl Try.underlying37 (.string ⟨#[]⟩) 16 str_info bo S.length co p rfl rfl hpl hco ?_)
                      intro ad1 had1
                      have had1 := Lib.hid had1
                      go_wp2_with (at_builtin; refine wpList_spread (P := Try.prog) w6 rfl _ _ 37 rfl w4.heap.size 9 (.string ⟨#[]⟩) 1 16 Try.underlying37 str_info rfl (by decide) v6 (p + 1) ((KV.take p) ++ [Value.string (bstr L[j].key)]) rfl R6.out (some ad1) (S.length - p) (co - p) (KV.drop p) rfl U2.out (fun hm => ⟨_, rfl, by rw [had1.out hm]; exact row_drop (row_below ho4 b46) p⟩) O2.out F1.out.2.2 F2.out.2.2 b46.size ?_)
                      intro v7 w7 r7 m7 b7 s7
                      have R7 := Lib.hid r7
                      clear r7
                      have b47 : Below w4.heap.size w4 w7 := b46.trans b7
                      go_wp2_with (at_builtin; refine wpList_spread (P := Try.prog) w7 rfl _ _ 65 rfl w4.heap.size 3 (.int .i64 0) 1 8 Try.underlying65 int_info rfl (by decide) (.slice none 0 0) 0 [] rfl (World.ownsRow_nil _ _ _ _) (some ⟨bw, 0, none⟩) p cw (WV.take p) rfl U3.out (fun _ => ⟨_, rfl, row_take (row_below hws4 b47) p⟩) O3.out F1.out.1 F3.out.1 b47.size ?_)
                      intro v8 w8 r8 m8 b8 s8
                      have R8 := Lib.hid r8
                      clear r8
                      have b48 : Below w4.heap.size w4 w8 := b47.trans b8
                      have K8 := Lib.hid (row_moved R7.out (fun k e => m8 k (R7.out.lt k e).2 (by simp [Value.ownBlock])))
                      go_wp2_with (at_builtin; refine wpList_ap2 (P := Try.prog) _ rfl _ _ 65 rfl w4.heap.size 3 (.int .i64 0) 1 8 Try.underlying65 int_info rfl (by decide) v8 p (WV.take p) rfl R8.out _ (g := w8.heap.size) rfl rfl rfl ?c1 F1.out.2.1 F3.out.2.1 b48.size ?_)
                      case c1 => intro u hu; simp at hu; subst hu; rfl
                      intro v9 w9 r9 g9 b9
                      have R9 := Lib.hid r9
                      clear r9
                      have b49 : Below w4.heap.size w4 w9 := b48.trans b9
                      have K9 := Lib.hid (row_grown (row_below K8.out ((Below.refl _ _).alloc (Nat.le_refl _) _)) g9 (fun k e e2 => orow_apart K8.out R8.out (by decide) e e2))
                      go_wp2_with (refine wpList_tail w9 rfl _ _ 65 3 rfl Try.underlying65 (.int .i64 0) 8 int_info bw S.length cw p rfl rfl hpl hcw ?_)
                      intro ad2 had2
                      have had2 := Lib.hid had2
                      go_wp2_with (at_builtin; refine wpList_spread (P := Try.prog) w9 rfl _ _ 65 rfl w4.heap.size 3 (.int .i64 0) 1 8 Try.underlying65 int_info rfl (by decide) v9 (p + 1) ((WV.take p) ++ [Value.int .i64 x]) rfl R9.out (some ad2) (S.length - p) (cw - p) (WV.drop p) rfl U4.out (fun hm => ⟨_, rfl, by rw [had2.out hm]; exact row_drop (row_below hws4 b49) p⟩) O4.out F1.out.2.2 F3.out.2.2 b49.size ?_)
                      intro v10 w10 r10 m10 b10 s10
                      have b410 : Below w4.heap.size w4 w10 := b49.trans b10
                      have k10 := row_moved K9.out (fun k e => m10 k (K9.out.lt k e).2 (orow_apart K9.out R9.out (by decide) e))
                      have hbf : Below w.heap.size w w10 := hb24.trans (b410.mono hszw)
                      have hr : rhot now (L.take (j + 1)) = S.take p ++ (⟨L[j].key, x⟩ : It) :: S.drop p := by
                        rw [HSN.out]
                        unfold rstep itOf rins
                        rw [HX.out, if_pos hx0, HP.out]
                      have hK : secV ((rhot now (L.take (j + 1))).map It.key) = KV.take p ++ [Value.string (bstr L[j].key)] ++ KV.drop p := by
                        rw [hr, ← HKV.out]
                        simp [secV, List.map_take, List.map_drop]
                      have hW : wsV (rhot now (L.take (j + 1))) = WV.take p ++ [Value.int .i64 x] ++ WV.drop p := by
                        rw [hr, ← HWV.out]
                        simp [wsV, List.map_take, List.map_drop]
                      have hN : (rhot now (L.take (j + 1))).length = p + 1 + (S.length - p) := by
                        rw [hr]
                        simp
                        omega
                      have hne : rhot now (L.take (j + 1)) ≠ [] := by rw [hr]; simp
                      have K10 : Hid (w10.ownsRow w4.heap.size 9 1 v7 (rhot now (L.take (j + 1))).length (secV ((rhot now (L.take (j + 1))).map It.key))) := Lib.hid (by rw [hN, hK]; simpa using k10)
                      have R10 : Hid (w10.ownsRow w4.heap.size 3 1 v10 (rhot now (L.take (j + 1))).length (wsV (rhot now (L.take (j + 1))))) := Lib.hid (by rw [hN, hW]; simpa using r10)
                      clear hr hK hW hN k10 r10
                      go_wp2
                      go_round
                      case rel => exact ⟨j + 1, by omega, by go_num, K10.out.at0, R10.out.at0, fun e => absurd e hne, hbf⟩
                      case measure => simp [intOf]; omega
                    · have q5 : decide (0 < x) = false := decide_eq_false hx0
                      have hr : rhot now (L.take (j + 1)) = S := by
                        rw [HSN.out]
                        unfold rstep itOf rins
                        rw [HX.out, if_neg hx0]
                      have HR := Lib.hid hr
                      have HI := Lib.hid hx0
                      clear hr hx0
                      go_wp2
                      go_roundw
                      case rel => exact ⟨j + 1, by omega, by go_num, by rw [HR.out]; exact ho4, by rw [HR.out]; exact hws4, fun e => absurd (HR.out.symm.trans e) HNE.out, hb24⟩
                      case measure => simp [intOf]; omega
                · have hno : ltI ⟨L[j].key, x⟩ ⟨sk, sw⟩ = false := by
                    have e : sk = L[j].key := by simpa using k4
                    rw [← Bool.not_eq_true, hlI, e, cmp_refl]
                    omega
                  have k3 := less_irr sk L[j].key k4
                  obtain ⟨p, HP, hpl, HPE⟩ : ∃ p, Hid (bk ⟨L[j].key, x⟩ S S.length = p) ∧ p ≤ S.length ∧ Hid ((a : Int) + 1 = (p : Int)) := ⟨a + 1, Lib.hid (HB.out.trans (hbn hno)), by omega, Lib.hid rfl⟩
                  clear hby hbn hlI hcmp hsw HB hno
                  go_wp2_with fail
                  go_quiet (fail)
                  rw [HPE.out]
                  clear HPE z0 z1 z2 z3 q0 q2 q3 q4 k1 k2 k3 k4 T1 T2
                  generalize hw4 : World.drewN _ _ = w4
                  have hb4 : Below w2.heap.size w2 w4 := by rw [← hw4]; exact hb3.dN _
                  clear hw4 ho3 hws3 hd3
                  have ho4 := row_below ho2 hb4
                  have hws4 := row_below hws2 hb4
                  have hd4 := hd2.below hb4
                  have hb24 : Below w.heap.size w w4 := hb2.trans (hb4.mono hsz2)
                  have hszw : w.heap.size ≤ w4.heap.size := hb24.size
                  by_cases hx0 : 0 < x
                  · have q5 : decide (0 < x) = true := decide_eq_true hx0
                    obtain ⟨hco, hco2⟩ := orow_cap ho4
                    obtain ⟨hcw, hcw2⟩ := orow_cap hws4
                    have T1 : (0 : Int) ≤ p := by omega
                    have T2 : (p : Int) ≤ S.length := by omega
                    have T3 : (p : Int) ≤ co := by omega
                    have T4 : (p : Int) ≤ cw := by omega
                    have T5 : p ≤ co := by omega
                    have T6 : p ≤ cw := by omega
                    obtain ⟨KV, hKV⟩ : ∃ y, secV (S.map It.key) = y := ⟨_, rfl⟩
                    obtain ⟨WV, hWV⟩ : ∃ y, wsV S = y := ⟨_, rfl⟩
                    rw [hKV] at ho4
                    rw [hWV] at hws4
                    have ok1 : ∀ u ∈ KV, u.oneCell' = true := by rw [← hKV]; exact secV_one _
                    have ok2 : ∀ u ∈ WV, u.oneCell' = true := by rw [← hWV]; exact wsV_one _
                    have kl : KV.length = S.length := by rw [← hKV]; simp [secV]
                    have wl : WV.length = S.length := by rw [← hWV]; simp [wsV]
                    have U1 := Lib.hid (show (KV.take p).length = p * 1 by simp; omega)
                    have U2 := Lib.hid (show (KV.drop p).length = (S.length - p) * 1 by simp; omega)
                    have U3 := Lib.hid (show (WV.take p).length = p * 1 by simp; omega)
                    have U4 := Lib.hid (show (WV.drop p).length = (S.length - p) * 1 by simp; omega)
                    have O1 := Lib.hid (fun u (hu : u ∈ KV.take p) => ok1 u (List.mem_of_mem_take hu))
                    have O2 := Lib.hid (fun u (hu : u ∈ KV.drop p) => ok1 u (List.mem_of_mem_drop hu))
                    have O3 := Lib.hid (fun u (hu : u ∈ WV.take p) => ok2 u (List.mem_of_mem_take hu))
                    have O4 := Lib.hid (fun u (hu : u ∈ WV.drop p) => ok2 u (List.mem_of_mem_drop hu))
                    have F1 := Lib.hid (show 0 + p ≤ maxLen ∧ p + 1 ≤ maxLen ∧ p + 1 + (S.length - p) ≤ maxLen by unfold maxLen; omega)
                    have F2 := Lib.hid (show (0 + p) * 16 ≤ 140737488355328 ∧ (p + 1) * 16 ≤ 140737488355328 ∧ (p + 1 + (S.length - p)) * 16 ≤ 140737488355328 by omega)
                    have F3 := Lib.hid (show (0 + p) * 8 ≤ 140737488355328 ∧ (p + 1) * 8 ≤ 140737488355328 ∧ (p + 1 + (S.length - p)) * 8 ≤ 140737488355328 by omega)
                    have HKV := Lib.hid hKV
                    have HWV := Lib.hid hWV
                    have fin : p + 1 + (S.length - p) = S.length + 1 := by omega
                    have FIN := Lib.hid fin
                    clear hKV hWV ok1 ok2 kl wl fin
                    go_wp2_with (at_builtin; refine wpList_spread (P := Try.prog) w4 rfl _ _ 37 rfl w4.heap.size 9 (.string ⟨#[]⟩) 1 16 Try.underlying37 str_info rfl (by decide) (.slice none 0 0) 0 [] rfl (World.ownsRow_nil _ _ _ _) (some ⟨bo, 0, none⟩) p co (KV.take p) rfl U1.out (fun _ => ⟨_, rfl, row_take ho4 p⟩) O1.out F1.out.1 F2.out.1 (Nat.le_refl _) ?_)
                    intro v5 w5 r5 m5 b5 s5
                    have R5 := Lib.hid r5
                    clear r5
                    have b45 : Below w4.heap.size w4 w5 := b5
                    have hd5 := hd4.below b45
                    have z3 := hd5.1.cell 0
                    simp at z3
                    obtain ⟨g1, g2, g3⟩ := cnsV_get L j hlt
                    have z2 := hd5.2.1.cellAt (j * 3) (by omega)
                    rw [g1] at z2
                    clear g1 g2 g3
                    go_wp2_with (at_builtin; refine wpList_ap2 (P := Try.prog) _ rfl _ _ 37 rfl w4.heap.size 9 (.string ⟨#[]⟩) 1 16 Try.underlying37 str_info rfl (by decide) v5 p (KV.take p) rfl R5.out _ (g := w5.heap.size) rfl rfl rfl ?c1 F1.out.2.1 F2.out.2.1 s5 ?_)
                    case c1 => intro u hu; simp at hu; subst hu; rfl
                    intro v6 w6 r6 g6 b6
                    have R6 := Lib.hid r6
                    clear r6
                    have b46 : Below w4.heap.size w4 w6 := b45.trans b6
                    go_wp2_with (refine wpList_tail w6 rfl _ _ 37 9 rfl Try.underlying37 (.string ⟨#[]⟩) 16 str_info bo S.length co p rfl rfl hpl hco ?_)
                    intro ad1 had1
                    have had1 := Lib.hid had1
                    go_wp2_with (at_builtin; refine wpList_spread (P := Try.prog) w6 rfl _ _ 37 rfl w4.heap.size 9 (.string ⟨#[]⟩) 1 16 Try.underlying37 str_info rfl (by decide) v6 (p + 1) ((KV.take p) ++ [Value.string (bstr L[j].key)]) rfl R6.out (some ad1) (S.length - p) (co - p) (KV.drop p) rfl U2.out (fun hm => ⟨_, rfl, by rw [had1.out hm]; exact row_drop (row_below ho4 b46) p⟩) O2.out F1.out.2.2 F2.out.2.2 b46.size ?_)
                    intro v7 w7 r7 m7 b7 s7
                    have R7 := Lib.hid r7
                    clear r7
                    have b47 : Below w4.heap.size w4 w7 := b46.trans b7
                    go_wp2_with (at_builtin; refine wpList_spread (P := Try.prog) w7 rfl _ _ 65 rfl w4.heap.size 3 (.int .i64 0) 1 8 Try.underlying65 int_info rfl (by decide) (.slice none 0 0) 0 [] rfl (World.ownsRow_nil _ _ _ _) (some ⟨bw, 0, none⟩) p cw (WV.take p) rfl U3.out (fun _ => ⟨_, rfl, row_take (row_below hws4 b47) p⟩) O3.out F1.out.1 F3.out.1 b47.size ?_)
                    intro v8 w8 r8 m8 b8 s8
                    have R8 := Lib.hid r8
                    clear r8
                    have b48 : Below w4.heap.size w4 w8 := b47.trans b8
                    have K8 := Lib.hid (row_moved R7.out (fun k e => m8 k (R7.out.lt k e).2 (by simp [Value.ownBlock])))
                    go_wp2_with (at_builtin; refine wpList_ap2 (P := Try.prog) _ rfl _ _ 65 rfl w4.heap.size 3 (.int .i64 0) 1 8 Try.underlying65 int_info rfl (by decide) v8 p (WV.take p) rfl R8.out _ (g := w8.heap.size) rfl rfl rfl ?c1 F1.out.2.1 F3.out.2.1 b48.size ?_)
                    case c1 => intro u hu; simp at hu; subst hu; rfl
                    intro v9 w9 r9 g9 b9
                    have R9 := Lib.hid r9
                    clear r9
                    have b49 : Below w4.heap.size w4 w9 := b48.trans b9
                    have K9 := Lib.hid (row_grown (row_below K8.out ((Below.refl _ _).alloc (Nat.le_refl _) _)) g9 (fun k e e2 => orow_apart K8.out R8.out (by decide) e e2))
                    go_wp2_with (refine wpList_tail w9 rfl _ _ 65 3 rfl Try.underlying65 (.int .i64 0) 8 int_info bw S.length cw p rfl rfl hpl hcw ?_)
                    intro ad2 had2
                    have had2 := Lib.hid had2
                    go_wp2_with (at_builtin; refine wpList_spread (P := Try.prog) w9 rfl _ _ 65 rfl w4.heap.size 3 (.int .i64 0) 1 8 Try.underlying65 int_info rfl (by decide) v9 (p + 1) ((WV.take p) ++ [Value.int .i64 x]) rfl R9.out (some ad2) (S.length - p) (cw - p) (WV.drop p) rfl U4.out (fun hm => ⟨_, rfl, by rw [had2.out hm]; exact row_drop (row_below hws4 b49) p⟩) O4.out F1.out.2.2 F3.out.2.2 b49.size ?_)
                    intro v10 w10 r10 m10 b10 s10
                    have b410 : Below w4.heap.size w4 w10 := b49.trans b10
                    have k10 := row_moved K9.out (fun k e => m10 k (K9.out.lt k e).2 (orow_apart K9.out R9.out (by decide) e))
                    have hbf : Below w.heap.size w w10 := hb24.trans (b410.mono hszw)
                    have hr : rhot now (L.take (j + 1)) = S.take p ++ (⟨L[j].key, x⟩ : It) :: S.drop p := by
                      rw [HSN.out]
                      unfold rstep itOf rins
                      rw [HX.out, if_pos hx0, HP.out]
                    have hK : secV ((rhot now (L.take (j + 1))).map It.key) = KV.take p ++ [Value.string (bstr L[j].key)] ++ KV.drop p := by
                      rw [hr, ← HKV.out]
                      simp [secV, List.map_take, List.map_drop]
                    have hW : wsV (rhot now (L.take (j + 1))) = WV.take p ++ [Value.int .i64 x] ++ WV.drop p := by
                      rw [hr, ← HWV.out]
                      simp [wsV, List.map_take, List.map_drop]
                    have hN : (rhot now (L.take (j + 1))).length = p + 1 + (S.length - p) := by
                      rw [hr]
                      simp
                      omega
                    have hne : rhot now (L.take (j + 1)) ≠ [] := by rw [hr]; simp
                    have K10 : Hid (w10.ownsRow w4.heap.size 9 1 v7 (rhot now (L.take (j + 1))).length (secV ((rhot now (L.take (j + 1))).map It.key))) := Lib.hid (by rw [hN, hK]; simpa using k10)
                    have R10 : Hid (w10.ownsRow w4.heap.size 3 1 v10 (rhot now (L.take (j + 1))).length (wsV (rhot now (L.take (j + 1))))) := Lib.hid (by rw [hN, hW]; simpa using r10)
                    clear hr hK hW hN k10 r10
                    go_wp2
                    go_round
                    case rel => exact ⟨j + 1, by omega, by go_num, K10.out.at0, R10.out.at0, fun e => absurd e hne, hbf⟩
                    case measure => simp [intOf]; omega
                  · have q5 : decide (0 < x) = false := decide_eq_false hx0
                    have hr : rhot now (L.take (j + 1)) = S := by
                      rw [HSN.out]
                      unfold rstep itOf rins
                      rw [HX.out, if_neg hx0]
                    have HR := Lib.hid hr
                    have HI := Lib.hid hx0
                    clear hr hx0
                    go_wp2
                    go_roundw
                    case rel => exact ⟨j + 1, by omega, by go_num, by rw [HR.out]; exact ho4, by rw [HR.out]; exact hws4, fun e => absurd (HR.out.symm.trans e) HNE.out, hb24⟩
                    case measure => simp [intOf]; omega
              · have q3 : decide (sw = x) = false := decide_eq_false k2
                have q4 : (sw == x) = false := by simp [k2]
                have hno : ltI ⟨L[j].key, x⟩ ⟨sk, sw⟩ = false := by
                  rw [← Bool.not_eq_true, hlI]
                  omega
                obtain ⟨p, HP, hpl, HPE⟩ : ∃ p, Hid (bk ⟨L[j].key, x⟩ S S.length = p) ∧ p ≤ S.length ∧ Hid ((a : Int) + 1 = (p : Int)) := ⟨a + 1, Lib.hid (HB.out.trans (hbn hno)), by omega, Lib.hid rfl⟩
                clear hby hbn hlI hcmp HB hno
                go_wp2_with fail
                go_quiet (fail)
                rw [HPE.out]
                clear HPE z0 z1 z2 z3 q0 q2 q3 q4 k1 k2 T1 T2
                generalize hw4 : World.drewN _ _ = w4
                have hb4 : Below w2.heap.size w2 w4 := by rw [← hw4]; exact hb3.dN _
                clear hw4 ho3 hws3 hd3
                have ho4 := row_below ho2 hb4
                have hws4 := row_below hws2 hb4
                have hd4 := hd2.below hb4
                have hb24 : Below w.heap.size w w4 := hb2.trans (hb4.mono hsz2)
                have hszw : w.heap.size ≤ w4.heap.size := hb24.size
                by_cases hx0 : 0 < x
                · have q5 : decide (0 < x) = true := decide_eq_true hx0
                  obtain ⟨hco, hco2⟩ := orow_cap ho4
                  obtain ⟨hcw, hcw2⟩ := orow_cap hws4
                  have T1 : (0 : Int) ≤ p := by omega
                  have T2 : (p : Int) ≤ S.length := by omega
                  have T3 : (p : Int) ≤ co := by omega
                  have T4 : (p : Int) ≤ cw := by omega
                  have T5 : p ≤ co := by omega
                  have T6 : p ≤ cw := by omega
                  obtain ⟨KV, hKV⟩ : ∃ y, secV (S.map It.key) = y := ⟨_, rfl⟩
                  obtain ⟨WV, hWV⟩ : ∃ y, wsV S = y := ⟨_, rfl⟩
                  rw [hKV] at ho4
                  rw [hWV] at hws4
                  have ok1 : ∀ u ∈ KV, u.oneCell' = true := by rw [← hKV]; exact secV_one _
                  have ok2 : ∀ u ∈ WV, u.oneCell' = true := by rw [← hWV]; exact wsV_one _
                  have kl : KV.length = S.length := by rw [← hKV]; simp [secV]
                  have wl : WV.length = S.length := by rw [← hWV]; simp [wsV]
                  have U1 := Lib.hid (show (KV.take p).length = p * 1 by simp; omega)
                  have U2 := Lib.hid (show (KV.drop p).length = (S.length - p) * 1 by simp; omega)
                  have U3 := Lib.hid (show (WV.take p).length = p * 1 by simp; omega)
                  have U4 := Lib.hid (show (WV.drop p).length = (S.length - p) * 1 by simp; omega)
                  have O1 := Lib.hid (fun u (hu : u ∈ KV.take p) => ok1 u (List.mem_of_mem_take hu))
                  have O2 := Lib.hid (fun u (hu : u ∈ KV.drop p) => ok1 u (List.mem_of_mem_drop hu))
                  have O3 := Lib.hid (fun u (hu : u ∈ WV.take p) => ok2 u (List.mem_of_mem_take hu))
                  have O4 := Lib.hid (fun u (hu : u ∈ WV.drop p) => ok2 u (List.mem_of_mem_drop hu))
                  have F1 := Lib.hid (show 0 + p ≤ maxLen ∧ p + 1 ≤ maxLen ∧ p + 1 + (S.length - p) ≤ maxLen by unfold maxLen; omega)
                  have F2 := Lib.hid (show (0 + p) * 16 ≤ 140737488355328 ∧ (p + 1) * 16 ≤ 140737488355328 ∧ (p + 1 + (S.length - p)) * 16 ≤ 140737488355328 by omega)
                  have F3 := Lib.hid (show (0 + p) * 8 ≤ 140737488355328 ∧ (p + 1) * 8 ≤ 140737488355328 ∧ (p + 1 + (S.length - p)) * 8 ≤ 140737488355328 by omega)
                  have HKV := Lib.hid hKV
                  have HWV := Lib.hid hWV
                  have fin : p + 1 + (S.length - p) = S.length + 1 := by omega
                  have FIN := Lib.hid fin
                  clear hKV hWV ok1 ok2 kl wl fin
                  go_wp2_with (at_builtin; refine wpList_spread (P := Try.prog) w4 rfl _ _ 37 rfl w4.heap.size 9 (.string ⟨#[]⟩) 1 16 Try.underlying37 str_info rfl (by decide) (.slice none 0 0) 0 [] rfl (World.ownsRow_nil _ _ _ _) (some ⟨bo, 0, none⟩) p co (KV.take p) rfl U1.out (fun _ => ⟨_, rfl, row_take ho4 p⟩) O1.out F1.out.1 F2.out.1 (Nat.le_refl _) ?_)
                  intro v5 w5 r5 m5 b5 s5
                  have R5 := Lib.hid r5
                  clear r5
                  have b45 : Below w4.heap.size w4 w5 := b5
                  have hd5 := hd4.below b45
                  have z3 := hd5.1.cell 0
                  simp at z3
                  obtain ⟨g1, g2, g3⟩ := cnsV_get L j hlt
                  have z2 := hd5.2.1.cellAt (j * 3) (by omega)
                  rw [g1] at z2
                  clear g1 g2 g3
                  go_wp2_with (at_builtin; refine wpList_ap2 (P := Try.prog) _ rfl _ _ 37 rfl w4.heap.size 9 (.string ⟨#[]⟩) 1 16 Try.underlying37 str_info rfl (by decide) v5 p (KV.take p) rfl R5.out _ (g := w5.heap.size) rfl rfl rfl ?c1 F1.out.2.1 F2.out.2.1 s5 ?_)
                  case c1 => intro u hu; simp at hu; subst hu; rfl
                  intro v6 w6 r6 g6 b6
                  have R6 := Lib.hid r6
                  clear r6
                  have b46 : Below w4.heap.size w4 w6 := b45.trans b6
                  go_wp2_with (refine wpList_tail w6 rfl _ _ 37 9 rfl Try.underlying37 (.string ⟨#[]⟩) 16 str_info bo S.length co p rfl rfl hpl hco ?_)
                  intro ad1 had1
                  have had1 := Lib.hid had1
                  go_wp2_with (at_builtin; refine wpList_spread (P := Try.prog) w6 rfl _ _ 37 rfl w4.heap.size 9 (.string ⟨#[]⟩) 1 16 Try.underlying37 str_info rfl (by decide) v6 (p + 1) ((KV.take p) ++ [Value.string (bstr L[j].key)]) rfl R6.out (some ad1) (S.length - p) (co - p) (KV.drop p) rfl U2.out (fun hm => ⟨_, rfl, by rw [had1.out hm]; exact row_drop (row_below ho4 b46) p⟩) O2.out F1.out.2.2 F2.out.2.2 b46.size ?_)
                  intro v7 w7 r7 m7 b7 s7
                  have R7 := Lib.hid r7
                  clear r7
                  have b47 : Below w4.heap.size w4 w7 := b46.trans b7
                  go_wp2_with (at_builtin; refine wpList_spread (P := Try.prog) w7 rfl _ _ 65 rfl w4.heap.size 3 (.int .i64 0) 1 8 Try.underlying65 int_info rfl (by decide) (.slice none 0 0) 0 [] rfl (World.ownsRow_nil _ _ _ _) (some ⟨bw, 0, none⟩) p cw (WV.take p) rfl U3.out (fun _ => ⟨_, rfl, row_take (row_below hws4 b47) p⟩) O3.out F1.out.1 F3.out.1 b47.size ?_)
                  intro v8 w8 r8 m8 b8 s8
                  have R8 := Lib.hid r8
                  clear r8
                  have b48 : Below w4.heap.size w4 w8 := b47.trans b8
                  have K8 := Lib.hid (row_moved R7.out (fun k e => m8 k (R7.out.lt k e).2 (by simp [Value.ownBlock])))
                  go_wp2_with (at_builtin; refine wpList_ap2 (P := Try.prog) _ rfl _ _ 65 rfl w4.heap.size 3 (.int .i64 0) 1 8 Try.underlying65 int_info rfl (by decide) v8 p (WV.take p) rfl R8.out _ (g := w8.heap.size) rfl rfl rfl ?c1 F1.out.2.1 F3.out.2.1 b48.size ?_)
                  case c1 => intro u hu; simp at hu; subst hu; rfl
                  intro v9 w9 r9 g9 b9
                  have R9 := Lib.hid r9
                  clear r9
                  have b49 : Below w4.heap.size w4 w9 := b48.trans b9
                  have K9 := Lib.hid (row_grown (row_below K8.out ((Below.refl _ _).alloc (Nat.le_refl _) _)) g9 (fun k e e2 => orow_apart K8.out R8.out (by decide) e e2))
                  go_wp2_with (refine wpList_tail w9 rfl _ _ 65 3 rfl Try.underlying65 (.int .i64 0) 8 int_info bw S.length cw p rfl rfl hpl hcw ?_)
                  intro ad2 had2
                  have had2 := Lib.hid had2
                  go_wp2_with (at_builtin; refine wpList_spread (P := Try.prog) w9 rfl _ _ 65 rfl w4.heap.size 3 (.int .i64 0) 1 8 Try.underlying65 int_info rfl (by decide) v9 (p + 1) ((WV.take p) ++ [Value.int .i64 x]) rfl R9.out (some ad2) (S.length - p) (cw - p) (WV.drop p) rfl U4.out (fun hm => ⟨_, rfl, by rw [had2.out hm]; exact row_drop (row_below hws4 b49) p⟩) O4.out F1.out.2.2 F3.out.2.2 b49.size ?_)
                  intro v10 w10 r10 m10 b10 s10
                  have b410 : Below w4.heap.size w4 w10 := b49.trans b10
                  have k10 := row_moved K9.out (fun k e => m10 k (K9.out.lt k e).2 (orow_apart K9.out R9.out (by decide) e))
                  have hbf : Below w.heap.size w w10 := hb24.trans (b410.mono hszw)
                  have hr : rhot now (L.take (j + 1)) = S.take p ++ (⟨L[j].key, x⟩ : It) :: S.drop p := by
                    rw [HSN.out]
                    unfold rstep itOf rins
                    rw [HX.out, if_pos hx0, HP.out]
                  have hK : secV ((rhot now (L.take (j + 1))).map It.key) = KV.take p ++ [Value.string (bstr L[j].key)] ++ KV.drop p := by
                    rw [hr, ← HKV.out]
                    simp [secV, List.map_take, List.map_drop]
                  have hW : wsV (rhot now (L.take (j + 1))) = WV.take p ++ [Value.int .i64 x] ++ WV.drop p := by
                    rw [hr, ← HWV.out]
                    simp [wsV, List.map_take, List.map_drop]
                  have hN : (rhot now (L.take (j + 1))).length = p + 1 + (S.length - p) := by
                    rw [hr]
                    simp
                    omega
                  have hne : rhot now (L.take (j + 1)) ≠ [] := by rw [hr]; simp
                  have K10 : Hid (w10.ownsRow w4.heap.size 9 1 v7 (rhot now (L.take (j + 1))).length (secV ((rhot now (L.take (j + 1))).map It.key))) := Lib.hid (by rw [hN, hK]; simpa using k10)
                  have R10 : Hid (w10.ownsRow w4.heap.size 3 1 v10 (rhot now (L.take (j + 1))).length (wsV (rhot now (L.take (j + 1))))) := Lib.hid (by rw [hN, hW]; simpa using r10)
                  clear hr hK hW hN k10 r10
                  go_wp2
                  go_round
                  case rel => exact ⟨j + 1, by omega, by go_num, K10.out.at0, R10.out.at0, fun e => absurd e hne, hbf⟩
                  case measure => simp [intOf]; omega
                · have q5 : decide (0 < x) = false := decide_eq_false hx0
                  have hr : rhot now (L.take (j + 1)) = S := by
                    rw [HSN.out]
                    unfold rstep itOf rins
                    rw [HX.out, if_neg hx0]
                  have HR := Lib.hid hr
                  have HI := Lib.hid hx0
                  clear hr hx0
                  go_wp2
                  go_roundw
                  case rel => exact ⟨j + 1, by omega, by go_num, by rw [HR.out]; exact ho4, by rw [HR.out]; exact hws4, fun e => absurd (HR.out.symm.trans e) HNE.out, hb24⟩
                  case measure => simp [intOf]; omega
    · obtain rfl : j = L.length := by omega
      have q1 : decide ((L.length : Int) < (L.length : Int)) = false := decide_eq_false (by omega)
      rw [List.take_length] at ho hws hnil
      have hot := hotL_rhot L now n
      obtain ⟨S, hS⟩ : ∃ S, rhot now L = S := ⟨_, rfl⟩
      rw [hS] at ho hws hnil hot
      have HOT := Lib.hid hot
      clear hot
      by_cases hS0 : S = []
      · subst hS0
        obtain ⟨rfl, _⟩ := hnil rfl
        have hss : ∀ w' : World, SsAt w' (.slice none 0 0) ((([] : List It).map It.key).take n.toNat) := fun w' => ⟨none, 0, by simp, fun j hj => by simp at hj⟩
        by_cases hn0 : n < 0
        · have q2 : decide (n < 0) = true := decide_eq_true hn0
          have q3 : (if n < 0 then 0 else n) = 0 := if_pos hn0
          have q4 : (if 0 < n then n else 0) = 0 := if_neg (by omega)
          have HI := Lib.hid hn0
          clear hn0
          go_wp2
          go_ret
          exact ⟨_, rfl, by rw [HOT.out]; exact hss _, hbel⟩
        · have q2 : decide (n < 0) = false := decide_eq_false hn0
          have HI := Lib.hid hn0
          clear hn0
          go_wp2
          go_ret
          exact ⟨_, rfl, by rw [HOT.out]; exact hss _, hbel⟩
      · have hpos : 0 < S.length := List.length_pos_iff.2 hS0
        clear hnil
        obtain ⟨bo, co, rfl⟩ := orow_pos ho hpos
        obtain ⟨hco, hco2⟩ := orow_cap ho
        have hml : (S.map It.key).length = S.length := by simp
        by_cases hn1 : n < S.length
        · have q2 : decide (n < (S.length : Int)) = true := decide_eq_true hn1
          have hss := cut_ss ho hml n.toNat (by omega)
          by_cases hn0 : n < 0
          · have q3 : (if n < 0 then 0 else n) = 0 := if_pos hn0
            have q4 : (if 0 < n then n else 0) = 0 := if_neg (by omega)
            have e0 : n.toNat = 0 := by omega
            rw [e0] at hss
            rw [e0] at HOT
            have HI := Lib.hid hn0
            have HJ := Lib.hid hn1
            clear hn0 hn1
            go_wp2
            go_ret
            exact ⟨_, rfl, by rw [HOT.out]; exact hss, hbel⟩
          · obtain ⟨m, rfl⟩ : ∃ m : Nat, n = m := ⟨n.toNat, by omega⟩
            have q3 : (if (m : Int) < 0 then 0 else (m : Int)) = m := if_neg hn0
            have q4 : (if (0 : Int) < m then (m : Int) else 0) = m := by split <;> omega
            have T1 : (0 : Int) ≤ m := by omega
            have T2 : (m : Int) ≤ co := by omega
            have T3 : m ≤ co := by omega
            have T5 : m < S.length := by omega
            have q5 : decide (m < S.length) = true := decide_eq_true T5
            rw [Int.toNat_natCast] at hss HOT
            have HI := Lib.hid hn0
            have HJ := Lib.hid hn1
            clear hn0 hn1
            go_wp2
            go_ret
            exact ⟨_, rfl, by rw [HOT.out]; exact hss, hbel⟩
        · have q2 : decide (n < (S.length : Int)) = false := decide_eq_false hn1
          have hss := cut_ss ho hml S.length (Nat.le_refl _)
          have e : (S.map It.key).take n.toNat = (S.map It.key).take S.length := by
            rw [List.take_of_length_le (by omega), List.take_of_length_le (by omega)]
          rw [e] at HOT
          have HJ := Lib.hid hn1
          clear hn1 e
          go_wp2
          go_ret
          exact ⟨_, rfl, by rw [HOT.out]; exact hss, hbel⟩
end Go.Proofs.Ytefobchpcdniiaa
