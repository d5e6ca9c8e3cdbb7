/- The reference of package heat: Forget, Touch: contracts. -/
import Derived.Test.YtefobchpcdniiaaHrb
namespace Go.Proofs.Ytefobchpcdniiaa
open Go Go.RowKit Go.Maps
set_option linter.unusedSimpArgs false
set_option linter.unnecessarySimpa false
set_option linter.unusedVariables false

theorem rcn_info : (Try.prog.info? 56).map (fun i => (i.zero, i.size, i.bytes)) = some (some (.agg #[.string ⟨#[]⟩, .int .i64 0, .int .i64 0]), 3, 32) := by kernel_rfl
theorem wpList_ap2 {P : Program} {ops : Array Oper} {rest : List Oper} {o : Oper} {a : Act} {Q : Exit → Act → World → Prop} (w : World) (hg : o.guard = none) (s x : Operand) (t : TypeId)
    (hop : o.op = .call { callee := .builtin .append, args := #[s, x], argTypes := #[t, t] })
    (B : Nat) (e : TypeId) (z : Value) (size bytes : Nat) (hu : P.underlying t = some (.slice e)) (hi : (P.info? e).map (fun i => (i.zero, i.size, i.bytes)) = some (some z, size, bytes))
    (hzs : z.cells.size = size) (hsz : 0 < size) (v : Value) (n : Nat) (xs : List Value) (hs : a.eval s = v) (hown : w.ownsRow B e size v n xs)
    (us : List Value) {g : Nat} (hgw : w.heap.size = g) (hx : a.eval x = .slice (some ⟨g, 0, none⟩) 1 1) (hl : us.length = size) (h1 : ∀ u ∈ us, u.oneCell' = true)
    (h63 : n + 1 ≤ maxLen) (hbytes : (n + 1) * bytes ≤ 140737488355328) (hB : B ≤ w.heap.size)
    (h : ∀ v' w', w'.ownsRow B e size v' (n + 1) (xs ++ us) → (w.alloc (.cells us.toArray e)).grownBy w' v.ownBlock → Below B w w' → wpList P ops Q rest (a.put o.dst v') w') :
    wpList P ops Q (o :: rest) a (w.alloc (.cells us.toArray e)) := by
  subst hgw
  exact wpList_app w hg s x t hop B e z size bytes hu hi hzs hsz v n xs hs hown us hx hl h1 h63 hbytes hB h
theorem without_snoc (L : List Cn) (c : Cn) (k : List UInt8) : without (L ++ [c]) k = if c.key = k then without L k else without L k ++ [c] := by
  unfold without
  rw [List.filter_append]
  by_cases h : c.key = k <;> simp [h]
theorem without_le (L : List Cn) (k : List UInt8) : (without L k).length ≤ L.length := List.length_filter_le _ _
theorem RfAt.put {w : World} {g : Nat} {v : Value} {L' : List Cn} (h : Blk w g 29 #[v]) (u : Value) (ho : w.ownsRow 0 56 3 u L'.length (cnsV L')) (hok : ∀ c ∈ L', c.ok) : RfAt (w.setCell ⟨g, 0, none⟩ u) g u L' := by
  have hs := h.set_ 0 u
  simp at hs
  exact ⟨hs, row_set ho (row_ne ho h (by decide)) u, hok⟩

theorem orow_form {w : World} {base n size : Nat} {e : TypeId} {v : Value} {xs : List Value} (h : w.ownsRow base e size v n xs) : ∃ A c, v = .slice A n c := by
  rcases h.2 with ⟨rfl, rfl⟩ | ⟨g, cap, cur, rfl, _⟩
  · exact ⟨_, _, rfl⟩
  · exact ⟨_, _, rfl⟩
set_option maxHeartbeats 4000000 in
theorem rforget_any (g : Nat) (v : Value) (L : List Cn) (k : List UInt8) (hn : L.length ≤ 1000) (w : World) (h : RfAt w g v L) :
    Calls Try.prog 14 #[.pointer (some ⟨g, 0, none⟩), .string (bstr k)] w fun e w' => ∃ u, e = .returned (.tuple #[]) ∧ RfAt w' g u (without L k) ∧ (∀ b, u.ownBlock = some b → w.heap.size ≤ b) ∧ Keep w.heap.size (fun j => j = g) w w' := by
  obtain ⟨A, c, rfl⟩ := h.form
  have hgl := h.1.lt
  go_enter Try.func14, Try.ntmps14
  go_wp2_with fail
  go_loopw [4, 5] (fun u i wr => ∃ j : Nat, j ≤ L.length ∧ i = .int .i64 j ∧ wr.ownsRow w.heap.size 56 3 u (without (L.take j) k).length (cnsV (without (L.take j) k)) ∧ Below w.heap.size w wr) (fun _ i _ => L.length - (intOf i).toNat)
  case atStart => exact ⟨0, by omega, rfl, World.ownsRow_nil _ _ _ _, Below.refl _ _⟩
  case round =>
    obtain ⟨j, hj, rfl, hu, hbel⟩ := hrel
    have hd := h.below hbel
    have Y0 := hd.1.cell 0
    simp at Y0
    by_cases hlt : j < L.length
    · have q1 : decide ((j : Int) < (L.length : Int)) = true := decide_eq_true (by omega)
      obtain ⟨b, c', e, hrow⟩ := hd.row (by omega)
      cases e
      obtain ⟨g1, g2, g3⟩ := cnsV_get L j hlt
      have y0 := hrow.cellAt (j * 3) (by omega)
      have y1 := hrow.cellAt (j * 3 + 1) (by omega)
      have y2 := hrow.cellAt (j * 3 + 2) (by omega)
      rw [g1] at y0
      rw [g2] at y1
      rw [g3] at y2
      have htk := without_snoc (L.take j) L[j] k
      rw [← List.take_succ_eq_append_getElem hlt] at htk
      by_cases hk : L[j].key = k
      · have q2 : (L[j].key == k) = true := by simp [hk]
        have q3 : decide (L[j].key = k) = true := by simp [hk]
        have q4 : (L[j].key != k) = false := by simp [hk]
        rw [if_pos hk] at htk
        rw [← htk] at hu
        clear g1 g2 g3 hrow hk htk hd
        go_wp2
        go_roundw
        case rel => exact ⟨j + 1, by omega, by go_num, hu, hbel⟩
        case measure => simp [intOf]; omega
      · have q2 : (L[j].key == k) = false := by simp [hk]
        have q3 : decide (L[j].key = k) = false := by simp [hk]
        have q4 : (L[j].key != k) = true := by simp [hk]
        rw [if_neg hk] at htk
        have hle := without_le (L.take j) k
        rw [List.length_take] at hle
        have hsz := hbel.size
        have HTK := Lib.hid htk
        obtain ⟨M, hM⟩ : ∃ M, without (L.take j) k = M := ⟨_, rfl⟩
        rw [hM] at hu hle
        have HM := Lib.hid hM
        have F1 : M.length + 1 ≤ maxLen := by unfold maxLen; omega
        have F2 : (M.length + 1) * 32 ≤ 140737488355328 := by omega
        have F1 := Lib.hid F1
        have F2 := Lib.hid F2
        clear g1 g2 g3 hrow hk htk hd hM
        go_wp2_with (at_builtin; refine wpList_ap2 (P := Try.prog) _ rfl _ _ 27 rfl w.heap.size 56 (.agg #[.string ⟨#[]⟩, .int .i64 0, .int .i64 0]) 3 32 Try.underlying27 rcn_info rfl (by decide) _ M.length (cnsV M) rfl hu _ (g := wr.heap.size) rfl rfl rfl ?c1 F1.out F2.out hsz ?_)
        case c1 => intro u hu; simp at hu; rcases hu with rfl | rfl | rfl <;> rfl
        intro v' w10 hown10 hgrow10 hb10
        have hb11 : Below w.heap.size w w10 := hbel.trans hb10
        go_wp2
        go_round
        case rel => exact ⟨j + 1, by omega, by go_num, by rw [HTK.out, HM.out, cnsV_snoc, List.length_append]; simpa [cnV] using hown10, hb11⟩
        case measure => simp [intOf]; omega
    · obtain rfl : j = L.length := by omega
      have q1 : decide ((L.length : Int) < (L.length : Int)) = false := decide_eq_false (by omega)
      rw [List.take_length] at hu
      obtain ⟨A', c', rfl⟩ := orow_form hu
      have f0 := hd.1.frozen 0
      have hres := RfAt.put hd.1 _ hu.at0 (fun c hc => h.2.2 c (without_mem.1 hc).1)
      have hkp := (Keep.of_below (S := fun j => j = g) hbel).set1 0 (.slice A' (without L k).length c')
      go_wp2
      go_end0
      exact ⟨_, rfl, hres, fun b e => (hu.lt b e).1, hkp⟩
end Go.Proofs.Ytefobchpcdniiaa
