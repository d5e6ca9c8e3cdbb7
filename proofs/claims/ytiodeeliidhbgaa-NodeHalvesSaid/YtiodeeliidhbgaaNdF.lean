/- Decode of package node: what it is, its contract. -/
import Derived.Test.YtiodeeliidhbgaaNdE
import Derived.Deep.AppendLies
namespace Go.Proofs.Ytiodeeliidhbgaa
open Go Go.RowKit
set_option linter.unusedSimpArgs false
set_option linter.unnecessarySimpa false
set_option linter.unusedVariables false

/-- what is read behind so many entries -/
structure Dc where
  ks : List (List UInt8)
  vs : List (List UInt8)
  r : Rd
def decS (r : Rd) : Nat → Dc
  | 0 => ⟨[], [], r⟩
  | i + 1 => ⟨(decS r i).ks ++ [((decS r i).r.text 2).1], (decS r i).vs ++ [(((decS r i).r.text 2).2.text 1).1], (((decS r i).r.text 2).2.text 1).2⟩
theorem rd_text_len (r : Rd) (wd : Int) : (r.text wd).2.s.length ≤ r.s.length := by
  unfold Rd.text Rd.number Rd.bytes
  exact Nat.le_trans (Rd.take_len _ _ _).2 (Rd.take_len _ _ _).2
theorem decS_len (r : Rd) : ∀ i, (decS r i).ks.length = i ∧ (decS r i).vs.length = i ∧ (decS r i).r.s.length ≤ r.s.length
  | 0 => ⟨rfl, rfl, Nat.le_refl _⟩
  | i + 1 => by
    obtain ⟨h1, h2, h3⟩ := decS_len r i
    refine ⟨by simp [decS, h1], by simp [decS, h2], ?_⟩
    exact Nat.le_trans (rd_text_len _ _) (Nat.le_trans (rd_text_len _ _) h3)
def kindD (s : List UInt8) : List UInt8 := (Rd.bytes ⟨s, 0⟩ 1).1
def manyD (s : List UInt8) : Int := ((Rd.bytes ⟨s, 0⟩ 1).2.number 1).1
def bodyD (s : List UInt8) : Dc := decS ((Rd.bytes ⟨s, 0⟩ 1).2.number 1).2 (manyD s).toNat
def nodeD (s : List UInt8) : Nd := ⟨kindD s == [76], (bodyD s).ks, (bodyD s).vs⟩
def decD (s : List UInt8) : Nd × Int :=
  if (bodyD s).r.fin = 2 then (emptyN, 2)
  else if (bodyD s).r.fin ≠ 0 ∨ (kindD s ≠ [76] ∧ kindD s ≠ [73]) ∨ checkN (nodeD s) ≠ 0 then (emptyN, 3) else (nodeD s, 0)
theorem many_le (s : List UInt8) : 0 ≤ manyD s ∧ manyD s ≤ 255 := by
  unfold manyD Rd.number
  have h1 := (Rd.take_len (Rd.bytes ⟨s, 0⟩ 1).2 1 (if mostI 1 < 0 then 1 else 0)).1
  have h2 := leN_lt ((Rd.bytes ⟨s, 0⟩ 1).2.take 1 (if mostI 1 < 0 then 1 else 0)).1
  have h3 : 256 ^ ((Rd.bytes ⟨s, 0⟩ 1).2.take 1 (if mostI 1 < 0 then 1 else 0)).1.length ≤ 256 ^ 1 := Nat.pow_le_pow_right (by decide) h1
  simp only
  omega
theorem secV_snoc (l : List (List UInt8)) (x : List UInt8) : secV (l ++ [x]) = secV l ++ [.string (bstr x)] := by simp [secV]

/-- the state of the loop -/
structure DcSt (w0 : World) (g G0 G1 : Nat) (leaf : Bool) (d : Dc) (n1 n2 : Nat) (vk vv : Value) (w : World) : Prop where
  rd : RdAt w g d.r
  b0 : Blk w G0 30 #[.bool false, .slice none 0 0, .slice none 0 0]
  b1 : Blk w G1 30 #[.bool leaf, vk, vv]
  o1 : w.ownsRow w0.heap.size 9 1 vk n1 (secV d.ks)
  o2 : w.ownsRow w0.heap.size 9 1 vv n2 (secV d.vs)
  one : ∀ k, vk.ownBlock = some k → vv.ownBlock ≠ some k
  bel : Below w0.heap.size w0 w
  l0 : w0.heap.size ≤ G0
  l1 : w0.heap.size ≤ G1
  lg : w0.heap.size ≤ g
  h01 : G0 ≠ G1
  hg0 : g ≠ G0
  hg1 : g ≠ G1
section
variable {w0 w w' : World} {g G0 G1 n1 n2 : Nat} {leaf : Bool} {d : Dc} {vk vv : Value}
theorem DcSt.drew (h : DcSt w0 g G0 G1 leaf d n1 n2 vk vv w) : DcSt w0 g G0 G1 leaf d n1 n2 vk vv w.drew :=
  ⟨h.rd.drew, h.b0.drew, h.b1.drew, row_below h.o1 (Below.refl _ _).drew, row_below h.o2 (Below.refl _ _).drew, h.one, h.bel.drew, h.l0, h.l1, h.lg, h.h01, h.hg0, h.hg1⟩
theorem DcSt.below (h : DcSt w0 g G0 G1 leaf d n1 n2 vk vv w) (k : Below w.heap.size w w') : DcSt w0 g G0 G1 leaf d n1 n2 vk vv w' :=
  ⟨h.rd.below k h.rd.lt, h.b0.below k h.b0.lt, h.b1.below k h.b1.lt, row_below h.o1 k, row_below h.o2 k, h.one, hthen h.bel k, h.l0, h.l1, h.lg, h.h01, h.hg0, h.hg1⟩
/-- the reader goes on -/
theorem DcSt.read (h : DcSt w0 g G0 G1 leaf d n1 n2 vk vv w) {r : Rd} (hr : RdAt w' g r) (k : Keep w.heap.size (· = g) w w') : DcSt w0 g G0 G1 leaf ⟨d.ks, d.vs, r⟩ n1 n2 vk vv w' :=
  ⟨hr, h.b0.keep k h.b0.lt (fun e => h.hg0 e.symm), h.b1.keep k h.b1.lt (fun e => h.hg1 e.symm), row_keep h.o1 k (fun j e => ⟨(h.o1.lt j e).2, fun e2 => row_ne h.o1 h.rd (by decide) (by rw [e, e2])⟩), row_keep h.o2 k (fun j e => ⟨(h.o2.lt j e).2, fun e2 => row_ne h.o2 h.rd (by decide) (by rw [e, e2])⟩), h.one, below_keep h.bel k h.bel.size (fun j e => by rw [e]; exact h.lg), h.l0, h.l1, h.lg, h.h01, h.hg0, h.hg1⟩
theorem DcSt.len (h : DcSt w0 g G0 G1 leaf d n1 n2 vk vv w) : d.ks.length = n1 ∧ d.vs.length = n2 := by
  have h1 := h.o1.1
  have h2 := h.o2.1
  rw [secV_len] at h1 h2
  omega
theorem DcSt.form (h : DcSt w0 g G0 G1 leaf d n1 n2 vk vv w) : ∃ A c C e, vk = .slice A n1 c ∧ vv = .slice C n2 e := by
  obtain ⟨A, c, rfl⟩ := orow_form h.o1
  obtain ⟨C, e, rfl⟩ := orow_form h.o2
  exact ⟨A, c, C, e, rfl, rfl⟩
/-- a key more -/
theorem DcSt.app1 {ks vs : List (List UInt8)} {r : Rd} {X : List UInt8} {gn cap : Nat} (h : DcSt w0 g G0 G1 leaf ⟨ks, vs, r⟩ n1 n2 vk vv w) (hown : w'.ownsRow w0.heap.size 9 1 (.slice (some ⟨gn, 0, none⟩) (n1 + 1) cap) (n1 + 1) (secV ks ++ [.string (bstr X)])) (hgr : w.grownBy w' vk.ownBlock) (hat : vk.ownBlock = some gn ∨ gn = w.heap.size) :
    Blk w' G1 30 #[.bool leaf, vk, vv] ∧ DcSt w0 g G0 G1 leaf ⟨ks ++ [X], vs, r⟩ (n1 + 1) n2 (.slice (some ⟨gn, 0, none⟩) (n1 + 1) cap) vv (w'.setCell ⟨G1, 1, none⟩ (.slice (some ⟨gn, 0, none⟩) (n1 + 1) cap)) := by
  have b0 := h.b0.grown hgr (fun e => row_ne h.o1 h.b0 (by decide) e.symm)
  have b1 := h.b1.grown hgr (fun e => row_ne h.o1 h.b1 (by decide) e.symm)
  have rd : RdAt w' g r := Blk.grown h.rd hgr (fun e => row_ne h.o1 h.rd (by decide) e.symm)
  have o2 := row_grown h.o2 hgr (fun j e e2 => h.one j e2 e)
  have one : ∀ j, (Value.slice (some ⟨gn, 0, none⟩) (n1 + 1) cap).ownBlock = some j → vv.ownBlock ≠ some j := by
    intro j e e2
    have hj : gn = j := by simpa [Value.ownBlock] using e
    rcases hat with e3 | e3
    · exact h.one j (by rw [e3, hj]) e2
    · have := (h.o2.lt j e2).2
      omega
  refine ⟨b1, ⟨rd.far (p := ⟨G1, 1, none⟩) h.hg1 _, b0.far (p := ⟨G1, 1, none⟩) h.h01 _, by simpa using b1.set_ 1 (.slice (some ⟨gn, 0, none⟩) (n1 + 1) cap), ?_, row_set o2 (row_ne o2 b1 (by decide)) _, one, below_at (h.bel.grown hgr h.bel.size (fun j e => (h.o1.lt j e).1)) h.l1 _ _, h.l0, h.l1, h.lg, h.h01, h.hg0, h.hg1⟩⟩
  rw [← secV_snoc] at hown
  exact row_set hown (row_ne hown b1 (by decide)) _
theorem DcSt.app2 {ks vs : List (List UInt8)} {r : Rd} {X : List UInt8} {gn cap : Nat} (h : DcSt w0 g G0 G1 leaf ⟨ks, vs, r⟩ n1 n2 vk vv w) (hown : w'.ownsRow w0.heap.size 9 1 (.slice (some ⟨gn, 0, none⟩) (n2 + 1) cap) (n2 + 1) (secV vs ++ [.string (bstr X)])) (hgr : w.grownBy w' vv.ownBlock) (hat : vv.ownBlock = some gn ∨ gn = w.heap.size) :
    Blk w' G1 30 #[.bool leaf, vk, vv] ∧ DcSt w0 g G0 G1 leaf ⟨ks, vs ++ [X], r⟩ n1 (n2 + 1) vk (.slice (some ⟨gn, 0, none⟩) (n2 + 1) cap) (w'.setCell ⟨G1, 2, none⟩ (.slice (some ⟨gn, 0, none⟩) (n2 + 1) cap)) := by
  have b0 := h.b0.grown hgr (fun e => row_ne h.o2 h.b0 (by decide) e.symm)
  have b1 := h.b1.grown hgr (fun e => row_ne h.o2 h.b1 (by decide) e.symm)
  have rd : RdAt w' g r := Blk.grown h.rd hgr (fun e => row_ne h.o2 h.rd (by decide) e.symm)
  have o1 := row_grown h.o1 hgr (fun j e e2 => h.one j e e2)
  have one : ∀ j, vk.ownBlock = some j → (Value.slice (some ⟨gn, 0, none⟩) (n2 + 1) cap).ownBlock ≠ some j := by
    intro j e2 e
    have hj : gn = j := by simpa [Value.ownBlock] using e
    rcases hat with e3 | e3
    · exact h.one j e2 (by rw [e3, hj])
    · have := (h.o1.lt j e2).2
      omega
  refine ⟨b1, ⟨rd.far (p := ⟨G1, 2, none⟩) h.hg1 _, b0.far (p := ⟨G1, 2, none⟩) h.h01 _, by simpa using b1.set_ 2 (.slice (some ⟨gn, 0, none⟩) (n2 + 1) cap), row_set o1 (row_ne o1 b1 (by decide)) _, ?_, one, below_at (h.bel.grown hgr h.bel.size (fun j e => (h.o2.lt j e).1)) h.l1 _ _, h.l0, h.l1, h.lg, h.h01, h.hg0, h.hg1⟩⟩
  rw [← secV_snoc] at hown
  exact row_set hown (row_ne hown b1 (by decide)) _
end

set_option maxRecDepth 100000 in
set_option maxHeartbeats 4000000 in
theorem dec_any (s : List UInt8) (hs : s.length ≤ 140737488351232) (w : World) :
    Calls Try.prog 21 #[.string (bstr s)] w fun e w' => ∃ u, e = .returned (.tuple #[u, .int .i64 (decD s).2]) ∧ NdV w' u (decD s).1 ∧ Below w.heap.size w w' := by
  obtain ⟨i0, hi0, hz0, hz1, hz2⟩ := info_parts str_info
  have hm := many_le s
  obtain ⟨r1, hr1⟩ : ∃ r1, (Rd.bytes ⟨s, 0⟩ 1).2 = r1 := ⟨_, rfl⟩
  obtain ⟨q, hq⟩ : ∃ q, kindD s = q := ⟨_, rfl⟩
  have hb : Rd.bytes ⟨s, 0⟩ 1 = (q, r1) := by rw [← hq, ← hr1]; rfl
  obtain ⟨m, hmm⟩ : ∃ m : Nat, manyD s = m := ⟨(manyD s).toNat, by omega⟩
  obtain ⟨r2, hr2⟩ : ∃ r2, ((Rd.bytes ⟨s, 0⟩ 1).2.number 1).2 = r2 := ⟨_, rfl⟩
  have hn : r1.number 1 = ((m : Int), r2) := by rw [← hr2, ← hmm, ← hr1]; rfl
  have hbd : bodyD s = decS r2 m := by unfold bodyD; rw [hr2, hmm]; rfl
  have hl1 : r1.s.length ≤ s.length := by rw [← hr1]; exact (Rd.take_len _ _ _).2
  have hl2 : r2.s.length ≤ s.length := by rw [← hr2, hr1]; exact Nat.le_trans (Rd.take_len _ _ _).2 hl1
  have hm255 : m ≤ 255 := by omega
  have hnd : nodeD s = ⟨q == [76], (decS r2 m).ks, (decS r2 m).vs⟩ := by unfold nodeD; rw [hq, hbd]
  have hdd : decD s = if (decS r2 m).r.fin = 2 then (emptyN, 2) else if (decS r2 m).r.fin ≠ 0 ∨ (q ≠ [76] ∧ q ≠ [73]) ∨ checkN ⟨q == [76], (decS r2 m).ks, (decS r2 m).vs⟩ ≠ 0 then (emptyN, 3) else (⟨q == [76], (decS r2 m).ks, (decS r2 m).vs⟩, 0) := by
    unfold decD
    rw [hnd, hbd, hq]
  have HB := Lib.hid hb
  have HN := Lib.hid hn
  have HDD := Lib.hid hdd
  obtain ⟨leaf, hleaf⟩ : ∃ b, (q == [76]) = b := ⟨_, rfl⟩
  clear hr1 hr2 hb hn hbd hnd hdd hm hmm hq
  obtain ⟨G0, hG0⟩ : ∃ G0, w.heap.size = G0 := ⟨_, rfl⟩
  obtain ⟨w0, hw0⟩ : ∃ x, w.alloc (.cells #[.bool false, .slice none 0 0, .slice none 0 0] 30) = x := ⟨_, rfl⟩
  have b0 : Blk w0 G0 30 #[.bool false, .slice none 0 0, .slice none 0 0] := by rw [← hw0, ← hG0]; exact Blk.new _ _ _
  have k0 : Below w.heap.size w w0 := by rw [← hw0]; exact (Below.refl _ _).alloc (Nat.le_refl _) _
  go_enter Try.func21, Try.ntmps21
  go_wp2_with fail
  refine (read_any s w0).mono ?_
  rintro e w1 ⟨rfl, rd1, k1⟩
  obtain ⟨g, hg⟩ : ∃ g, w0.heap.size = g := ⟨_, rfl⟩
  rw [hg] at rd1
  have b0' := b0.below k1 b0.lt
  have k01 := hthen k0 k1
  have hgG : g ≠ G0 := by have := b0.lt; omega
  have hlg : w.heap.size ≤ g := by have := k0.size; omega
  clear hw0
  go_wp2_with fail
  refine (bytes_to HB.out g w1 rd1 (by show s.length ≤ _; omega)).mono ?_
  rintro e w2 ⟨rfl, rd2, k2⟩
  have b0'' := b0'.keep k2 b0'.lt (fun e => hgG e.symm)
  have k02 := below_keep k01 k2 k01.size (fun j e => by rw [e]; exact hlg)
  have hG0l : w.heap.size ≤ G0 := Nat.le_of_eq hG0
  clear hG0
  go_wp2_with fail
  obtain ⟨G1, hG1⟩ : ∃ G1, w2.heap.size = G1 := ⟨_, rfl⟩
  obtain ⟨w3, hw3⟩ : ∃ x, w2.alloc (.cells #[.bool leaf, .slice none 0 0, .slice none 0 0] 30) = x := ⟨_, rfl⟩
  have b1 : Blk w3 G1 30 #[.bool leaf, .slice none 0 0, .slice none 0 0] := by rw [← hw3, ← hG1]; exact Blk.new _ _ _
  have k3 : Below w2.heap.size w2 w3 := by rw [← hw3]; exact (Below.refl _ _).alloc (Nat.le_refl _) _
  have rd3 := rd2.below k3 rd2.lt
  have b03 := b0''.below k3 b0''.lt
  have k03 := hthen k02 k3
  have hgl : g < w2.heap.size := rd2.lt
  have h0l : G0 < w2.heap.size := b0''.lt
  have hl0 : w.heap.size ≤ w2.heap.size := k02.size
  rw [hw3, hG1]
  refine (number_to HN.out g w3 rd3 (by omega)).mono ?_
  rintro e w4 ⟨rfl, rd4, k4⟩
  have ST : DcSt w g G0 G1 leaf (decS r2 0) 0 0 (.slice none 0 0) (.slice none 0 0) w4 := by
    refine ⟨rd4, b03.keep k4 b03.lt (fun e => hgG e.symm), b1.keep k4 b1.lt (by omega), World.ownsRow_nil _ _ _ _, World.ownsRow_nil _ _ _ _, by simp [Value.ownBlock], below_keep k03 k4 k03.size (fun j e => by rw [e]; exact hlg), by omega, by omega, hlg, by omega, hgG, by omega⟩
  clear k0 k1 k2 k3 k4 k01 k02 k03 b0 b0' b0'' b03 b1 rd1 rd2 rd3 rd4 hw3
  go_wp2_with fail
  go_loopw [16] (fun i wr => ∃ (k : Nat) (vk vv : Value), k ≤ m ∧ i = .int .i64 k ∧ DcSt w g G0 G1 leaf (decS r2 k) k k vk vv wr) (fun i _ => m - (intOf i).toNat)
  case atStart => exact ⟨0, _, _, Nat.zero_le _, rfl, ST⟩
  case round =>
    obtain ⟨k, vk, vv, hkm, rfl, st⟩ := hrel
    obtain ⟨A, c, C, d, rfl, rfl⟩ := st.form
    have y1 := st.b1.cell 1
    have y2 := st.b1.cell 2
    simp at y1 y2
    by_cases hlt : k < m
    · have q1 : decide ((k : Int) < m) = true := decide_eq_true (by omega)
      have hlk := (decS_len r2 k).2.2
      have hsuc : decS r2 (k + 1) = ⟨(decS r2 k).ks ++ [((decS r2 k).r.text 2).1], (decS r2 k).vs ++ [(((decS r2 k).r.text 2).2.text 1).1], (((decS r2 k).r.text 2).2.text 1).2⟩ := rfl
      obtain ⟨⟨dk, dv, dr⟩, hD⟩ : ∃ D, decS r2 k = D := ⟨_, rfl⟩
      rw [hD] at st hsuc hlk
      simp only at hsuc hlk
      obtain ⟨⟨X, ra⟩, hX⟩ : ∃ t, dr.text 2 = t := ⟨_, rfl⟩
      have hla := rd_text_len dr 2
      rw [hX] at hsuc hla
      simp only at hsuc hla
      obtain ⟨⟨Y, rb⟩, hY⟩ : ∃ t, ra.text 1 = t := ⟨_, rfl⟩
      rw [hY] at hsuc
      simp only at hsuc
      have HX := Lib.hid hX
      have HY := Lib.hid hY
      have HSUC := Lib.hid hsuc
      have F1 := Lib.hid (show k + 1 ≤ maxLen by unfold maxLen; omega)
      have F2 := Lib.hid (show (k + 1) * 16 ≤ 140737488355328 by omega)
      clear hX hY hD hsuc ST
      go_wp2_with fail
      have st := st.drew
      clear y1 y2
      refine wp_region_noPanic ?_
      refine wp_region_x (S := (fun w' => w'.cell? ⟨G1, 1, none⟩ = some (.slice A k c))) 7 (by kernel_rfl) ?hS0 (fun hHeld => ?_)
      case hS0 => (have h := st.b1.cell 1; simp at h; exact h)
      refine wpAnyX_free (i := 0) (v := ?_) rfl (by kernel_rfl) (by kernel_rfl) (by kernel_rfl) (by kernel_rfl) (fun _ _ _ h => h) (Or.inl ⟨by kernel_rfl, ?_⟩) (.inr hHeld) ?_
      rotate_left
      · (intro w _; go_simp; try with_reducible rfl)
      try simp only [Act.put, List.getElem_toArray, List.getElem_cons_succ, List.getElem_cons_zero, List.setIfInBounds_toArray, List.set_cons_zero, List.set_cons_succ]
      refine wpAnyX_free (i := 2) (v := ?_) rfl (by kernel_rfl) (by kernel_rfl) (by kernel_rfl) (by kernel_rfl) (fun _ _ _ h => h) (Or.inl ⟨by kernel_rfl, ?_⟩) (.inr hHeld) ?_
      rotate_left
      · (intro w _; go_simp; try with_reducible rfl)
      try simp only [Act.put, List.getElem_toArray, List.getElem_cons_succ, List.getElem_cons_zero, List.setIfInBounds_toArray, List.set_cons_zero, List.set_cons_succ]
      refine wpAnyX_take (i := 1) (v := ?_) rfl (by kernel_rfl) (by kernel_rfl) (by kernel_rfl) (by kernel_rfl) (by kernel_rfl) (fun _ _ _ h => h) (Or.inl ⟨by kernel_rfl, ?_⟩) hHeld ?_
      rotate_left
      · (intro w hSw; (try dsimp only at hSw); go_simp; try with_reducible rfl)
      try simp only [Act.put, List.getElem_toArray, List.getElem_cons_succ, List.getElem_cons_zero, List.setIfInBounds_toArray, List.set_cons_zero, List.set_cons_succ]
      refine wpAnyX_ready (rs := [3]) (by kernel_rfl) (by simp) ?_
      refine (AllReadyX.cons rfl (fun K hK => ?_) AllReadyX.nil)
      go_simp
      go_at_call 46
      refine (rtext_to HX.out g _ st.rd (by show dr.s.length ≤ _; omega)).mono ?_
      rintro e u1 ⟨rfl, rdn, kk⟩
      have st := st.read rdn kk
      clear rdn kk
      try dsimp only
      refine hK.out _ _ (by have h := st.b1.cell 1; simp at h; exact h) (fun hHeld => ?_)
      clear hK K
      try simp only [Act.put, List.getElem_toArray, List.getElem_cons_succ, List.getElem_cons_zero, List.setIfInBounds_toArray, List.set_cons_zero, List.set_cons_succ]
      refine wpAnyX_ready (rs := [4]) (by kernel_rfl) (by simp) ?_
      refine (AllReadyX.cons rfl (fun K hK => ?_) AllReadyX.nil)
      go_simp
      obtain ⟨u2, hu2⟩ : ∃ x, u1.alloc (.cells #[.string (bstr X)] 9) = x := ⟨_, rfl⟩
      obtain ⟨B, hB⟩ : ∃ b, u1.heap.size = b := ⟨_, rfl⟩
      have nb : Blk u2 B 9 #[.string (bstr X)] := by rw [← hu2, ← hB]; exact Blk.new _ _ _
      have st := st.below (show Below u1.heap.size u1 u2 by rw [← hu2]; exact (Below.refl _ _).alloc (Nat.le_refl _) _)
      rw [hu2, hB]
      clear hu2 hB
      try dsimp only
      refine hK.out _ _ (by have h := st.b1.cell 1; simp at h; exact h) (fun hHeld => ?_)
      clear hK K
      try simp only [Act.put, List.getElem_toArray, List.getElem_cons_succ, List.getElem_cons_zero, List.setIfInBounds_toArray, List.set_cons_zero, List.set_cons_succ]
      refine wpAnyX_ready (rs := [5]) (by kernel_rfl) (by simp) ?_
      refine (AllReadyX.cons rfl (fun K hK => ?_) AllReadyX.nil)
      refine step_append_lies _ (by rfl) _ _ 22 (by rfl) w.heap.size 9 i0 (.string ⟨#[]⟩) 1 16 Try.underlying22 hi0 hz0 hz1 hz2 rfl (by decide) (.slice A k c) k _ rfl st.o1 ⟨B, 0, none⟩ 1 1 [.string (bstr X)] rfl rfl (World.news_of_block nb) (fun u hu => by simp at hu; subst hu; rfl) (by decide) F1.out F2.out st.bel.size _ rfl ?_
      intro gn1 cap1 u3 hown hgr hat _
      obtain ⟨b1n, stn⟩ := st.app1 hown hgr hat
      clear hown hgr hat nb
      try dsimp only
      refine hK.out _ _ (by have h := b1n.cell 1; simp at h; exact h) (fun hHeld => ?_)
      clear hK K
      try simp only [Act.put, List.getElem_toArray, List.getElem_cons_succ, List.getElem_cons_zero, List.setIfInBounds_toArray, List.set_cons_zero, List.set_cons_succ]
      refine wpAnyX_free (i := 6) (v := ?_) rfl (by kernel_rfl) (by kernel_rfl) (by kernel_rfl) (by kernel_rfl) (fun _ _ _ h => h) (Or.inl ⟨by kernel_rfl, ?_⟩) (.inr hHeld) ?_
      rotate_left
      · (intro w _; go_simp; try with_reducible rfl)
      try simp only [Act.put, List.getElem_toArray, List.getElem_cons_succ, List.getElem_cons_zero, List.setIfInBounds_toArray, List.set_cons_zero, List.set_cons_succ]
      have zz := b1n.frozen 1
      have zc := b1n.cell 1
      simp at zc
      refine wpAnyX_ready (rs := [7]) (by kernel_rfl) (by simp) ?_
      refine (AllReadyX.late rfl (by kernel_rfl) (fun K hK => ?_) AllReadyX.nil)
      go_simp
      try dsimp only
      refine hK.out _ _ ?_
      clear hK K
      try simp only [Act.put, List.getElem_toArray, List.getElem_cons_succ, List.getElem_cons_zero, List.setIfInBounds_toArray, List.set_cons_zero, List.set_cons_succ]
      refine wpAnyX_done (by kernel_rfl) ?_ _
      refine NoPanic.normal ?_
      obtain ⟨u4, hu4⟩ : ∃ x, u3.setCell ⟨G1, 1, none⟩ (.slice (some ⟨gn1, 0, none⟩) (k + 1) cap1) = x := ⟨_, rfl⟩
      rw [hu4] at stn ⊢
      clear hu4 b1n st zz zc
      have st := stn
      clear stn
      have y1 := st.b1.cell 1
      have y2 := st.b1.cell 2
      simp at y1 y2
      go_wp2_with fail
      have st := st.drew
      clear y1 y2
      refine wp_region_noPanic ?_
      refine wp_region_x (S := (fun w' => w'.cell? ⟨G1, 2, none⟩ = some (.slice C k d))) 7 (by kernel_rfl) ?hS0 (fun hHeld => ?_)
      case hS0 => (have h := st.b1.cell 2; simp at h; exact h)
      refine wpAnyX_free (i := 0) (v := ?_) rfl (by kernel_rfl) (by kernel_rfl) (by kernel_rfl) (by kernel_rfl) (fun _ _ _ h => h) (Or.inl ⟨by kernel_rfl, ?_⟩) (.inr hHeld) ?_
      rotate_left
      · (intro w _; go_simp; try with_reducible rfl)
      try simp only [Act.put, List.getElem_toArray, List.getElem_cons_succ, List.getElem_cons_zero, List.setIfInBounds_toArray, List.set_cons_zero, List.set_cons_succ]
      refine wpAnyX_free (i := 2) (v := ?_) rfl (by kernel_rfl) (by kernel_rfl) (by kernel_rfl) (by kernel_rfl) (fun _ _ _ h => h) (Or.inl ⟨by kernel_rfl, ?_⟩) (.inr hHeld) ?_
      rotate_left
      · (intro w _; go_simp; try with_reducible rfl)
      try simp only [Act.put, List.getElem_toArray, List.getElem_cons_succ, List.getElem_cons_zero, List.setIfInBounds_toArray, List.set_cons_zero, List.set_cons_succ]
      refine wpAnyX_take (i := 1) (v := ?_) rfl (by kernel_rfl) (by kernel_rfl) (by kernel_rfl) (by kernel_rfl) (by kernel_rfl) (fun _ _ _ h => h) (Or.inl ⟨by kernel_rfl, ?_⟩) hHeld ?_
      rotate_left
      · (intro w hSw; (try dsimp only at hSw); go_simp; try with_reducible rfl)
      try simp only [Act.put, List.getElem_toArray, List.getElem_cons_succ, List.getElem_cons_zero, List.setIfInBounds_toArray, List.set_cons_zero, List.set_cons_succ]
      refine wpAnyX_ready (rs := [3]) (by kernel_rfl) (by simp) ?_
      refine (AllReadyX.cons rfl (fun K hK => ?_) AllReadyX.nil)
      go_simp
      go_at_call 46
      refine (rtext_to HY.out g _ st.rd (by show ra.s.length ≤ _; omega)).mono ?_
      rintro e u1 ⟨rfl, rdn, kk⟩
      have st := st.read rdn kk
      clear rdn kk
      try dsimp only
      refine hK.out _ _ (by have h := st.b1.cell 2; simp at h; exact h) (fun hHeld => ?_)
      clear hK K
      try simp only [Act.put, List.getElem_toArray, List.getElem_cons_succ, List.getElem_cons_zero, List.setIfInBounds_toArray, List.set_cons_zero, List.set_cons_succ]
      refine wpAnyX_ready (rs := [4]) (by kernel_rfl) (by simp) ?_
      refine (AllReadyX.cons rfl (fun K hK => ?_) AllReadyX.nil)
      go_simp
      obtain ⟨u2, hu2⟩ : ∃ x, u1.alloc (.cells #[.string (bstr Y)] 9) = x := ⟨_, rfl⟩
      obtain ⟨B, hB⟩ : ∃ b, u1.heap.size = b := ⟨_, rfl⟩
      have nb : Blk u2 B 9 #[.string (bstr Y)] := by rw [← hu2, ← hB]; exact Blk.new _ _ _
      have st := st.below (show Below u1.heap.size u1 u2 by rw [← hu2]; exact (Below.refl _ _).alloc (Nat.le_refl _) _)
      rw [hu2, hB]
      clear hu2 hB
      try dsimp only
      refine hK.out _ _ (by have h := st.b1.cell 2; simp at h; exact h) (fun hHeld => ?_)
      clear hK K
      try simp only [Act.put, List.getElem_toArray, List.getElem_cons_succ, List.getElem_cons_zero, List.setIfInBounds_toArray, List.set_cons_zero, List.set_cons_succ]
      refine wpAnyX_ready (rs := [5]) (by kernel_rfl) (by simp) ?_
      refine (AllReadyX.cons rfl (fun K hK => ?_) AllReadyX.nil)
      refine step_append_lies _ (by rfl) _ _ 22 (by rfl) w.heap.size 9 i0 (.string ⟨#[]⟩) 1 16 Try.underlying22 hi0 hz0 hz1 hz2 rfl (by decide) (.slice C k d) k _ rfl st.o2 ⟨B, 0, none⟩ 1 1 [.string (bstr Y)] rfl rfl (World.news_of_block nb) (fun u hu => by simp at hu; subst hu; rfl) (by decide) F1.out F2.out st.bel.size _ rfl ?_
      intro gn2 cap2 u3 hown hgr hat _
      obtain ⟨b1n, stn⟩ := st.app2 hown hgr hat
      clear hown hgr hat nb
      try dsimp only
      refine hK.out _ _ (by have h := b1n.cell 2; simp at h; exact h) (fun hHeld => ?_)
      clear hK K
      try simp only [Act.put, List.getElem_toArray, List.getElem_cons_succ, List.getElem_cons_zero, List.setIfInBounds_toArray, List.set_cons_zero, List.set_cons_succ]
      refine wpAnyX_free (i := 6) (v := ?_) rfl (by kernel_rfl) (by kernel_rfl) (by kernel_rfl) (by kernel_rfl) (fun _ _ _ h => h) (Or.inl ⟨by kernel_rfl, ?_⟩) (.inr hHeld) ?_
      rotate_left
      · (intro w _; go_simp; try with_reducible rfl)
      try simp only [Act.put, List.getElem_toArray, List.getElem_cons_succ, List.getElem_cons_zero, List.setIfInBounds_toArray, List.set_cons_zero, List.set_cons_succ]
      have zz := b1n.frozen 2
      have zc := b1n.cell 2
      simp at zc
      refine wpAnyX_ready (rs := [7]) (by kernel_rfl) (by simp) ?_
      refine (AllReadyX.late rfl (by kernel_rfl) (fun K hK => ?_) AllReadyX.nil)
      go_simp
      try dsimp only
      refine hK.out _ _ ?_
      clear hK K
      try simp only [Act.put, List.getElem_toArray, List.getElem_cons_succ, List.getElem_cons_zero, List.setIfInBounds_toArray, List.set_cons_zero, List.set_cons_succ]
      refine wpAnyX_done (by kernel_rfl) ?_ _
      refine NoPanic.normal ?_
      obtain ⟨u4, hu4⟩ : ∃ x, u3.setCell ⟨G1, 2, none⟩ (.slice (some ⟨gn2, 0, none⟩) (k + 1) cap2) = x := ⟨_, rfl⟩
      rw [hu4] at stn ⊢
      clear hu4 b1n st zz zc
      have st := stn
      clear stn
      have y1 := st.b1.cell 1
      have y2 := st.b1.cell 2
      simp at y1 y2
      go_wp2
      go_roundw
      case rel => exact ⟨k + 1, _, _, by omega, by go_num, by rw [HSUC.out]; exact st⟩
      case measure => simp [intOf]; omega
    · obtain rfl : k = m := by omega
      have q1 : decide ((k : Int) < k) = false := by simp
      obtain ⟨lk1, lk2⟩ := st.len
      obtain ⟨⟨dk, dv, dr⟩, hD⟩ : ∃ D, decS r2 k = D := ⟨_, rfl⟩
      have hdd := HDD.out
      rw [hD] at st lk1 lk2 hdd
      simp only at hdd lk1 lk2
      obtain ⟨F, hF⟩ : ∃ F, dr.fin = F := ⟨_, rfl⟩
      rw [hF, hleaf] at hdd
      have HF := Lib.hid hF
      have HDD2 := Lib.hid hdd
      have z0 := st.b0.cell 0
      have z1 := st.b0.cell 1
      have z2 := st.b0.cell 2
      have f0 := st.b0.frozen 0
      have f1 := st.b0.frozen 1
      have f2 := st.b0.frozen 2
      simp at z0 z1 z2
      have bad : ∀ e : Int, decD s = (emptyN, e) → ∀ w' : World, Blk w' G0 30 #[.bool false, .slice none 0 0, .slice none 0 0] → Below w.heap.size w w' → ∃ u, Ending.returned (.tuple #[.agg #[.bool false, .slice none 0 0, .slice none 0 0], .int .i64 e]) = .returned (.tuple #[u, .int .i64 (decD s).2]) ∧ NdV w' u (decD s).1 ∧ Below w.heap.size w w' := by
        intro e he w' _ hb
        rw [he]
        exact ⟨_, rfl, ⟨_, _, rfl, ⟨none, 0, rfl, fun j hj => by simp [emptyN] at hj⟩, ⟨none, 0, rfl, fun j hj => by simp [emptyN] at hj⟩⟩, hb⟩
      have BAD := Lib.hid bad
      have bset : ∀ w' : World, Blk w' G0 30 #[.bool false, .slice none 0 0, .slice none 0 0] → Blk (((w'.setCell ⟨G0, 0, none⟩ (.bool false)).setCell ⟨G0, 1, none⟩ (.slice none 0 0)).setCell ⟨G0, 2, none⟩ (.slice none 0 0)) G0 30 #[.bool false, .slice none 0 0, .slice none 0 0] := by
        intro w' h
        simpa using ((h.set_ 0 (.bool false)).set_ 1 (.slice none 0 0)).set_ 2 (.slice none 0 0)
      have BSET := Lib.hid bset
      have belset : ∀ w' : World, Below w.heap.size w w' → ∀ a b c, Below w.heap.size w (((w'.setCell ⟨G0, 0, none⟩ a).setCell ⟨G0, 1, none⟩ b).setCell ⟨G0, 2, none⟩ c) := fun w' h a b c => below_at (below_at (below_at h hG0l _ _) hG0l _ _) hG0l _ _
      have BEL := Lib.hid belset
      clear hD hdd hF bad bset belset ST hleaf
      by_cases h2 : F = 2
      · have q2 : (F == 2) = true := by simp [h2]
        have HD : Hid (decD s = (emptyN, 2)) := Lib.hid (by rw [HDD2.out, if_pos h2])
        clear h2
        go_wp2_with fail
        refine (end_to HF.out g wr st.rd).mono ?_
        rintro e wr ⟨rfl, rfl⟩
        go_wp2
        have xx := BSET.out _ st.b0
        have v0 := xx.cell 0
        have v1 := xx.cell 1
        have v2 := xx.cell 2
        simp at v0 v1 v2
        refine bodyPost_ret (v := .tuple #[.agg #[.bool false, .slice none 0 0, .slice none 0 0], .int .i64 2]) ?h1 rfl (BAD.out 2 HD.out _ xx (BEL.out _ st.bel _ _ _))
        case h1 => simp [results, Try.results21, go_sem, v0, v1, v2]
      · have q2 : (F == 2) = false := beq_eq_false_iff_ne.2 h2
        by_cases h0 : F = 0
        · have q3 : (F != 0) = false := by simp [h0]
          by_cases hq : q = [76] ∨ q = [73]
          · have HNV : NdV wr (.agg #[.bool leaf, .slice A k c, .slice C k d]) ⟨leaf, dk, dv⟩ := ⟨_, _, rfl, ss_row st.o1, ss_row st.o2⟩
            obtain ⟨E, hE⟩ : ∃ E, checkN ⟨leaf, dk, dv⟩ = E := ⟨_, rfl⟩
            have HE := Lib.hid hE
            have hdd := HDD2.out
            rw [if_neg h2, hE] at hdd
            have y0 := st.b1.cell 0
            simp at y0
            have hdd2 : decD s = if E ≠ 0 then (emptyN, 3) else (⟨leaf, dk, dv⟩, 0) := by
              rw [hdd]
              have h3 : ¬ (q ≠ [76] ∧ q ≠ [73]) := by rintro ⟨h4, h5⟩; exact hq.elim h4 h5
              by_cases h6 : E ≠ 0
              · rw [if_pos (.inr (.inr h6)), if_pos h6]
              · rw [if_neg (fun h7 => h7.elim (fun h8 => h8 h0) (fun h8 => h8.elim h3 h6)), if_neg h6]
            have HD := Lib.hid hdd2
            clear hE hdd hdd2 h0 h2
            rcases hq with rfl | rfl
            all_goals
              go_wp2_with fail
              refine (end_to HF.out g wr st.rd).mono ?_
              rintro e wr ⟨rfl, rfl⟩
              go_wp2_with fail
              refine (end_to HF.out g wr st.rd).mono ?_
              rintro e wr ⟨rfl, rfl⟩
              go_wp2_with fail
              refine (check_to HE.out _ wr HNV (by show dk.length ≤ _; omega) (by show dv.length ≤ _; omega)).mono ?_
              rintro e w9 ⟨rfl, k9⟩
              have st9 := st.below k9
              have HNV9 := HNV.below k9
              clear y0 y1 y2 z0 z1 z2 f0 f1 f2
              have y0 := st9.b1.cell 0
              have y1 := st9.b1.cell 1
              have y2 := st9.b1.cell 2
              have z0 := st9.b0.cell 0
              have z1 := st9.b0.cell 1
              have z2 := st9.b0.cell 2
              have f0 := st9.b0.frozen 0
              have f1 := st9.b0.frozen 1
              have f2 := st9.b0.frozen 2
              simp at y0 y1 y2 z0 z1 z2
              by_cases hE0 : E = 0
              · have qe : (E != 0) = false := by simp [hE0]
                have HD2 : Hid (decD s = (⟨leaf, dk, dv⟩, 0)) := Lib.hid (by rw [HD.out, if_neg (by simp [hE0])])
                clear hE0
                go_wp2
                have xx : Blk (((w9.setCell ⟨G0, 0, none⟩ (.bool leaf)).setCell ⟨G0, 1, none⟩ (.slice A k c)).setCell ⟨G0, 2, none⟩ (.slice C k d)) G0 30 #[.bool leaf, .slice A k c, .slice C k d] := by
                  simpa using ((st9.b0.set_ 0 (.bool leaf)).set_ 1 (.slice A k c)).set_ 2 (.slice C k d)
                have v0 := xx.cell 0
                have v1 := xx.cell 1
                have v2 := xx.cell 2
                simp at v0 v1 v2
                have l1 := row_ne st9.o1 st9.b0 (by decide)
                have l2 := row_ne st9.o2 st9.b0 (by decide)
                have ss1 := row_set (i := 2) (row_set (i := 1) (row_set (i := 0) st9.o1 l1 (.bool leaf)) l1 (.slice A k c)) l1 (.slice C k d)
                have ss2 := row_set (i := 2) (row_set (i := 1) (row_set (i := 0) st9.o2 l2 (.bool leaf)) l2 (.slice A k c)) l2 (.slice C k d)
                refine bodyPost_ret (v := .tuple #[.agg #[.bool leaf, .slice A k c, .slice C k d], .int .i64 0]) ?h1 rfl ?h2
                case h1 => simp [results, Try.results21, go_sem, v0, v1, v2]
                case h2 => rw [HD2.out]; exact ⟨_, rfl, ⟨_, _, rfl, ss_row ss1, ss_row ss2⟩, BEL.out _ st9.bel _ _ _⟩
              · have qe : (E != 0) = true := bne_iff_ne.2 hE0
                have HD2 : Hid (decD s = (emptyN, 3)) := Lib.hid (by rw [HD.out, if_pos hE0])
                clear hE0
                go_wp2
                have xx := BSET.out _ st9.b0
                have v0 := xx.cell 0
                have v1 := xx.cell 1
                have v2 := xx.cell 2
                simp at v0 v1 v2
                refine bodyPost_ret (v := .tuple #[.agg #[.bool false, .slice none 0 0, .slice none 0 0], .int .i64 3]) ?h1 rfl (BAD.out 3 HD2.out _ xx (BEL.out _ st9.bel _ _ _))
                case h1 => simp [results, Try.results21, go_sem, v0, v1, v2]
          · have qa : (q == [76]) = false := beq_eq_false_iff_ne.2 (fun e => hq (.inl e))
            have qb : (q == [73]) = false := beq_eq_false_iff_ne.2 (fun e => hq (.inr e))
            have HD : Hid (decD s = (emptyN, 3)) := Lib.hid (by rw [HDD2.out, if_neg h2, if_pos (.inr (.inl ⟨fun e => hq (.inl e), fun e => hq (.inr e)⟩))])
            clear h0 h2 hq
            go_wp2_with fail
            refine (end_to HF.out g wr st.rd).mono ?_
            rintro e wr ⟨rfl, rfl⟩
            go_wp2_with fail
            refine (end_to HF.out g wr st.rd).mono ?_
            rintro e wr ⟨rfl, rfl⟩
            go_wp2
            have xx := BSET.out _ st.b0
            have v0 := xx.cell 0
            have v1 := xx.cell 1
            have v2 := xx.cell 2
            simp at v0 v1 v2
            refine bodyPost_ret (v := .tuple #[.agg #[.bool false, .slice none 0 0, .slice none 0 0], .int .i64 3]) ?h1 rfl (BAD.out 3 HD.out _ xx (BEL.out _ st.bel _ _ _))
            case h1 => simp [results, Try.results21, go_sem, v0, v1, v2]
        · have q3 : (F != 0) = true := bne_iff_ne.2 h0
          have HD : Hid (decD s = (emptyN, 3)) := Lib.hid (by rw [HDD2.out, if_neg h2, if_pos (.inl h0)])
          clear h0 h2
          go_wp2_with fail
          refine (end_to HF.out g wr st.rd).mono ?_
          rintro e wr ⟨rfl, rfl⟩
          go_wp2_with fail
          refine (end_to HF.out g wr st.rd).mono ?_
          rintro e wr ⟨rfl, rfl⟩
          go_wp2
          have xx := BSET.out _ st.b0
          have v0 := xx.cell 0
          have v1 := xx.cell 1
          have v2 := xx.cell 2
          simp at v0 v1 v2
          refine bodyPost_ret (v := .tuple #[.agg #[.bool false, .slice none 0 0, .slice none 0 0], .int .i64 3]) ?h1 rfl (BAD.out 3 HD.out _ xx (BEL.out _ st.bel _ _ _))
          case h1 => simp [results, Try.results21, go_sem, v0, v1, v2]
end Go.Proofs.Ytiodeeliidhbgaa
