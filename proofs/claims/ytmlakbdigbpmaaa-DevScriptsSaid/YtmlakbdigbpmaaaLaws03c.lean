/- The walk of the law DevLost: it returns true at every input, and writes to nothing that was there. No condition but that numbers fit their kind. -/
import Derived.Test.YtmlakbdigbpmaaaLaws03b
namespace Go.Proofs.Ytmlakbdigbpmaaa
open Go.RowKit
set_option linter.unusedSimpArgs false
set_option linter.unnecessarySimpa false
set_option linter.unusedVariables false

theorem add_add' (a : Addr) (i j : Nat) : (a.add i).add j = a.add (i + j) := by
  unfold Addr.add
  by_cases hi : i = 0 <;> by_cases hj : j = 0 <;> simp [hi, hj, Nat.add_assoc]
/-- the cells of a script's call -/
theorem op_cells {w0 w : World} {A : Option Addr} {n c : Nat} {l : List D_permafrostlaw03_Op} (h : SlAt w0.heap.size w0 (R_permafrostlaw03_Op w0.heap.size w0) 5 [.slice A n c] l) (hb : Below w0.heap.size w0 w) (k : Nat) (hk : k < l.length) :
    ∃ ad v4, A = some ad ∧ (ad.add (k * 5)).block < w0.heap.size ∧ w.cell? (ad.add (k * 5)) = some (.int .i64 l[k].do_) ∧ w.cell? ⟨(ad.add (k * 5)).block, (ad.add (k * 5)).off + 1, none⟩ = some (.int .i64 l[k].l.dev) ∧
      w.cell? ⟨(ad.add (k * 5)).block, (ad.add (k * 5)).off + 2, none⟩ = some (.int .i64 l[k].l.at_) ∧ w.cell? ⟨(ad.add (k * 5)).block, (ad.add (k * 5)).off + 3, none⟩ = some (.string (bstr l[k].s)) ∧ w.cell? ⟨(ad.add (k * 5)).block, (ad.add (k * 5)).off + 4, none⟩ = some v4 ∧
      SlAt w0.heap.size w0 IsBool 1 [v4] l[k].keep := by
  obtain ⟨A', n', c', e, rfl, hc, hm, hx⟩ := h
  simp at e
  obtain ⟨rfl, rfl, rfl⟩ := e
  obtain ⟨ad, rfl, had, hcell⟩ := hx (by omega)
  obtain ⟨es, hl, ⟨v4, rfl, -, -, -, -, hk4⟩, hu⟩ := hcell k l[k] (List.getElem?_eq_getElem hk)
  have e : ∀ j, (ad.add j).block < w0.heap.size := fun j => by unfold Addr.add; split <;> exact had
  have go : ∀ j u, [Value.int .i64 l[k].do_, .int .i64 l[k].l.dev, .int .i64 l[k].l.at_, .string (bstr l[k].s), v4][j]? = some u → w.cell? (ad.add (k * 5 + j)) = some u := fun j u hj => by
    rw [hb.cell (e _)]
    exact hu j u hj
  have step : ∀ j, 0 < j → ad.add (k * 5 + j) = ⟨(ad.add (k * 5)).block, (ad.add (k * 5)).off + j, none⟩ := fun j hj => by
    rw [← add_add']
    conv => lhs; unfold Addr.add
    rw [if_neg (by omega)]
    rfl
  refine ⟨ad, v4, rfl, e _, go 0 _ rfl, ?_, ?_, ?_, ?_, hk4⟩
  · rw [← step 1 (by omega)]; exact go 1 _ rfl
  · rw [← step 2 (by omega)]; exact go 2 _ rfl
  · rw [← step 3 (by omega)]; exact go 3 _ rfl
  · rw [← step 4 (by omega)]; exact go 4 _ rfl
theorem ops_form {w0 : World} {v : Value} {l : List D_permafrostlaw03_Op} (h : SlAt w0.heap.size w0 (R_permafrostlaw03_Op w0.heap.size w0) 5 [v] l) : ∃ A c, v = .slice A l.length c := by
  obtain ⟨A, n, c, e, rfl, _⟩ := h
  simp only [List.cons.injEq, and_true] at e
  exact ⟨A, c, e⟩

/-- writes, one behind the other -/
def scrD (l : List D_permafrostlaw03_Op) (d : Dv) : Nat → Dv
  | 0 => d
  | k + 1 => match l[k]? with | some o => (scrD l d k).write (toLc o.l) o.s | none => scrD l d k
theorem scrD_succ {l : List D_permafrostlaw03_Op} {d : Dv} {k : Nat} (hk : k < l.length) : scrD l d (k + 1) = (scrD l d k).write (toLc l[k].l) l[k].s := by
  rw [scrD, List.getElem?_eq_getElem hk]
/-- what writes leave as it was -/
structure SameS (d e : Dv) : Prop where
  s0 : e.s0 = d.s0
  s1 : e.s1 = d.s1
  l0 : e.l0 = d.l0
  l1 : e.l1 = d.l1
theorem SameS.write (d : Dv) (l : Lc) (s : List UInt8) : SameS d (d.write l s) := by
  unfold Dv.write
  split <;> exact ⟨rfl, rfl, rfl, rfl⟩
theorem SameS.scr (l : List D_permafrostlaw03_Op) (d : Dv) : ∀ k, SameS d (scrD l d k)
  | 0 => ⟨rfl, rfl, rfl, rfl⟩
  | k + 1 => by
    have ih := SameS.scr l d k
    unfold scrD
    split
    · rename_i o _
      have := SameS.write (scrD l d k) (toLc o.l) o.s
      exact ⟨this.s0.trans ih.s0, this.s1.trans ih.s1, this.l0.trans ih.l0, this.l1.trans ih.l1⟩
    · exact ih
theorem scr_len (l : List D_permafrostlaw03_Op) (d : Dv) : ∀ k, (scrD l d k).ws.length ≤ d.ws.length + k
  | 0 => Nat.le_refl _
  | k + 1 => by
    have ih := scr_len l d k
    unfold scrD
    split
    · unfold Dv.write
      split
      · simp; omega
      · omega
    · omega

theorem fold_filter {l : Lc} {p : Wr → Bool} : ∀ (ws : List Wr) (s : List UInt8), (∀ x ∈ ws, x.loc = l → p x = true) → (ws.filter p).foldl (fun s x => if x.loc = l then x.text else s) s = ws.foldl (fun s x => if x.loc = l then x.text else s) s
  | [], _, _ => rfl
  | a :: ws, s, h => by
    have ih := fun s => fold_filter (l := l) (p := p) ws s (fun x hx => h x (by simp [hx]))
    by_cases hp : p a = true
    · rw [List.filter_cons_of_pos hp, List.foldl_cons, List.foldl_cons, ih]
    · rw [List.filter_cons_of_neg hp, List.foldl_cons, if_neg (fun e => hp (h a (by simp) e)), ih]
theorem read_ok20 {d : Dv} {dv : Int} {at_ : Nat} (h01 : isB dv = true) (hl : (d.sec dv).length = 20) (hg : d.gone dv = false) (ha : at_ < 20) : d.read ⟨dv, at_⟩ = (d.look ⟨dv, at_⟩, 0) := by
  have e : mayE d ⟨dv, at_⟩ [] = 0 := by
    unfold mayE
    have t1 : ¬ ((at_ : Int) < 0) := by omega
    have t2 : ¬ (((d.sec dv).length : Int) ≤ at_) := by omega
    simp [h01, hg, t2]
  unfold Dv.read
  rw [if_pos e]
theorem read_gone20 {d : Dv} {dv : Int} {at_ : Nat} (h01 : isB dv = true) (hl : (d.sec dv).length = 20) (hg : d.gone dv = true) (ha : at_ < 20) : mayE d ⟨dv, at_⟩ [] = 5 ∧ d.read ⟨dv, at_⟩ = ([], 5) := by
  have e : mayE d ⟨dv, at_⟩ [] = 5 := by
    unfold mayE
    have t2 : ¬ (((d.sec dv).length : Int) ≤ at_) := by omega
    simp [h01, hg, t2]
  refine ⟨e, ?_⟩
  unfold Dv.read
  rw [if_neg (by rw [e]; decide), e]

/-- the devices of DevLost: written to, and one of them lost -/
theorem lost_reads (l : List D_permafrostlaw03_Op) (k : Nat) (wh o : Int) (h : (wh = 0 ∧ o = 1) ∨ (wh = 1 ∧ o = 0)) (at_ : Nat) (ha : at_ < 20) :
    ((scrD l (Dv.new 20 20) k).lose wh).read ⟨wh, at_⟩ = ([], 5) ∧ mayE ((scrD l (Dv.new 20 20) k).lose wh) ⟨wh, at_⟩ [] = 5 ∧
    ((scrD l (Dv.new 20 20) k).lose wh).read ⟨o, at_⟩ = ((scrD l (Dv.new 20 20) k).look ⟨o, at_⟩, 0) ∧ (scrD l (Dv.new 20 20) k).read ⟨o, at_⟩ = ((scrD l (Dv.new 20 20) k).look ⟨o, at_⟩, 0) := by
  have hs := SameS.scr l (Dv.new 20 20) k
  generalize scrD l (Dv.new 20 20) k = d at hs
  obtain ⟨s0, s1, l0, l1, ws⟩ := d
  obtain ⟨e0, e1, e2, e3⟩ := hs
  simp only [Dv.new] at e0 e1 e2 e3
  subst e0 e1 e2 e3
  rcases h with ⟨rfl, rfl⟩ | ⟨rfl, rfl⟩
  · have g1 := read_gone20 (d := Dv.lose ⟨List.replicate 20 [], List.replicate 20 [], false, false, ws⟩ 0) (dv := 0) (at_ := at_) rfl (by simp [Dv.lose, Dv.sec]) (by simp [Dv.lose, Dv.gone]) ha
    have g2 := read_ok20 (d := Dv.lose ⟨List.replicate 20 [], List.replicate 20 [], false, false, ws⟩ 0) (dv := 1) (at_ := at_) rfl (by simp [Dv.lose, Dv.sec]) (by simp [Dv.lose, Dv.gone]) ha
    have g3 := read_ok20 (d := ⟨List.replicate 20 [], List.replicate 20 [], false, false, ws⟩) (dv := 1) (at_ := at_) rfl (by simp [Dv.sec]) (by simp [Dv.gone]) ha
    refine ⟨g1.2, g1.1, ?_, g3⟩
    rw [g2]
    congr 1
    unfold Dv.look Dv.lose
    rw [if_pos rfl]
    exact fold_filter ws _ (fun x _ e => by rw [e]; rfl)
  · have g1 := read_gone20 (d := Dv.lose ⟨List.replicate 20 [], List.replicate 20 [], false, false, ws⟩ 1) (dv := 1) (at_ := at_) rfl (by simp [Dv.lose, Dv.sec]) (by simp [Dv.lose, Dv.gone]) ha
    have g2 := read_ok20 (d := Dv.lose ⟨List.replicate 20 [], List.replicate 20 [], false, false, ws⟩ 1) (dv := 0) (at_ := at_) rfl (by simp [Dv.lose, Dv.sec]) (by simp [Dv.lose, Dv.gone]) ha
    have g3 := read_ok20 (d := ⟨List.replicate 20 [], List.replicate 20 [], false, false, ws⟩) (dv := 0) (at_ := at_) rfl (by simp [Dv.sec]) (by simp [Dv.gone]) ha
    refine ⟨g1.2, g1.1, ?_, g3⟩
    rw [g2]
    congr 1
    unfold Dv.look Dv.lose
    rw [if_neg (by decide), if_pos rfl]
    exact fold_filter ws _ (fun x _ e => by rw [e]; rfl)

set_option maxRecDepth 100000 in
set_option maxHeartbeats 4000000 in
theorem devLost_main0 (w : World) (A : Option Addr) (c : Nat) (a0 : List D_permafrostlaw03_Op) (h0 : SlAt w.heap.size w (R_permafrostlaw03_Op w.heap.size w) 5 [.slice A a0.length c] a0) (t0 : a0.length ≤ 30) :
    Calls Try.prog 5 #[.slice A a0.length c, .int .i64 0] w fun e w' => e = .returned (.bool true) ∧ Below w.heap.size w w' := by
  have HR := fun k at_ ha => Lib.hid (lost_reads a0 k 0 1 (by decide) at_ ha)
  have q0 : decide (30 < (a0.length : Int)) = false := decide_eq_false (by omega)
  go_enter Try.func5, Try.ntmps5
  go_wp2_with fail
  refine (newL 20 20 (by decide) (by decide) (by decide) (by decide) w w (Below.refl _ _)).mono ?_
  rintro e w1 ⟨g, S0, rfl, hd0, hS0, k0⟩
  go_wp2_with fail
  go_loopw [6] (fun i wr => ∃ (k : Nat) (S : Nat → Prop), k ≤ a0.length ∧ i = .int .i64 k ∧ Lv w wr S g (scrD a0 (Dv.new 20 20) k) ∧ Below w.heap.size w wr) (fun i _ => a0.length - (intOf i).toNat)
  case atStart => exact ⟨0, S0, by omega, rfl, hd0, k0⟩
  case round =>
    obtain ⟨k, S, hk, rfl, hd, hb⟩ := hrel
    have hsz := hb.size
    have hln : (scrD a0 (Dv.new 20 20) k).ws.length ≤ 0 + k := scr_len a0 (Dv.new 20 20) k
    have HN : Hid ((scrD a0 (Dv.new 20 20) k).ws.length ≤ 100000) := Lib.hid (by omega)
    clear hln
    by_cases hlt : k < a0.length
    · obtain ⟨ad, v4, rfl, hbl, z0, z1, z2, z3, _, _⟩ := op_cells h0 hb k hlt
      have HS := Lib.hid (scrD_succ (d := Dv.new 20 20) hlt)
      go_wp2_with fail
      go_region_held3 (fun w' => w'.cell? ⟨(ad.add (k * 5)).block, (ad.add (k * 5)).off + 1, none⟩ = some (.int .i64 a0[k].l.dev) ∧ w'.cell? ⟨(ad.add (k * 5)).block, (ad.add (k * 5)).off + 2, none⟩ = some (.int .i64 a0[k].l.at_) ∧ w'.cell? ⟨(ad.add (k * 5)).block, (ad.add (k * 5)).off + 3, none⟩ = some (.string (bstr a0[k].s)))
        (first | exact ⟨y1, y2, y3⟩ | exact ⟨z1, z2, z3⟩ | go_keep)
        (first | (go_at_call 20; refine (writeL S g (scrD a0 (Dv.new 20 20) k) (toLc a0[k].l) a0[k].s rfl HN.out w wr.drew hb.drew (hd.below (Below.refl _ _).drew)).mono ?_; rintro e w2 ⟨rfl, S2, hd2, hS2, k2, b2⟩; obtain ⟨_, _, e5, _, _, y1, y2, y3, _, _⟩ := op_cells h0 b2 k hlt; cases e5))
      go_wp2
      go_round
      case rel => exact ⟨k + 1, S2, by omega, by go_num, by rw [HS.out]; exact hd2, b2⟩
      case measure => simp [intOf]; omega
    · obtain rfl : k = a0.length := by omega
      obtain ⟨D, hD⟩ : ∃ D, scrD a0 (Dv.new 20 20) a0.length = D := ⟨_, rfl⟩
      have HRD := fun at_ ha => HR a0.length at_ ha
      rw [hD] at hd HN HRD
      clear HR hD
      go_wp2_with fail
      refine (copyL S g D HN.out w wr hb hd).mono ?_
      rintro e w2 ⟨gk, T, rfl, t0', hT0, k2⟩
      have b2 := hb.trans (k2.mono hsz)
      have ap0 : ∀ k, T k → ¬ S k := fun k e e2 => by have := hT0 k e; have := hd.o.lt k e2; omega
      have hd2 := hd.below k2
      go_wp2_with fail
      refine (loseL (e0 := 0) S g D 0 rfl HN.out w w2 b2 hd2).mono ?_
      rintro e w3 ⟨rfl, S3, hd3, hS3, k3, b3⟩
      have t3 := t0'.keep k3 ap0
      have hwl : (D.lose 0).ws.length ≤ D.ws.length := by
        unfold Dv.lose
        rw [if_pos rfl]; exact List.length_filter_le _ _
      have HN3 : Hid ((D.lose 0).ws.length ≤ 100000) := Lib.hid (Nat.le_trans hwl HN.out)
      clear hwl h0
      go_wp2_with fail
      go_loopw [8] (fun i wr => ∃ k : Nat, k ≤ 20 ∧ i = .int .i64 k ∧ Lv w wr S3 g (D.lose 0) ∧ Lv w wr T gk D ∧ Below w.heap.size w wr) (fun i _ => 20 - (intOf i).toNat)
      case atStart => exact ⟨0, by omega, rfl, hd3, t3, b3⟩
      case round =>
        obtain ⟨k, hk, rfl, hdk, htk, hbk⟩ := hrel
        by_cases hlt : k < 20
        · obtain ⟨e1, e2, e3, e4⟩ := (HRD k hlt).out
          have E1 := Lib.hid e1
          have E3 := Lib.hid e3
          have E4 := Lib.hid e4
          clear e1 e2 e3 e4
          go_wp2_with fail
          refine (readL S3 g (D.lose 0) ⟨0, k⟩ E1.out HN3.out w _ hdk).mono ?_
          rintro e w5 ⟨rfl, k5⟩
          have b5 := hbk.trans (k5.mono hbk.size)
          have hd5 := hdk.below k5
          have ht5 := htk.below k5
          go_wp2_with fail
          refine (readL S3 g (D.lose 0) ⟨1, k⟩ E3.out HN3.out w w5 hd5).mono ?_
          rintro e w6 ⟨rfl, k6⟩
          have b6 := b5.trans (k6.mono b5.size)
          have hd6 := hd5.below k6
          have ht6 := ht5.below k6
          go_wp2_with fail
          refine (readL T gk D ⟨1, k⟩ E4.out HN.out w w6 ht6).mono ?_
          rintro e w7 ⟨rfl, k7⟩
          have b7 := b6.trans (k7.mono b6.size)
          have hd7 := hd6.below k7
          have ht7 := ht6.below k7
          go_wp2
          go_round
          case rel => exact ⟨k + 1, by omega, by go_num, hd7, ht7, b7⟩
          case measure => simp [intOf]; omega
        · obtain rfl : k = 20 := by omega
          have hm := (HRD 0 (by decide)).out.2.1
          have HM := Lib.hid hm
          clear hm
          go_wp2_with fail
          refine (writeL (e0 := 5) S3 g (D.lose 0) ⟨0, 0⟩ [] HM.out HN3.out w _ hbk hdk).mono ?_
          rintro e w5 ⟨rfl, S5, hd5, hS5, k5, b5⟩
          have e5 : (D.lose 0).write ⟨0, 0⟩ [] = D.lose 0 := by
            unfold Dv.write
            rw [if_neg (by rw [show mayE (D.lose 0) ⟨0, 0⟩ [] = 5 from HM.out]; decide)]
          rw [e5] at hd5
          clear e5
          go_wp2_with fail
          refine (spoilL (e0 := 5) S5 g (D.lose 0) ⟨0, 0⟩ [] HM.out HN3.out w w5 b5 hd5).mono ?_
          rintro e w6 ⟨rfl, S6, hd6, hS6, k6, b6⟩
          go_wp2_with fail
          refine (live_ok w6).mono ?_
          rintro e w7 ⟨rfl, k7⟩
          go_wp2
          go_ret
          exact ⟨rfl, b6.trans (k7.mono b6.size)⟩

set_option maxRecDepth 100000 in
set_option maxHeartbeats 4000000 in
theorem devLost_main1 (w : World) (A : Option Addr) (c : Nat) (a0 : List D_permafrostlaw03_Op) (h0 : SlAt w.heap.size w (R_permafrostlaw03_Op w.heap.size w) 5 [.slice A a0.length c] a0) (t0 : a0.length ≤ 30) :
    Calls Try.prog 5 #[.slice A a0.length c, .int .i64 1] w fun e w' => e = .returned (.bool true) ∧ Below w.heap.size w w' := by
  have HR := fun k at_ ha => Lib.hid (lost_reads a0 k 1 0 (by decide) at_ ha)
  have q0 : decide (30 < (a0.length : Int)) = false := decide_eq_false (by omega)
  go_enter Try.func5, Try.ntmps5
  go_wp2_with fail
  refine (newL 20 20 (by decide) (by decide) (by decide) (by decide) w w (Below.refl _ _)).mono ?_
  rintro e w1 ⟨g, S0, rfl, hd0, hS0, k0⟩
  go_wp2_with fail
  go_loopw [6] (fun i wr => ∃ (k : Nat) (S : Nat → Prop), k ≤ a0.length ∧ i = .int .i64 k ∧ Lv w wr S g (scrD a0 (Dv.new 20 20) k) ∧ Below w.heap.size w wr) (fun i _ => a0.length - (intOf i).toNat)
  case atStart => exact ⟨0, S0, by omega, rfl, hd0, k0⟩
  case round =>
    obtain ⟨k, S, hk, rfl, hd, hb⟩ := hrel
    have hsz := hb.size
    have hln : (scrD a0 (Dv.new 20 20) k).ws.length ≤ 0 + k := scr_len a0 (Dv.new 20 20) k
    have HN : Hid ((scrD a0 (Dv.new 20 20) k).ws.length ≤ 100000) := Lib.hid (by omega)
    clear hln
    by_cases hlt : k < a0.length
    · obtain ⟨ad, v4, rfl, hbl, z0, z1, z2, z3, _, _⟩ := op_cells h0 hb k hlt
      have HS := Lib.hid (scrD_succ (d := Dv.new 20 20) hlt)
      go_wp2_with fail
      go_region_held3 (fun w' => w'.cell? ⟨(ad.add (k * 5)).block, (ad.add (k * 5)).off + 1, none⟩ = some (.int .i64 a0[k].l.dev) ∧ w'.cell? ⟨(ad.add (k * 5)).block, (ad.add (k * 5)).off + 2, none⟩ = some (.int .i64 a0[k].l.at_) ∧ w'.cell? ⟨(ad.add (k * 5)).block, (ad.add (k * 5)).off + 3, none⟩ = some (.string (bstr a0[k].s)))
        (first | exact ⟨y1, y2, y3⟩ | exact ⟨z1, z2, z3⟩ | go_keep)
        (first | (go_at_call 20; refine (writeL S g (scrD a0 (Dv.new 20 20) k) (toLc a0[k].l) a0[k].s rfl HN.out w wr.drew hb.drew (hd.below (Below.refl _ _).drew)).mono ?_; rintro e w2 ⟨rfl, S2, hd2, hS2, k2, b2⟩; obtain ⟨_, _, e5, _, _, y1, y2, y3, _, _⟩ := op_cells h0 b2 k hlt; cases e5))
      go_wp2
      go_round
      case rel => exact ⟨k + 1, S2, by omega, by go_num, by rw [HS.out]; exact hd2, b2⟩
      case measure => simp [intOf]; omega
    · obtain rfl : k = a0.length := by omega
      obtain ⟨D, hD⟩ : ∃ D, scrD a0 (Dv.new 20 20) a0.length = D := ⟨_, rfl⟩
      have HRD := fun at_ ha => HR a0.length at_ ha
      rw [hD] at hd HN HRD
      clear HR hD
      go_wp2_with fail
      refine (copyL S g D HN.out w wr hb hd).mono ?_
      rintro e w2 ⟨gk, T, rfl, t0', hT0, k2⟩
      have b2 := hb.trans (k2.mono hsz)
      have ap0 : ∀ k, T k → ¬ S k := fun k e e2 => by have := hT0 k e; have := hd.o.lt k e2; omega
      have hd2 := hd.below k2
      go_wp2_with fail
      refine (loseL (e0 := 0) S g D 1 rfl HN.out w w2 b2 hd2).mono ?_
      rintro e w3 ⟨rfl, S3, hd3, hS3, k3, b3⟩
      have t3 := t0'.keep k3 ap0
      have hwl : (D.lose 1).ws.length ≤ D.ws.length := by
        unfold Dv.lose
        rw [if_neg (by decide), if_pos rfl]; exact List.length_filter_le _ _
      have HN3 : Hid ((D.lose 1).ws.length ≤ 100000) := Lib.hid (Nat.le_trans hwl HN.out)
      clear hwl h0
      go_wp2_with fail
      go_loopw [8] (fun i wr => ∃ k : Nat, k ≤ 20 ∧ i = .int .i64 k ∧ Lv w wr S3 g (D.lose 1) ∧ Lv w wr T gk D ∧ Below w.heap.size w wr) (fun i _ => 20 - (intOf i).toNat)
      case atStart => exact ⟨0, by omega, rfl, hd3, t3, b3⟩
      case round =>
        obtain ⟨k, hk, rfl, hdk, htk, hbk⟩ := hrel
        by_cases hlt : k < 20
        · obtain ⟨e1, e2, e3, e4⟩ := (HRD k hlt).out
          have E1 := Lib.hid e1
          have E3 := Lib.hid e3
          have E4 := Lib.hid e4
          clear e1 e2 e3 e4
          go_wp2_with fail
          refine (readL S3 g (D.lose 1) ⟨1, k⟩ E1.out HN3.out w _ hdk).mono ?_
          rintro e w5 ⟨rfl, k5⟩
          have b5 := hbk.trans (k5.mono hbk.size)
          have hd5 := hdk.below k5
          have ht5 := htk.below k5
          go_wp2_with fail
          refine (readL S3 g (D.lose 1) ⟨0, k⟩ E3.out HN3.out w w5 hd5).mono ?_
          rintro e w6 ⟨rfl, k6⟩
          have b6 := b5.trans (k6.mono b5.size)
          have hd6 := hd5.below k6
          have ht6 := ht5.below k6
          go_wp2_with fail
          refine (readL T gk D ⟨0, k⟩ E4.out HN.out w w6 ht6).mono ?_
          rintro e w7 ⟨rfl, k7⟩
          have b7 := b6.trans (k7.mono b6.size)
          have hd7 := hd6.below k7
          have ht7 := ht6.below k7
          go_wp2
          go_round
          case rel => exact ⟨k + 1, by omega, by go_num, hd7, ht7, b7⟩
          case measure => simp [intOf]; omega
        · obtain rfl : k = 20 := by omega
          have hm := (HRD 0 (by decide)).out.2.1
          have HM := Lib.hid hm
          clear hm
          go_wp2_with fail
          refine (writeL (e0 := 5) S3 g (D.lose 1) ⟨1, 0⟩ [] HM.out HN3.out w _ hbk hdk).mono ?_
          rintro e w5 ⟨rfl, S5, hd5, hS5, k5, b5⟩
          have e5 : (D.lose 1).write ⟨1, 0⟩ [] = D.lose 1 := by
            unfold Dv.write
            rw [if_neg (by rw [show mayE (D.lose 1) ⟨1, 0⟩ [] = 5 from HM.out]; decide)]
          rw [e5] at hd5
          clear e5
          go_wp2_with fail
          refine (spoilL (e0 := 5) S5 g (D.lose 1) ⟨1, 0⟩ [] HM.out HN3.out w w5 b5 hd5).mono ?_
          rintro e w6 ⟨rfl, S6, hd6, hS6, k6, b6⟩
          go_wp2_with fail
          refine (live_ok w6).mono ?_
          rintro e w7 ⟨rfl, k7⟩
          go_wp2
          go_ret
          exact ⟨rfl, b6.trans (k7.mono b6.size)⟩

set_option maxRecDepth 100000 in
set_option maxHeartbeats 4000000 in
theorem devLost_walk (w : World) (v0 : Value) (a0 : List D_permafrostlaw03_Op) (h0 : SlAt w.heap.size w (R_permafrostlaw03_Op w.heap.size w) 5 [v0] a0) (a1 : Int) (h1 : (Lit.int .i64 a1).wf = true) :
    Calls Try.prog 5 #[v0, .int .i64 a1] w fun e w' => e = .returned (.bool true) ∧ Below w.heap.size w w' := by
  obtain ⟨A, c, rfl⟩ := ops_form h0
  by_cases t0 : a0.length ≤ 30
  · have q0 : decide (30 < (a0.length : Int)) = false := decide_eq_false (by omega)
    by_cases t1 : a1 = 0
    · subst t1; exact devLost_main0 w A c a0 h0 t0
    · by_cases t2 : a1 = 1
      · subst t2; exact devLost_main1 w A c a0 h0 t0
      · by_cases t3 : a1 < 0
        · have q1 : decide (a1 < 0) = true := decide_eq_true t3
          clear t1 t2 h1
          go_enter Try.func5, Try.ntmps5
          go_wp2_with fail
          refine (live_ok w).mono ?_
          rintro e w4 ⟨rfl, k4⟩
          go_wp2
          go_ret
          exact ⟨rfl, k4⟩
        · have q1 : decide (a1 < 0) = false := decide_eq_false t3
          have q2 : decide (1 < a1) = true := decide_eq_true (by omega)
          clear t1 t2 h1
          go_enter Try.func5, Try.ntmps5
          go_wp2_with fail
          refine (live_ok w).mono ?_
          rintro e w4 ⟨rfl, k4⟩
          go_wp2
          go_ret
          exact ⟨rfl, k4⟩
  · have q0 : decide (30 < (a0.length : Int)) = true := decide_eq_true (by omega)
    clear h1
    go_enter Try.func5, Try.ntmps5
    go_wp2_with fail
    refine (live_ok w).mono ?_
    rintro e w4 ⟨rfl, k4⟩
    go_wp2
    go_ret
    exact ⟨rfl, k4⟩

end Go.Proofs.Ytmlakbdigbpmaaa
