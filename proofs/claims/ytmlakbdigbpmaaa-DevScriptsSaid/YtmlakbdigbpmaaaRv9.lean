/- does: a call on devices and on the document's: what it leaves, and that both tell the same where both hold the same. -/
import Derived.Test.YtmlakbdigbpmaaaRv8
import Derived.Test.YtmlakbdigbpmaaaLaws03e
namespace Go.Proofs.Ytmlakbdigbpmaaa
open Go.RowKit
set_option linter.unusedSimpArgs false
set_option linter.unnecessarySimpa false
set_option linter.unusedVariables false

/-- devices behind a call of a script -/
def Dv.op (d : Dv) (o : D_permafrostlaw03_Op) : Dv :=
  if o.do_ = 0 then d.write (toLc o.l) o.s else if o.do_ = 1 then d else if o.do_ = 2 then d.flush else if o.do_ = 3 then d.crash o.keep else if o.do_ = 4 then d.spoilAt (toLc o.l) o.s else if o.do_ = 5 then d.lose o.l.dev else d
theorem Dv.op_len (d : Dv) (o : D_permafrostlaw03_Op) : (d.op o).ws.length ≤ d.ws.length + 1 := by
  unfold Dv.op
  split
  · unfold Dv.write; split <;> simp
  split
  · omega
  split
  · simp [Dv.flush]
  split
  · simp [Dv.crash]
  split
  · unfold Dv.spoilAt
    split
    · unfold Dv.spoil
      rw [Dv.put_ws]
      exact Nat.le_succ_of_le (List.length_filter_le _ _)
    · omega
  split
  · unfold Dv.lose
    split
    · exact Nat.le_succ_of_le (List.length_filter_le _ _)
    · split
      · exact Nat.le_succ_of_le (List.length_filter_le _ _)
      · omega
  · omega
/-- two devices, one of each kind, behind a call -/
def DoPost (w wi : World) (S T : Nat → Prop) (g h : Nat) (dd dk : Dv) (wj : World) : Prop :=
  ∃ S' T', Lv w wj S' g dd ∧ Rl w wj T' h dk ∧ (∀ k, S' k → ¬ T' k) ∧ (∀ k, S' k → S k ∨ wi.heap.size ≤ k) ∧ (∀ k, T' k → T k ∨ wi.heap.size ≤ k) ∧ Keep wi.heap.size (fun k => S k ∨ T k) wi wj ∧ Below w.heap.size w wj
theorem do_join {w wi v0 v1 v2 : World} {S T : Nat → Prop} {g h : Nat} {d0 d1 k0 k1 : Dv} (bx : Below wi.heap.size wi v0) (hS : Lv w v0 S g d0) (hT : Rl w v0 T h k0) (ap : ∀ k, S k → ¬ T k) (p1 : LvPost w v0 S g d1 v1) (p2 : RlPost w v1 T h k1 v2) : DoPost w wi S T g h d1 k1 v2 := by
  obtain ⟨S', a1, a2, a3, a4⟩ := p1
  obtain ⟨T', b1, b2, b3, b4⟩ := p2
  have hx := bx.size
  have h3 := a3.size
  refine ⟨S', T', a1.keep b3 (fun k e e2 => ?_), b1, fun k e e2 => ?_, fun k e => ?_, fun k e => ?_, ?_, b4⟩
  · rcases a2 k e with e | e
    · exact ap k e e2
    · have := hT.lt k e2; omega
  · have q := a1.o.lt k e
    rcases b2 k e2 with e2 | e2
    · rcases a2 k e with e | e
      · exact ap k e e2
      · have := hT.lt k e2; omega
    · omega
  · rcases a2 k e with e | e
    · exact .inl e
    · right; omega
  · rcases b2 k e with e | e
    · exact .inl e
    · right; omega
  · exact ((Keep.of_below bx).trans (a3.mono hx (fun _ _ e => .inl e))).trans (b3.mono (Nat.le_trans hx h3) (fun _ _ e => .inr e))
theorem do_same {w wi wj : World} {S T : Nat → Prop} {g h : Nat} {d k : Dv} (bx : Below wi.heap.size wi wj) (bw : Below w.heap.size w wi) (hS : Lv w wi S g d) (hT : Rl w wi T h k) (ap : ∀ k, S k → ¬ T k) : DoPost w wi S T g h d k wj :=
  ⟨S, T, hS.below bx, hT.below bx, ap, fun _ e => .inl e, fun _ e => .inl e, Keep.of_below bx, bw.trans (bx.mono bw.size)⟩
theorem boolsAt_keep {S T : Nat → Prop} {w wr : World} {A : Option Addr} {kl : List Bool} {n : Nat} (h : BoolsAt (fun k => k < n) w A kl) (hb : ∀ a : Addr, a.block < n → wr.cell? a = w.cell? a) (hs : w.heap.size ≤ wr.heap.size) (hS : ∀ j, S j → n ≤ j) : BoolsAt (fun k => ¬ S k) wr A kl := by
  intro i hi
  obtain ⟨ad, e1, e2, e3, e4⟩ := h i hi
  refine ⟨ad, e1, Nat.lt_of_lt_of_le e2 hs, fun e => absurd (hS _ e) (by omega), ?_⟩
  rw [hb _ (by unfold Addr.add; split <;> exact e3)]
  exact e4

set_option maxRecDepth 100000 in
set_option maxHeartbeats 8000000 in
theorem does0 (w wi : World) (S T : Nat → Prop) (g h : Nat) (dd dk : Dv) (o : D_permafrostlaw03_Op) (A4 : Option Addr) (n4 c4 : Nat) (h4 : SlAt w.heap.size w IsBool 1 [.slice A4 n4 c4] o.keep) (hdo : o.do_ = 0) (hm1 : dd.ws.length ≤ 1000) (hm2 : dk.ws.length ≤ 1000) (bw : Below w.heap.size w wi) (hS : Lv w wi S g dd) (hT : Rl w wi T h dk) (ap : Hid (∀ k, S k → ¬ T k)) :
    Calls Try.prog 12 #[.pointer (some ⟨g, 0, none⟩), .pointer (some ⟨h, 0, none⟩), .agg #[.int .i64 o.do_, .int .i64 o.l.dev, .int .i64 o.l.at_, .string (bstr o.s), .slice A4 n4 c4]] wi fun e wj => (∃ b, e = .returned (.bool b) ∧ (dd = dk → b = true)) ∧ DoPost w wi S T g h (dd.op o) (dk.op o) wj := by
  have hn1 : dd.ws.length ≤ 100000 := Nat.le_trans hm1 (by decide)
  have hn2 : dk.ws.length ≤ 100000 := Nat.le_trans hm2 (by decide)
  have hop : ∀ d : Dv, d.op o = d.write (toLc o.l) o.s := fun d => by unfold Dv.op; rw [if_pos hdo]
  rw [hop, hop]
  clear hop
  obtain ⟨od, ol, os, ok⟩ := o
  obtain ⟨ldev, lat⟩ := ol
  simp only at h4 hdo ⊢
  subst hdo
  go_enter Try.func12, Try.ntmps12
  go_wp2_with fail
  obtain ⟨G, hG⟩ : ∃ g, wi.heap.size = g := ⟨_, rfl⟩
  obtain ⟨v0, hv0⟩ : ∃ x, wi.alloc (.cells #[.int .i64 0, .int .i64 ldev, .int .i64 lat, .string (bstr os), .slice A4 n4 c4] 32) = x := ⟨_, rfl⟩
  have bx : Below wi.heap.size wi v0 := by rw [← hv0]; exact (Below.refl _ _).alloc (Nat.le_refl _) _
  have hx : Blk v0 G 32 #[.int .i64 0, .int .i64 ldev, .int .i64 lat, .string (bstr os), .slice A4 n4 c4] := by rw [← hv0, ← hG]; exact Blk.new _ _ _
  rw [hv0]
  try rw [hG]
  have bw0 := bw.trans (bx.mono bw.size)
  have hS0 := hS.below bx
  have hT0 := hT.below bx
  have hGS : ¬ S G := fun e => by have := hS.o.lt G e; omega
  have hGT : ¬ T G := fun e => by have := hT.lt G e; omega
  clear hv0 hG
  have x1 := hx.cell 1
  have x2 := hx.cell 2
  have x3 := hx.cell 3
  have x4 := hx.cell 4
  simp at x1 x2 x3 x4
  have P0 : DvPost v0.drew S g dd v0.drew ∨ True := .inr trivial
  have hS1 := hS0.below (wj := v0.drew) (Below.refl _ _).drew
  have hT1 := hT0.below (wj := v0.drew) (Below.refl _ _).drew
  have bw1 := bw0.drew
  have bx1 : Below wi.heap.size wi v0.drew := bx.drew
  have hxd := hx.drew
  
  go_wp2_with fail
  go_region_held3 (fun w' => w'.cell? ⟨G, 1, none⟩ = some (.int .i64 ldev) ∧ w'.cell? ⟨G, 2, none⟩ = some (.int .i64 lat) ∧ w'.cell? ⟨G, 3, none⟩ = some (.string (bstr os)))
    (first | exact ⟨z1, z2, z3⟩ | exact ⟨y1, y2, y3⟩ | exact ⟨x1, x2, x3⟩ | go_keep)
    (first
    | (go_at_call 26; refine (rwriteL T h dk ⟨ldev, lat⟩ os rfl hn2 w v1 b1 hT2).mono ?_; rintro e v2 ⟨rfl, p2⟩; have hx2 := hx1.keep p2.choose_spec.2.2.1 hx1.lt hGT; have z1 := hx2.cell 1; have z2 := hx2.cell 2; have z3 := hx2.cell 3; simp at z1 z2 z3)
    | (go_at_call 20; refine (writeL S g dd ⟨ldev, lat⟩ os rfl hn1 w v0.drew bw1 hS1).mono ?_; rintro e v1 ⟨rfl, p1⟩; obtain ⟨S', hd1, hS2, k1, b1⟩ := id p1; have hT2 := hT1.keep k1 (fun k e e2 => ap.out k e2 e); have hx1 := hxd.keep k1 hxd.lt hGS; have y1 := hx1.cell 1; have y2 := hx1.cell 2; have y3 := hx1.cell 3; simp at y1 y2 y3))
  go_wp2
  go_ret
  refine ⟨⟨_, rfl, ?_⟩, do_join bx1 hS1 hT1 ap.out p1 p2⟩
  rintro rfl; simp

set_option maxRecDepth 100000 in
set_option maxHeartbeats 8000000 in
theorem does4 (w wi : World) (S T : Nat → Prop) (g h : Nat) (dd dk : Dv) (o : D_permafrostlaw03_Op) (A4 : Option Addr) (n4 c4 : Nat) (h4 : SlAt w.heap.size w IsBool 1 [.slice A4 n4 c4] o.keep) (hdo : o.do_ = 4) (hm1 : dd.ws.length ≤ 1000) (hm2 : dk.ws.length ≤ 1000) (bw : Below w.heap.size w wi) (hS : Lv w wi S g dd) (hT : Rl w wi T h dk) (ap : Hid (∀ k, S k → ¬ T k)) :
    Calls Try.prog 12 #[.pointer (some ⟨g, 0, none⟩), .pointer (some ⟨h, 0, none⟩), .agg #[.int .i64 o.do_, .int .i64 o.l.dev, .int .i64 o.l.at_, .string (bstr o.s), .slice A4 n4 c4]] wi fun e wj => (∃ b, e = .returned (.bool b) ∧ (dd = dk → b = true)) ∧ DoPost w wi S T g h (dd.op o) (dk.op o) wj := by
  have hn1 : dd.ws.length ≤ 100000 := Nat.le_trans hm1 (by decide)
  have hn2 : dk.ws.length ≤ 100000 := Nat.le_trans hm2 (by decide)
  have hop : ∀ d : Dv, d.op o = d.spoilAt (toLc o.l) o.s := fun d => by unfold Dv.op; rw [if_neg (by rw [hdo]; decide)]; rw [if_neg (by rw [hdo]; decide)]; rw [if_neg (by rw [hdo]; decide)]; rw [if_neg (by rw [hdo]; decide)]; rw [if_pos hdo]
  rw [hop, hop]
  clear hop
  obtain ⟨od, ol, os, ok⟩ := o
  obtain ⟨ldev, lat⟩ := ol
  simp only at h4 hdo ⊢
  subst hdo
  go_enter Try.func12, Try.ntmps12
  go_wp2_with fail
  obtain ⟨G, hG⟩ : ∃ g, wi.heap.size = g := ⟨_, rfl⟩
  obtain ⟨v0, hv0⟩ : ∃ x, wi.alloc (.cells #[.int .i64 4, .int .i64 ldev, .int .i64 lat, .string (bstr os), .slice A4 n4 c4] 32) = x := ⟨_, rfl⟩
  have bx : Below wi.heap.size wi v0 := by rw [← hv0]; exact (Below.refl _ _).alloc (Nat.le_refl _) _
  have hx : Blk v0 G 32 #[.int .i64 4, .int .i64 ldev, .int .i64 lat, .string (bstr os), .slice A4 n4 c4] := by rw [← hv0, ← hG]; exact Blk.new _ _ _
  rw [hv0]
  try rw [hG]
  have bw0 := bw.trans (bx.mono bw.size)
  have hS0 := hS.below bx
  have hT0 := hT.below bx
  have hGS : ¬ S G := fun e => by have := hS.o.lt G e; omega
  have hGT : ¬ T G := fun e => by have := hT.lt G e; omega
  clear hv0 hG
  have x1 := hx.cell 1
  have x2 := hx.cell 2
  have x3 := hx.cell 3
  have x4 := hx.cell 4
  simp at x1 x2 x3 x4
  have P0 : DvPost v0.drew S g dd v0.drew ∨ True := .inr trivial
  have hS1 := hS0.below (wj := v0.drew) (Below.refl _ _).drew
  have hT1 := hT0.below (wj := v0.drew) (Below.refl _ _).drew
  have bw1 := bw0.drew
  have bx1 : Below wi.heap.size wi v0.drew := bx.drew
  have hxd := hx.drew
  
  go_wp2_with fail
  go_region_held3 (fun w' => w'.cell? ⟨G, 1, none⟩ = some (.int .i64 ldev) ∧ w'.cell? ⟨G, 2, none⟩ = some (.int .i64 lat) ∧ w'.cell? ⟨G, 3, none⟩ = some (.string (bstr os)))
    (first | exact ⟨z1, z2, z3⟩ | exact ⟨y1, y2, y3⟩ | exact ⟨x1, x2, x3⟩ | go_keep)
    (first
    | (go_at_call 29; refine (rspoilL T h dk ⟨ldev, lat⟩ os rfl hn2 w v1 b1 hT2).mono ?_; rintro e v2 ⟨rfl, p2⟩; have hx2 := hx1.keep p2.choose_spec.2.2.1 hx1.lt hGT; have z1 := hx2.cell 1; have z2 := hx2.cell 2; have z3 := hx2.cell 3; simp at z1 z2 z3)
    | (go_at_call 25; refine (spoilL S g dd ⟨ldev, lat⟩ os rfl hn1 w v0.drew bw1 hS1).mono ?_; rintro e v1 ⟨rfl, p1⟩; obtain ⟨S', hd1, hS2, k1, b1⟩ := id p1; have hT2 := hT1.keep k1 (fun k e e2 => ap.out k e2 e); have hx1 := hxd.keep k1 hxd.lt hGS; have y1 := hx1.cell 1; have y2 := hx1.cell 2; have y3 := hx1.cell 3; simp at y1 y2 y3))
  go_wp2
  go_ret
  refine ⟨⟨_, rfl, ?_⟩, do_join bx1 hS1 hT1 ap.out p1 p2⟩
  rintro rfl; simp

set_option maxRecDepth 100000 in
set_option maxHeartbeats 8000000 in
theorem does5 (w wi : World) (S T : Nat → Prop) (g h : Nat) (dd dk : Dv) (o : D_permafrostlaw03_Op) (A4 : Option Addr) (n4 c4 : Nat) (h4 : SlAt w.heap.size w IsBool 1 [.slice A4 n4 c4] o.keep) (hdo : o.do_ = 5) (hm1 : dd.ws.length ≤ 1000) (hm2 : dk.ws.length ≤ 1000) (bw : Below w.heap.size w wi) (hS : Lv w wi S g dd) (hT : Rl w wi T h dk) (ap : Hid (∀ k, S k → ¬ T k)) :
    Calls Try.prog 12 #[.pointer (some ⟨g, 0, none⟩), .pointer (some ⟨h, 0, none⟩), .agg #[.int .i64 o.do_, .int .i64 o.l.dev, .int .i64 o.l.at_, .string (bstr o.s), .slice A4 n4 c4]] wi fun e wj => (∃ b, e = .returned (.bool b) ∧ (dd = dk → b = true)) ∧ DoPost w wi S T g h (dd.op o) (dk.op o) wj := by
  have hn1 : dd.ws.length ≤ 100000 := Nat.le_trans hm1 (by decide)
  have hn2 : dk.ws.length ≤ 100000 := Nat.le_trans hm2 (by decide)
  have hop : ∀ d : Dv, d.op o = d.lose o.l.dev := fun d => by unfold Dv.op; rw [if_neg (by rw [hdo]; decide)]; rw [if_neg (by rw [hdo]; decide)]; rw [if_neg (by rw [hdo]; decide)]; rw [if_neg (by rw [hdo]; decide)]; rw [if_neg (by rw [hdo]; decide)]; rw [if_pos hdo]
  rw [hop, hop]
  clear hop
  obtain ⟨od, ol, os, ok⟩ := o
  obtain ⟨ldev, lat⟩ := ol
  simp only at h4 hdo ⊢
  subst hdo
  go_enter Try.func12, Try.ntmps12
  go_wp2_with fail
  obtain ⟨G, hG⟩ : ∃ g, wi.heap.size = g := ⟨_, rfl⟩
  obtain ⟨v0, hv0⟩ : ∃ x, wi.alloc (.cells #[.int .i64 5, .int .i64 ldev, .int .i64 lat, .string (bstr os), .slice A4 n4 c4] 32) = x := ⟨_, rfl⟩
  have bx : Below wi.heap.size wi v0 := by rw [← hv0]; exact (Below.refl _ _).alloc (Nat.le_refl _) _
  have hx : Blk v0 G 32 #[.int .i64 5, .int .i64 ldev, .int .i64 lat, .string (bstr os), .slice A4 n4 c4] := by rw [← hv0, ← hG]; exact Blk.new _ _ _
  rw [hv0]
  try rw [hG]
  have bw0 := bw.trans (bx.mono bw.size)
  have hS0 := hS.below bx
  have hT0 := hT.below bx
  have hGS : ¬ S G := fun e => by have := hS.o.lt G e; omega
  have hGT : ¬ T G := fun e => by have := hT.lt G e; omega
  clear hv0 hG
  have x1 := hx.cell 1
  have x2 := hx.cell 2
  have x3 := hx.cell 3
  have x4 := hx.cell 4
  simp at x1 x2 x3 x4
  have P0 : DvPost v0.drew S g dd v0.drew ∨ True := .inr trivial
  have hS1 := hS0.below (wj := v0.drew) (Below.refl _ _).drew
  have hT1 := hT0.below (wj := v0.drew) (Below.refl _ _).drew
  have bw1 := bw0.drew
  have bx1 : Below wi.heap.size wi v0.drew := bx.drew
  have hxd := hx.drew
  obtain ⟨e5, he5⟩ : ∃ e0, (if isB ldev then (0 : Int) else 1) = e0 := ⟨_, rfl⟩
  have HE5 := Lib.hid he5
  clear he5
  go_wp2_with fail
  go_region_held3 (fun w' => w'.cell? ⟨G, 1, none⟩ = some (.int .i64 ldev))
    (first | exact z1 | exact y1 | exact x1 | go_keep)
    (first
    | (go_at_call 30; refine (rloseL T h dk ldev HE5.out hn2 w v1 b1 hT2).mono ?_; rintro e v2 ⟨rfl, p2⟩; have hx2 := hx1.keep p2.choose_spec.2.2.1 hx1.lt hGT; have z1 := hx2.cell 1; simp at z1)
    | (go_at_call 24; refine (loseL S g dd ldev HE5.out hn1 w v0.drew bw1 hS1).mono ?_; rintro e v1 ⟨rfl, p1⟩; obtain ⟨S', hd1, hS2, k1, b1⟩ := id p1; have hT2 := hT1.keep k1 (fun k e e2 => ap.out k e2 e); have hx1 := hxd.keep k1 hxd.lt hGS; have y1 := hx1.cell 1; simp at y1))
  go_wp2
  go_ret
  refine ⟨⟨_, rfl, ?_⟩, do_join bx1 hS1 hT1 ap.out p1 p2⟩
  intro _; simp

set_option maxRecDepth 100000 in
set_option maxHeartbeats 8000000 in
theorem does2 (w wi : World) (S T : Nat → Prop) (g h : Nat) (dd dk : Dv) (o : D_permafrostlaw03_Op) (A4 : Option Addr) (n4 c4 : Nat) (h4 : SlAt w.heap.size w IsBool 1 [.slice A4 n4 c4] o.keep) (hdo : o.do_ = 2) (hm1 : dd.ws.length ≤ 1000) (hm2 : dk.ws.length ≤ 1000) (bw : Below w.heap.size w wi) (hS : Lv w wi S g dd) (hT : Rl w wi T h dk) (ap : Hid (∀ k, S k → ¬ T k)) :
    Calls Try.prog 12 #[.pointer (some ⟨g, 0, none⟩), .pointer (some ⟨h, 0, none⟩), .agg #[.int .i64 o.do_, .int .i64 o.l.dev, .int .i64 o.l.at_, .string (bstr o.s), .slice A4 n4 c4]] wi fun e wj => (∃ b, e = .returned (.bool b) ∧ (dd = dk → b = true)) ∧ DoPost w wi S T g h (dd.op o) (dk.op o) wj := by
  have hn1 : dd.ws.length ≤ 100000 := Nat.le_trans hm1 (by decide)
  have hn2 : dk.ws.length ≤ 100000 := Nat.le_trans hm2 (by decide)
  have hop : ∀ d : Dv, d.op o = d.flush := fun d => by unfold Dv.op; rw [if_neg (by rw [hdo]; decide)]; rw [if_neg (by rw [hdo]; decide)]; rw [if_pos hdo]
  rw [hop, hop]
  clear hop
  obtain ⟨od, ol, os, ok⟩ := o
  obtain ⟨ldev, lat⟩ := ol
  simp only at h4 hdo ⊢
  subst hdo
  go_enter Try.func12, Try.ntmps12
  go_wp2_with fail
  obtain ⟨G, hG⟩ : ∃ g, wi.heap.size = g := ⟨_, rfl⟩
  obtain ⟨v0, hv0⟩ : ∃ x, wi.alloc (.cells #[.int .i64 2, .int .i64 ldev, .int .i64 lat, .string (bstr os), .slice A4 n4 c4] 32) = x := ⟨_, rfl⟩
  have bx : Below wi.heap.size wi v0 := by rw [← hv0]; exact (Below.refl _ _).alloc (Nat.le_refl _) _
  have hx : Blk v0 G 32 #[.int .i64 2, .int .i64 ldev, .int .i64 lat, .string (bstr os), .slice A4 n4 c4] := by rw [← hv0, ← hG]; exact Blk.new _ _ _
  rw [hv0]
  try rw [hG]
  have bw0 := bw.trans (bx.mono bw.size)
  have hS0 := hS.below bx
  have hT0 := hT.below bx
  have hGS : ¬ S G := fun e => by have := hS.o.lt G e; omega
  have hGT : ¬ T G := fun e => by have := hT.lt G e; omega
  clear hv0 hG
  have x1 := hx.cell 1
  have x2 := hx.cell 2
  have x3 := hx.cell 3
  have x4 := hx.cell 4
  simp at x1 x2 x3 x4
  clear x1 x2 x3 x4
  go_wp2_with fail
  refine (flushL S g dd hn1 w v0 bw0 hS0).mono ?_
  rintro e v1 ⟨rfl, p1⟩
  obtain ⟨S', hd1, hS2, k1, b1⟩ := id p1
  have hT2 := hT0.keep k1 (fun k e e2 => ap.out k e2 e)
  go_wp2_with fail
  refine (rflushL T h dk hn2 w v1 b1 hT2).mono ?_
  rintro e v2 ⟨rfl, p2⟩
  go_wp2
  go_ret
  exact ⟨⟨_, rfl, fun _ => rfl⟩, do_join bx hS0 hT0 ap.out p1 p2⟩

set_option maxRecDepth 100000 in
set_option maxHeartbeats 8000000 in
theorem does1 (w wi : World) (S T : Nat → Prop) (g h : Nat) (dd dk : Dv) (o : D_permafrostlaw03_Op) (A4 : Option Addr) (n4 c4 : Nat) (h4 : SlAt w.heap.size w IsBool 1 [.slice A4 n4 c4] o.keep) (hdo : o.do_ = 1) (hm1 : dd.ws.length ≤ 1000) (hm2 : dk.ws.length ≤ 1000) (bw : Below w.heap.size w wi) (hS : Lv w wi S g dd) (hT : Rl w wi T h dk) (ap : Hid (∀ k, S k → ¬ T k)) :
    Calls Try.prog 12 #[.pointer (some ⟨g, 0, none⟩), .pointer (some ⟨h, 0, none⟩), .agg #[.int .i64 o.do_, .int .i64 o.l.dev, .int .i64 o.l.at_, .string (bstr o.s), .slice A4 n4 c4]] wi fun e wj => (∃ b, e = .returned (.bool b) ∧ (dd = dk → b = true)) ∧ DoPost w wi S T g h (dd.op o) (dk.op o) wj := by
  have hn1 : dd.ws.length ≤ 100000 := Nat.le_trans hm1 (by decide)
  have hn2 : dk.ws.length ≤ 100000 := Nat.le_trans hm2 (by decide)
  have hop : ∀ d : Dv, d.op o = d := fun d => by unfold Dv.op; rw [if_neg (by rw [hdo]; decide)]; rw [if_pos hdo]
  rw [hop, hop]
  clear hop
  obtain ⟨od, ol, os, ok⟩ := o
  obtain ⟨ldev, lat⟩ := ol
  simp only at h4 hdo ⊢
  subst hdo
  go_enter Try.func12, Try.ntmps12
  go_wp2_with fail
  obtain ⟨G, hG⟩ : ∃ g, wi.heap.size = g := ⟨_, rfl⟩
  obtain ⟨v0, hv0⟩ : ∃ x, wi.alloc (.cells #[.int .i64 1, .int .i64 ldev, .int .i64 lat, .string (bstr os), .slice A4 n4 c4] 32) = x := ⟨_, rfl⟩
  have bx : Below wi.heap.size wi v0 := by rw [← hv0]; exact (Below.refl _ _).alloc (Nat.le_refl _) _
  have hx : Blk v0 G 32 #[.int .i64 1, .int .i64 ldev, .int .i64 lat, .string (bstr os), .slice A4 n4 c4] := by rw [← hv0, ← hG]; exact Blk.new _ _ _
  rw [hv0]
  try rw [hG]
  have bw0 := bw.trans (bx.mono bw.size)
  have hS0 := hS.below bx
  have hT0 := hT.below bx
  have hGS : ¬ S G := fun e => by have := hS.o.lt G e; omega
  have hGT : ¬ T G := fun e => by have := hT.lt G e; omega
  clear hv0 hG
  have x1 := hx.cell 1
  have x2 := hx.cell 2
  have x3 := hx.cell 3
  have x4 := hx.cell 4
  simp at x1 x2 x3 x4
  go_wp2_with fail
  obtain ⟨r1, hr1⟩ : ∃ r, dd.read ⟨ldev, lat⟩ = r := ⟨_, rfl⟩
  obtain ⟨r1, n1⟩ := r1
  obtain ⟨r2, hr2⟩ : ∃ r, dk.read ⟨ldev, lat⟩ = r := ⟨_, rfl⟩
  obtain ⟨r2, n2⟩ := r2
  have HR1 := Lib.hid hr1
  have HR2 := Lib.hid hr2
  clear hr1 hr2
  refine (readL S g dd ⟨ldev, lat⟩ HR1.out hn1 w v0 hS0).mono ?_
  rintro e v1 ⟨rfl, k1⟩
  have hx1 := hx.below k1 hx.lt
  have y1 := hx1.cell 1
  have y2 := hx1.cell 2
  simp at y1 y2
  have hS1 := hS0.below k1
  have hT1 := hT0.below k1
  go_wp2_with fail
  refine (rreadL T h dk ⟨ldev, lat⟩ HR2.out hn2 w v1 hT1).mono ?_
  rintro e v2 ⟨rfl, k2⟩
  by_cases hq : dd = dk
  · have hq2 : r1 = r2 ∧ n1 = n2 := by
      have h1 := HR1.out
      have h2 := HR2.out
      rw [hq, h2] at h1
      simpa [eq_comm] using h1
    obtain ⟨rfl, rfl⟩ := hq2
    have HQ := Lib.hid hq
    clear hq
    go_wp2
    go_ret
    exact ⟨⟨_, rfl, fun _ => rfl⟩, do_same (bx.trans ((k1.trans (k2.mono k1.size)).mono bx.size)) bw hS hT ap.out⟩
  · have HQ := Lib.hid hq
    clear hq
    cases t1 : (r1 == r2)
    · go_wp2
      go_ret
      exact ⟨⟨_, rfl, fun e => absurd e HQ.out⟩, do_same (bx.trans ((k1.trans (k2.mono k1.size)).mono bx.size)) bw hS hT ap.out⟩
    · go_wp2
      go_ret
      exact ⟨⟨_, rfl, fun e => absurd e HQ.out⟩, do_same (bx.trans ((k1.trans (k2.mono k1.size)).mono bx.size)) bw hS hT ap.out⟩

set_option maxRecDepth 100000 in
set_option maxHeartbeats 8000000 in
theorem does3 (w wi : World) (S T : Nat → Prop) (g h : Nat) (dd dk : Dv) (o : D_permafrostlaw03_Op) (A4 : Option Addr) (n4 c4 : Nat) (h4 : SlAt w.heap.size w IsBool 1 [.slice A4 n4 c4] o.keep) (hdo : o.do_ = 3) (hm1 : dd.ws.length ≤ 1000) (hm2 : dk.ws.length ≤ 1000) (bw : Below w.heap.size w wi) (hS : Lv w wi S g dd) (hT : Rl w wi T h dk) (ap : Hid (∀ k, S k → ¬ T k)) :
    Calls Try.prog 12 #[.pointer (some ⟨g, 0, none⟩), .pointer (some ⟨h, 0, none⟩), .agg #[.int .i64 o.do_, .int .i64 o.l.dev, .int .i64 o.l.at_, .string (bstr o.s), .slice A4 n4 c4]] wi fun e wj => (∃ b, e = .returned (.bool b) ∧ (dd = dk → b = true)) ∧ DoPost w wi S T g h (dd.op o) (dk.op o) wj := by
  have hn1 : dd.ws.length ≤ 100000 := Nat.le_trans hm1 (by decide)
  have hn2 : dk.ws.length ≤ 100000 := Nat.le_trans hm2 (by decide)
  have hop : ∀ d : Dv, d.op o = d.crash o.keep := fun d => by unfold Dv.op; rw [if_neg (by rw [hdo]; decide)]; rw [if_neg (by rw [hdo]; decide)]; rw [if_neg (by rw [hdo]; decide)]; rw [if_pos hdo]
  rw [hop, hop]
  clear hop
  obtain ⟨od, ol, os, ok⟩ := o
  obtain ⟨ldev, lat⟩ := ol
  simp only at h4 hdo ⊢
  subst hdo
  go_enter Try.func12, Try.ntmps12
  go_wp2_with fail
  obtain ⟨G, hG⟩ : ∃ g, wi.heap.size = g := ⟨_, rfl⟩
  obtain ⟨v0, hv0⟩ : ∃ x, wi.alloc (.cells #[.int .i64 3, .int .i64 ldev, .int .i64 lat, .string (bstr os), .slice A4 n4 c4] 32) = x := ⟨_, rfl⟩
  have bx : Below wi.heap.size wi v0 := by rw [← hv0]; exact (Below.refl _ _).alloc (Nat.le_refl _) _
  have hx : Blk v0 G 32 #[.int .i64 3, .int .i64 ldev, .int .i64 lat, .string (bstr os), .slice A4 n4 c4] := by rw [← hv0, ← hG]; exact Blk.new _ _ _
  rw [hv0]
  try rw [hG]
  have bw0 := bw.trans (bx.mono bw.size)
  have hS0 := hS.below bx
  have hT0 := hT.below bx
  have hGS : ¬ S G := fun e => by have := hS.o.lt G e; omega
  have hGT : ¬ T G := fun e => by have := hT.lt G e; omega
  clear hv0 hG
  have x1 := hx.cell 1
  have x2 := hx.cell 2
  have x3 := hx.cell 3
  have x4 := hx.cell 4
  simp at x1 x2 x3 x4
  clear x1 x2 x3
  have hS1 := hS0.below (wj := v0.drew) (Below.refl _ _).drew
  have hT1 := hT0.below (wj := v0.drew) (Below.refl _ _).drew
  have bw1 := bw0.drew
  have bx1 : Below wi.heap.size wi v0.drew := bx.drew
  have hxd := hx.drew
  obtain ⟨hk1, hl1⟩ := bools_at (S := S) h4 bw1 hS.lo
  have H4 := Lib.hid h4
  have HL1 := Lib.hid hl1
  clear h4 hl1
  go_wp2_with fail
  go_region_held3 (fun w' => w'.cell? ⟨G, 4, none⟩ = some (.slice A4 n4 c4))
    (first | exact z4 | exact y4 | exact x4 | go_keep)
    (first
    | (go_at_call 28; refine (rcrashL T h dk A4 n4 c4 ok HL1.out hn2 w v1 (bools_at (S := T) H4.out b1 hT.lo).1 b1 hT2).mono ?_; rintro e v2 ⟨rfl, p2⟩; have hx2 := hx1.keep p2.choose_spec.2.2.1 hx1.lt hGT; have z4 := hx2.cell 4; simp at z4)
    | (go_at_call 23; refine (crashL S g dd A4 n4 c4 ok HL1.out hn1 w v0.drew hk1 bw1 hS1).mono ?_; rintro e v1 ⟨rfl, p1⟩; obtain ⟨S', hd1, hS2, k1, b1⟩ := id p1; have hT2 := hT1.keep k1 (fun k e e2 => ap.out k e2 e); have hx1 := hxd.keep k1 hxd.lt hGS; have y4 := hx1.cell 4; simp at y4))
  go_wp2
  go_ret
  exact ⟨⟨_, rfl, fun _ => rfl⟩, do_join bx1 hS1 hT1 ap.out p1 p2⟩

set_option maxRecDepth 100000 in
set_option maxHeartbeats 8000000 in
theorem does6 (w wi : World) (S T : Nat → Prop) (g h : Nat) (dd dk : Dv) (o : D_permafrostlaw03_Op) (A4 : Option Addr) (n4 c4 : Nat) (h4 : SlAt w.heap.size w IsBool 1 [.slice A4 n4 c4] o.keep) (hdo : ¬ o.do_ = 0 ∧ ¬ o.do_ = 1 ∧ ¬ o.do_ = 2 ∧ ¬ o.do_ = 3 ∧ ¬ o.do_ = 4 ∧ ¬ o.do_ = 5) (hm1 : dd.ws.length ≤ 1000) (hm2 : dk.ws.length ≤ 1000) (bw : Below w.heap.size w wi) (hS : Lv w wi S g dd) (hT : Rl w wi T h dk) (ap : Hid (∀ k, S k → ¬ T k)) :
    Calls Try.prog 12 #[.pointer (some ⟨g, 0, none⟩), .pointer (some ⟨h, 0, none⟩), .agg #[.int .i64 o.do_, .int .i64 o.l.dev, .int .i64 o.l.at_, .string (bstr o.s), .slice A4 n4 c4]] wi fun e wj => (∃ b, e = .returned (.bool b) ∧ (dd = dk → b = true)) ∧ DoPost w wi S T g h (dd.op o) (dk.op o) wj := by
  have hn1 : dd.ws.length ≤ 100000 := Nat.le_trans hm1 (by decide)
  have hn2 : dk.ws.length ≤ 100000 := Nat.le_trans hm2 (by decide)
  have hop : ∀ d : Dv, d.op o = d := fun d => by unfold Dv.op; obtain ⟨q0, q1, q2, q3, q4, q5⟩ := hdo; rw [if_neg q0, if_neg q1, if_neg q2, if_neg q3, if_neg q4, if_neg q5]
  rw [hop, hop]
  clear hop
  obtain ⟨od, ol, os, ok⟩ := o
  obtain ⟨ldev, lat⟩ := ol
  simp only at h4 hdo ⊢
  obtain ⟨t0, t1, t2, t3, t4, t5⟩ := hdo
  have e0 : (od == 0) = false := by simpa using t0
  have e1 : (od == 1) = false := by simpa using t1
  have e2 : (od == 2) = false := by simpa using t2
  have e3 : (od == 3) = false := by simpa using t3
  have e4 : (od == 4) = false := by simpa using t4
  have e5 : (od == 5) = false := by simpa using t5
  clear t0 t1 t2 t3 t4 t5
  go_enter Try.func12, Try.ntmps12
  go_wp2_with fail
  obtain ⟨G, hG⟩ : ∃ g, wi.heap.size = g := ⟨_, rfl⟩
  obtain ⟨v0, hv0⟩ : ∃ x, wi.alloc (.cells #[.int .i64 od, .int .i64 ldev, .int .i64 lat, .string (bstr os), .slice A4 n4 c4] 32) = x := ⟨_, rfl⟩
  have bx : Below wi.heap.size wi v0 := by rw [← hv0]; exact (Below.refl _ _).alloc (Nat.le_refl _) _
  have hx : Blk v0 G 32 #[.int .i64 od, .int .i64 ldev, .int .i64 lat, .string (bstr os), .slice A4 n4 c4] := by rw [← hv0, ← hG]; exact Blk.new _ _ _
  rw [hv0]
  try rw [hG]
  have bw0 := bw.trans (bx.mono bw.size)
  have hS0 := hS.below bx
  have hT0 := hT.below bx
  have hGS : ¬ S G := fun e => by have := hS.o.lt G e; omega
  have hGT : ¬ T G := fun e => by have := hT.lt G e; omega
  clear hv0 hG
  have x1 := hx.cell 1
  have x2 := hx.cell 2
  have x3 := hx.cell 3
  have x4 := hx.cell 4
  simp at x1 x2 x3 x4
  clear x1 x2 x3 x4
  have y0 := hx.cell 0
  simp at y0
  go_wp2_with fail
  refine (copyL S g dd hn1 w v0 bw0 hS0).mono ?_
  rintro e v1 ⟨gc, C, rfl, hc, hC0, k1⟩
  have b1 := bw0.trans (k1.mono bw0.size)
  have hx1 := hx.below k1 hx.lt
  have f1 := bx.trans (k1.mono bx.size)
  have hCl : ∀ k, C k → wi.heap.size ≤ k := fun k e => Nat.le_trans bx.size (hC0 k e)
  have y1 := hx1.cell 1
  have y2 := hx1.cell 2
  have y3 := hx1.cell 3
  simp at y1 y2 y3
  clear y0
  go_wp2_with fail
  refine (writeL C gc dd ⟨ldev, lat⟩ os rfl hn1 w v1 b1 hc).mono ?_
  rintro e v2 ⟨rfl, C2, hc2, hC2, k2, b2⟩
  have f2 := Keep.belowS f1 k2 hCl
  have hCl2 : ∀ k, C2 k → wi.heap.size ≤ k := fun k e => by rcases hC2 k e with e | e; exact hCl k e; exact Nat.le_trans f1.size e
  have hwl : Hid ((dd.write ⟨ldev, lat⟩ os).ws.length ≤ 100000) := Lib.hid (by
    unfold Dv.write
    split
    · simp; omega
    · omega)
  go_wp2_with fail
  refine (flushL C2 gc (dd.write ⟨ldev, lat⟩ os) hwl.out w v2 b2 hc2).mono ?_
  rintro e v3 ⟨rfl, C3, hc3, hC3, k3, b3⟩
  have f3 := Keep.belowS f2 k3 hCl2
  have hCl3 : ∀ k, C3 k → wi.heap.size ≤ k := fun k e => by rcases hC3 k e with e | e; exact hCl2 k e; exact Nat.le_trans f2.size e
  go_wp2_with fail
  refine (loseL (e0 := 0) C3 gc (dd.write ⟨ldev, lat⟩ os).flush 0 rfl (by simp [Dv.flush]) w v3 b3 hc3).mono ?_
  rintro e v4 ⟨rfl, C4, hc4, hC4, k4, b4⟩
  have f4 := Keep.belowS f3 k4 hCl3
  go_wp2
  go_ret
  exact ⟨⟨_, rfl, fun _ => rfl⟩, do_same f4 bw hS hT ap.out⟩

theorem does_any (w wi : World) (S T : Nat → Prop) (g h : Nat) (dd dk : Dv) (o : D_permafrostlaw03_Op) (v4 : Value) (h4 : SlAt w.heap.size w IsBool 1 [v4] o.keep) (hm1 : dd.ws.length ≤ 1000) (hm2 : dk.ws.length ≤ 1000) (bw : Below w.heap.size w wi) (hS : Lv w wi S g dd) (hT : Rl w wi T h dk) (ap : Hid (∀ k, S k → ¬ T k)) :
    Calls Try.prog 12 #[.pointer (some ⟨g, 0, none⟩), .pointer (some ⟨h, 0, none⟩), .agg #[.int .i64 o.do_, .int .i64 o.l.dev, .int .i64 o.l.at_, .string (bstr o.s), v4]] wi fun e wj => (∃ b, e = .returned (.bool b) ∧ (dd = dk → b = true)) ∧ DoPost w wi S T g h (dd.op o) (dk.op o) wj := by
  obtain ⟨A4, c4, rfl⟩ := slAt_form h4
  by_cases t0 : o.do_ = 0
  · exact does0 w wi S T g h dd dk o A4 _ c4 h4 t0 hm1 hm2 bw hS hT ap
  by_cases t1 : o.do_ = 1
  · exact does1 w wi S T g h dd dk o A4 _ c4 h4 t1 hm1 hm2 bw hS hT ap
  by_cases t2 : o.do_ = 2
  · exact does2 w wi S T g h dd dk o A4 _ c4 h4 t2 hm1 hm2 bw hS hT ap
  by_cases t3 : o.do_ = 3
  · exact does3 w wi S T g h dd dk o A4 _ c4 h4 t3 hm1 hm2 bw hS hT ap
  by_cases t4 : o.do_ = 4
  · exact does4 w wi S T g h dd dk o A4 _ c4 h4 t4 hm1 hm2 bw hS hT ap
  by_cases t5 : o.do_ = 5
  · exact does5 w wi S T g h dd dk o A4 _ c4 h4 t5 hm1 hm2 bw hS hT ap
  exact does6 w wi S T g h dd dk o A4 _ c4 h4 ⟨t0, t1, t2, t3, t4, t5⟩ hm1 hm2 bw hS hT ap

end Go.Proofs.Ytmlakbdigbpmaaa
