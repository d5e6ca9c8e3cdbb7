/- Decode of a pointer: the reference's. -/
import Derived.Test.YtnjbhooogfonbaaPt8
import Derived.Test.YtnjbhooogfonbaaRr
namespace Go.Proofs.Ytnjbhooogfonbaa
open Go.RowKit
set_option linter.unusedSimpArgs false
set_option linter.unnecessarySimpa false
set_option linter.unusedVariables false

set_option maxHeartbeats 400000 in
theorem rend_any (r : Rd) (g : Nat) (w : World) (hr : RrAt w g r) :
    Calls Try.prog 33 #[.pointer (some ⟨g, 0, none⟩)] w fun en w' => en = .returned (.int .i64 r.fin) ∧ w = w' := by
  obtain ⟨s, e0⟩ := r
  have hc0 := hr.cell 0
  have hc1 := hr.cell 1
  simp at hc0 hc1
  by_cases h : e0 = 0
  · subst h
    cases s with
    | nil =>
      go_enter Try.func33, Try.ntmps33
      go_wp2
      go_ret
      exact ⟨ret_int (by simp [Rd.fin]), rfl⟩
    | cons c s =>
      go_enter Try.func33, Try.ntmps33
      go_wp2
      go_ret
      exact ⟨ret_int (by simp [Rd.fin]), rfl⟩
  · have h0b : (e0 == 0) = false := by simp [h]
    go_enter Try.func33, Try.ntmps33
    go_wp2
    go_ret
    exact ⟨ret_int (by simp [Rd.fin, h]), rfl⟩
theorem rend_to {r : Rd} {n : Int} (h : r.fin = n) (g : Nat) (w : World) (hr : RrAt w g r) :
    Calls Try.prog 33 #[.pointer (some ⟨g, 0, none⟩)] w fun en w' => en = .returned (.int .i64 n) ∧ w = w' := by subst h; exact rend_any r g w hr

/-- while a pointer is read: its box, the reader, the frame -/
structure RDecSt (w : World) (G g : Nat) (cs : Array Value) (r : Rd) (w' : World) : Prop where
  hb : Blk w' G 24 cs
  hr : RrAt w' g r
  k : Below w.heap.size w w'
theorem RDecSt.rd {w w1 w2 : World} {G g : Nat} {cs : Array Value} {r r2 : Rd} (h : RDecSt w G g cs r w1) (hG : G < g) (hw : w.heap.size ≤ g) (hr : RrAt w2 g r2) (k : Keep w1.heap.size (· = g) w1 w2) : RDecSt w G g cs r2 w2 :=
  ⟨h.hb.keep k h.hb.lt (by omega), hr, h.k.trans (k.mono (S' := fun _ => False) h.k.size (fun j hj e => by omega)).below⟩
theorem RDecSt.below {w w1 w2 : World} {G g : Nat} {cs : Array Value} {r : Rd} (h : RDecSt w G g cs r w1) (b : Below w1.heap.size w1 w2) : RDecSt w G g cs r w2 :=
  ⟨h.hb.below b h.hb.lt, h.hr.below b h.hr.lt, h.k.trans (b.mono h.k.size)⟩

theorem wpList_app2 {P : Program} {ops : Array Oper} {rest : List Oper} {o : Oper} {a : Act} {Q : Exit → Act → World → Prop} (w : World) (hg : o.guard = none) (s x : Operand) (t : TypeId)
    (hop : o.op = .call { callee := .builtin .append, args := #[s, x], argTypes := #[t, t] })
    (B : Nat) (e : TypeId) (z : Value) (size bytes : Nat) (hu : P.underlying t = some (.slice e)) (hi : (P.info? e).map (fun i => (i.zero, i.size, i.bytes)) = some (some z, size, bytes))
    (hzs : z.cells.size = size) (hsz : 0 < size) (v : Value) (n : Nat) (xs : List Value) (hs : a.eval s = v) (hown : w.ownsRow B e size v n xs)
    (us : List Value) {g : Nat} (hgw : w.heap.size = g) (hx : a.eval x = .slice (some ⟨g, 0, none⟩) 1 1) (hl : us.length = size) (h1 : ∀ u ∈ us, u.oneCell' = true)
    (h63 : n + 1 ≤ maxLen) (hbytes : (n + 1) * bytes ≤ 140737488355328) (hB : B ≤ w.heap.size)
    (h : ∀ v' w', w'.ownsRow B e size v' (n + 1) (xs ++ us) → (w.alloc (.cells us.toArray e)).grownBy w' v.ownBlock → Below B w w' → wpList P ops Q rest (a.put o.dst v') w') :
    wpList P ops Q (o :: rest) a (w.alloc (.cells us.toArray e)) := by
  subst hgw
  exact wpList_app w hg s x t hop B e z size bytes hu hi hzs hsz v n xs hs hown us hx hl h1 h63 hbytes hB h
/-- the result's box, the pointer's box, the reader, the places -/
structure RT (w : World) (G g P : Nat) (cs : Array Value) (v : Value) (pre : List Lc) (r : Rd) (w' : World) : Prop where
  hG : Blk w' G 24 #[.slice none 0 0, .int .i64 0, .int .i64 0, .string ⟨#[]⟩]
  hb : Blk w' P 24 cs
  hr : RrAt w' g r
  k : Below w.heap.size w w'
  own : OwnL P w' v pre
theorem RT.rd {w w1 w2 : World} {G g P : Nat} {cs : Array Value} {v : Value} {pre : List Lc} {r r2 : Rd} (h : RT w G g P cs v pre r w1) (hG : G < g) (hP : g < P) (hw : w.heap.size ≤ G) (hr : RrAt w2 g r2) (k : Keep w1.heap.size (· = g) w1 w2) : RT w G g P cs v pre r2 w2 :=
  ⟨h.hG.keep k h.hG.lt (by omega), h.hb.keep k h.hb.lt (by omega), hr, h.k.trans (k.mono (S' := fun _ => False) h.k.size (fun j hj e => by omega)).below, own_kept h.own k (Nat.le_refl _) (own_ne h.own h.hr (by decide))⟩
theorem RT.below {w w1 w2 : World} {G g P : Nat} {cs : Array Value} {v : Value} {pre : List Lc} {r : Rd} (h : RT w G g P cs v pre r w1) (b : Below w1.heap.size w1 w2) : RT w G g P cs v pre r w2 :=
  ⟨h.hG.below b h.hG.lt, h.hb.below b h.hb.lt, Blk.below h.hr b (Blk.lt h.hr), h.k.trans (b.mono h.k.size), own_below h.own b⟩
theorem RT.far {w w1 : World} {G g P gl : Nat} {cs : Array Value} {v : Value} {pre : List Lc} {r : Rd} (h : RT w G g P cs v pre r w1) (hG : G < g) (hP : g < P) (hw : w.heap.size ≤ G) (hl : P < gl) (hne : v.ownBlock ≠ some gl) (i : Nat) (u : Value) : RT w G g P cs v pre r (w1.setCell ⟨gl, i, none⟩ u) :=
  ⟨h.hG.far (p := ⟨gl, i, none⟩) (by show G ≠ gl; omega) _, h.hb.far (p := ⟨gl, i, none⟩) (by show P ≠ gl; omega) _, Blk.far (p := ⟨gl, i, none⟩) h.hr (by show g ≠ gl; omega) _, below_at h.k (by omega) _ _, own_set h.own hne _⟩
theorem RT.setP {w w1 : World} {G g P : Nat} {cs : Array Value} {v : Value} {pre : List Lc} {r : Rd} (h : RT w G g P cs v pre r w1) (hG : G < g) (hP : g < P) (hw : w.heap.size ≤ G) (i : Nat) (u : Value) : RT w G g P (cs.setIfInBounds i u) v pre r (w1.setCell ⟨P, i, none⟩ u) :=
  ⟨h.hG.far (p := ⟨P, i, none⟩) (by show G ≠ P; omega) _, h.hb.set_ i u, Blk.far (p := ⟨P, i, none⟩) h.hr (by show g ≠ P; omega) _, below_at h.k (by omega) _ _, own_set h.own (own_ne h.own h.hb (by decide)) _⟩
theorem RT.store {w w1 w2 : World} {G g P : Nat} {cs : Array Value} {v v' : Value} {pre pre' : List Lc} {r : Rd} (h : RT w G g P cs v pre r w1) (hG : G < g) (hP : g < P) (hw : w.heap.size ≤ G) (own : OwnL P w2 v' pre') (hg : w1.grownBy w2 v.ownBlock) :
    RT w G g P (cs.setIfInBounds 0 v') v' pre' r (w2.setCell ⟨P, 0, none⟩ v') := by
  have o1 := own_ne h.own h.hG (by decide)
  have o2 := own_ne h.own h.hb (by decide)
  have o3 := own_ne h.own h.hr (by decide)
  have p1 := h.hG.grown hg (fun e => o1 e.symm)
  have p2 := h.hb.grown hg (fun e => o2 e.symm)
  have p3 := Blk.grown h.hr hg (fun e => o3 e.symm)
  have kk : Below w.heap.size w w2 := h.k.grown hg h.k.size (fun k hk => by have := (h.own.lt k hk).1; omega)
  exact ⟨p1.far (p := ⟨P, 0, none⟩) (by show G ≠ P; omega) _, p2.set_ 0 _, p3.far (p := ⟨P, 0, none⟩) (by show g ≠ P; omega) _, kk.setCell (p := ⟨P, 0, none⟩) (by show w.heap.size ≤ P; omega) _, own_set own (own_ne own p2 (by decide)) _⟩

set_option maxHeartbeats 1000000 in
theorem rdec_form (s : List UInt8) (hs : s.length ≤ 140737488351232) (n : Int) (r1s : List UInt8) (H1 : Hid (Rd.number ⟨s, 0⟩ 1 = (n, ⟨r1s, 0⟩))) (hn : n < 1 ∨ 2 < n) (w : World) :
    Calls Try.prog 17 #[.string (bstr s)] w fun e w' => ∃ v, e = .returned (.tuple #[ptV v ⟨[], 0, 0, []⟩, .int .i64 3]) ∧ LocsAt w'.heap.size w' v ([] : List Lc) ∧ Below w.heap.size w w' := by
  have hs' : (⟨s, 0⟩ : Rd).s.length ≤ 9223372036854775807 := Nat.le_trans hs (by decide)
  go_enter Try.func17, Try.ntmps17
  go_wp2_with fail
  obtain ⟨G, hG⟩ : ∃ g, w.heap.size = g := ⟨_, rfl⟩
  obtain ⟨w0, hw0⟩ : ∃ w0, w.alloc (.cells #[.slice none 0 0, .int .i64 0, .int .i64 0, .string ⟨#[]⟩] 24) = w0 := ⟨_, rfl⟩
  have hb0 : Blk w0 G 24 #[.slice none 0 0, .int .i64 0, .int .i64 0, .string ⟨#[]⟩] := by rw [← hw0, ← hG]; exact Blk.new _ _ _
  have k0 : Below w.heap.size w w0 := by rw [← hw0]; exact (Below.refl _ _).alloc (Nat.le_refl _) _
  have hsz : w0.heap.size = w.heap.size + 1 := by rw [← hw0]; simp
  obtain ⟨g, hg⟩ : ∃ g, w.heap.size + 1 = g := ⟨_, rfl⟩
  have hGg : G < g := by omega
  have hwg : w.heap.size ≤ g := by omega
  have hwG : w.heap.size ≤ G := by omega
  rw [hw0]
  try rw [hg]
  try rw [hG]
  obtain ⟨w1, hw1⟩ : ∃ w1, w0.alloc (.cells #[.string (bstr s), .int .i64 0] 59) = w1 := ⟨_, rfl⟩
  have b1 : Below w0.heap.size w0 w1 := by rw [← hw1]; exact (Below.refl _ _).alloc (Nat.le_refl _) _
  have hr1 : RrAt w1 g ⟨s, 0⟩ := by rw [← hw1, ← hg, ← hsz]; exact Blk.new _ _ _
  have st1 : RDecSt w G g #[.slice none 0 0, .int .i64 0, .int .i64 0, .string ⟨#[]⟩] ⟨s, 0⟩ w1 := ⟨hb0.below b1 hb0.lt, hr1, k0.trans (b1.mono k0.size)⟩
  rw [hw1]
  clear hb0 k0 hw0 hw1 b1 hr1 hg hsz
  refine (rnumber_to H1.out g w1 st1.hr hs').mono ?_
  rintro e w2 ⟨rfl, hr2, k2⟩
  have st2 := st1.rd hGg hwg hr2 k2
  clear st1 hr2 k2
  have e0 := st2.hr.cell 0
  have e1 := st2.hr.cell 1
  simp at e0 e1
  have p2 := st2.hb
  have p4 := st2.k
  have q0 := p2.cell 0
  have q1 := p2.cell 1
  have q2 := p2.cell 2
  have q3 := p2.cell 3
  have g0 := p2.frozen 0
  have g1 := p2.frozen 1
  have g2 := p2.frozen 2
  have g3 := p2.frozen 3
  simp at q0 q1 q2 q3
  clear st2
  rcases hn with hn | hn
  · have b1 : decide (n < 1) = true := decide_eq_true hn
    go_wp2
    refine bodyPost_ret (v := .tuple #[.agg #[.slice none 0 0, .int .i64 0, .int .i64 0, .string (bstr [])], .int .i64 3]) ?h1 rfl ?h2
    case h1 => simp [results, Try.results17, go_sem, *]
    case h2 => exact ⟨.slice none 0 0, rfl, LocsAt.nil _ _, by repeat (first | exact p4 | exact p4.drew | refine below_at ?_ (Nat.le_of_eq hG) _ _ | refine Below.drew ?_)⟩
  · have b1 : decide (n < 1) = false := decide_eq_false (by omega)
    have b2 : decide (2 < n) = true := decide_eq_true hn
    go_wp2
    refine bodyPost_ret (v := .tuple #[.agg #[.slice none 0 0, .int .i64 0, .int .i64 0, .string (bstr [])], .int .i64 3]) ?h1 rfl ?h2
    case h1 => simp [results, Try.results17, go_sem, *]
    case h2 => exact ⟨.slice none 0 0, rfl, LocsAt.nil _ _, by repeat (first | exact p4 | exact p4.drew | refine below_at ?_ (Nat.le_of_eq hG) _ _ | refine Below.drew ?_)⟩

set_option maxHeartbeats 1000000 in
theorem rdec_emp (s : List UInt8) (hs : s.length ≤ 140737488351232) (H1 : Hid (Rd.number ⟨s, 0⟩ 1 = ((0 : Int), ⟨s, 2⟩))) (w : World) :
    Calls Try.prog 17 #[.string (bstr s)] w fun e w' => ∃ v, e = .returned (.tuple #[ptV v ⟨[], 0, 0, []⟩, .int .i64 2]) ∧ LocsAt w'.heap.size w' v ([] : List Lc) ∧ Below w.heap.size w w' := by
  have hs' : (⟨s, 0⟩ : Rd).s.length ≤ 9223372036854775807 := Nat.le_trans hs (by decide)
  go_enter Try.func17, Try.ntmps17
  go_wp2_with fail
  obtain ⟨G, hG⟩ : ∃ g, w.heap.size = g := ⟨_, rfl⟩
  obtain ⟨w0, hw0⟩ : ∃ w0, w.alloc (.cells #[.slice none 0 0, .int .i64 0, .int .i64 0, .string ⟨#[]⟩] 24) = w0 := ⟨_, rfl⟩
  have hb0 : Blk w0 G 24 #[.slice none 0 0, .int .i64 0, .int .i64 0, .string ⟨#[]⟩] := by rw [← hw0, ← hG]; exact Blk.new _ _ _
  have k0 : Below w.heap.size w w0 := by rw [← hw0]; exact (Below.refl _ _).alloc (Nat.le_refl _) _
  have hsz : w0.heap.size = w.heap.size + 1 := by rw [← hw0]; simp
  obtain ⟨g, hg⟩ : ∃ g, w.heap.size + 1 = g := ⟨_, rfl⟩
  have hGg : G < g := by omega
  have hwg : w.heap.size ≤ g := by omega
  have hwG : w.heap.size ≤ G := by omega
  rw [hw0]
  try rw [hg]
  try rw [hG]
  obtain ⟨w1, hw1⟩ : ∃ w1, w0.alloc (.cells #[.string (bstr s), .int .i64 0] 59) = w1 := ⟨_, rfl⟩
  have b1 : Below w0.heap.size w0 w1 := by rw [← hw1]; exact (Below.refl _ _).alloc (Nat.le_refl _) _
  have hr1 : RrAt w1 g ⟨s, 0⟩ := by rw [← hw1, ← hg, ← hsz]; exact Blk.new _ _ _
  have st1 : RDecSt w G g #[.slice none 0 0, .int .i64 0, .int .i64 0, .string ⟨#[]⟩] ⟨s, 0⟩ w1 := ⟨hb0.below b1 hb0.lt, hr1, k0.trans (b1.mono k0.size)⟩
  rw [hw1]
  clear hb0 k0 hw0 hw1 b1 hr1 hg hsz
  refine (rnumber_to H1.out g w1 st1.hr hs').mono ?_
  rintro e w2 ⟨rfl, hr2, k2⟩
  have st2 := st1.rd hGg hwg hr2 k2
  clear st1 hr2 k2
  have e0 := st2.hr.cell 0
  have e1 := st2.hr.cell 1
  simp at e0 e1
  have p2 := st2.hb
  have p4 := st2.k
  have q0 := p2.cell 0
  have q1 := p2.cell 1
  have q2 := p2.cell 2
  have q3 := p2.cell 3
  have g0 := p2.frozen 0
  have g1 := p2.frozen 1
  have g2 := p2.frozen 2
  have g3 := p2.frozen 3
  simp at q0 q1 q2 q3
  clear st2
  · have hne1 : G ≠ g := by omega
    have hne2 : g ≠ G := by omega
    go_wp2_with fail
    go_region_held3 (fun w' => w'.cell? ⟨g, 1, none⟩ = some (.int .i64 2)) (first | exact e1 | go_keep) (fail)
    go_wp2
    refine bodyPost_ret (v := .tuple #[.agg #[.slice none 0 0, .int .i64 0, .int .i64 0, .string (bstr [])], .int .i64 2]) ?h1 rfl ?h2
    case h1 => simp [results, Try.results17, go_sem, *]
    case h2 => exact ⟨.slice none 0 0, rfl, LocsAt.nil _ _, by repeat (first | exact p4 | exact p4.drew | refine below_at ?_ (Nat.le_of_eq hG) _ _ | refine Below.drew ?_)⟩

set_option maxHeartbeats 2000000 in
theorem rdec_end (s : List UInt8) (hs : s.length ≤ 140737488351232) (n : Nat) (r1s : List UInt8) (H1 : Hid (Rd.number ⟨s, 0⟩ 1 = ((n : Int), ⟨r1s, 0⟩))) (hn : 1 ≤ n) (hn2 : n ≤ 2)
    (locs : List Lc) (r2 : Rd) (H2 : Hid (readLocs n ⟨r1s, 0⟩ = (locs, r2))) (hl1 : r1s.length ≤ 140737488351232)
    (len : Int) (r3 : Rd) (H3 : Hid (r2.number 2 = (len, r3))) (birth : Int) (r4 : Rd) (H4 : Hid (r3.number 6 = (birth, r4))) (sum : List UInt8) (r5 : Rd) (H5 : Hid (r4.bytes 32 = (sum, r5)))
    (f : Int) (HF : Hid (r5.fin = f)) (hf : (f == 0) = false) (w : World) :
    Calls Try.prog 17 #[.string (bstr s)] w fun e w' => ∃ v, e = .returned (.tuple #[ptV v ⟨[], 0, 0, []⟩, .int .i64 f]) ∧ LocsAt w'.heap.size w' v (⟨[], 0, 0, []⟩ : Pt).locs ∧ Below w.heap.size w w' := by
  obtain ⟨i0, hi0, hz0, hz1, hz2⟩ := info_parts loc_info
  have hs' : (⟨s, 0⟩ : Rd).s.length ≤ 9223372036854775807 := Nat.le_trans hs (by decide)
  go_enter Try.func17, Try.ntmps17
  go_wp2_with fail
  obtain ⟨G, hG⟩ : ∃ g, w.heap.size = g := ⟨_, rfl⟩
  obtain ⟨w0, hw0⟩ : ∃ w0, w.alloc (.cells #[.slice none 0 0, .int .i64 0, .int .i64 0, .string ⟨#[]⟩] 24) = w0 := ⟨_, rfl⟩
  have hb0 : Blk w0 G 24 #[.slice none 0 0, .int .i64 0, .int .i64 0, .string ⟨#[]⟩] := by rw [← hw0, ← hG]; exact Blk.new _ _ _
  have k0 : Below w.heap.size w w0 := by rw [← hw0]; exact (Below.refl _ _).alloc (Nat.le_refl _) _
  have hsz : w0.heap.size = w.heap.size + 1 := by rw [← hw0]; simp
  obtain ⟨g, hg⟩ : ∃ g, w.heap.size + 1 = g := ⟨_, rfl⟩
  have hGg : G < g := by omega
  have hwg : w.heap.size ≤ g := by omega
  have hwG : w.heap.size ≤ G := by omega
  rw [hw0]
  try rw [hg]
  try rw [hG]
  obtain ⟨w1, hw1⟩ : ∃ w1, w0.alloc (.cells #[.string (bstr s), .int .i64 0] 59) = w1 := ⟨_, rfl⟩
  have b1 : Below w0.heap.size w0 w1 := by rw [← hw1]; exact (Below.refl _ _).alloc (Nat.le_refl _) _
  have hr1 : RrAt w1 g ⟨s, 0⟩ := by rw [← hw1, ← hg, ← hsz]; exact Blk.new _ _ _
  have st1 : RDecSt w G g #[.slice none 0 0, .int .i64 0, .int .i64 0, .string ⟨#[]⟩] ⟨s, 0⟩ w1 := ⟨hb0.below b1 hb0.lt, hr1, k0.trans (b1.mono k0.size)⟩
  rw [hw1]
  clear hb0 k0 hw0 hw1 b1 hr1 hg hsz
  refine (rnumber_to H1.out g w1 st1.hr hs').mono ?_
  rintro e w2 ⟨rfl, hr2, k2⟩
  have st2 := st1.rd hGg hwg hr2 k2
  clear st1 hr2 k2
  have e0 := st2.hr.cell 0
  have e1 := st2.hr.cell 1
  simp at e0 e1
  go_wp2_with fail
  obtain ⟨P, hP⟩ : ∃ g, w2.heap.size = g := ⟨_, rfl⟩
  obtain ⟨w3, hw3⟩ : ∃ w3, w2.alloc (.cells #[.slice none 0 0, .int .i64 0, .int .i64 0, .string ⟨#[]⟩] 24) = w3 := ⟨_, rfl⟩
  have hgP : g < P := by rw [← hP]; exact Blk.lt st2.hr
  have st3 : RT w G g P #[.slice none 0 0, .int .i64 0, .int .i64 0, .string ⟨#[]⟩] (.slice none 0 0) [] ⟨r1s, 0⟩ w3 := by
    have h3 := st2.below ((Below.refl _ w2).alloc (Nat.le_refl _) (.cells #[.slice none 0 0, .int .i64 0, .int .i64 0, .string ⟨#[]⟩] 24))
    rw [hw3] at h3
    exact ⟨h3.hb, by rw [← hw3, ← hP]; exact Blk.new _ _ _, h3.hr, h3.k, World.ownsRow_nil _ _ _ _⟩
  rw [hw3, hP]
  clear hw3 hP st2 e0 e1
  go_loopw [7] (fun i wr => ∃ j : Nat, j ≤ n ∧ i = .int .i64 j ∧ ∃ v pre rj rest, readLocs (n - j) rj = (rest, r2) ∧ pre ++ rest = locs ∧ pre.length = j ∧ rj.s.length ≤ 140737488351232 ∧ RT w G g P #[v, .int .i64 0, .int .i64 0, .string ⟨#[]⟩] v pre rj wr) (fun i _ => n - (intOf i).toNat)
  case atStart => exact ⟨0, by omega, rfl, _, [], ⟨r1s, 0⟩, locs, H2.out, rfl, rfl, hl1, st3⟩
  case round =>
    obtain ⟨j, hj, rfl, v, pre, rj, rest, hrl, hpr, hpl, hlj, st⟩ := hrel
    clear st3
    have HPR := Lib.hid hpr
    by_cases hlt : j < n
    · obtain ⟨m, hm⟩ : ∃ m, n - j = m + 1 := ⟨n - j - 1, by omega⟩
      rw [hm, readLocs] at hrl
      have hra := num_len rj 1
      obtain ⟨⟨d, ra⟩, hD⟩ : ∃ x, rj.number 1 = x := ⟨_, rfl⟩
      rw [hD] at hrl hra
      have hrb := num_len ra 2
      obtain ⟨⟨a, rb⟩, hA⟩ : ∃ x, ra.number 2 = x := ⟨_, rfl⟩
      rw [hA] at hrl hrb
      simp only [Prod.mk.injEq] at hrl hra hrb
      have HD := Lib.hid hD
      have HA := Lib.hid hA
      have HRL := Lib.hid hrl
      have hlj' : rj.s.length ≤ 9223372036854775807 := by omega
      have hla' : ra.s.length ≤ 9223372036854775807 := by omega
      have hlb : rb.s.length ≤ 140737488351232 := by omega
      have hfit1 : pre.length + 1 ≤ maxLen := by unfold maxLen; omega
      have hfit2 : (pre.length + 1) * 16 ≤ 140737488355328 := by omega
      have LJ := Lib.hid hlj'
      have LA := Lib.hid hla'
      have LB := Lib.hid hlb
      have F1 := Lib.hid hfit1
      have F2 := Lib.hid hfit2
      have HPL := Lib.hid hpl
      clear hD hA hrl hra hrb hlj hlj' hla' hlb hfit1 hfit2 hpl hpr
      go_wp2_with fail
      obtain ⟨gl, hgl⟩ : ∃ g, wr.heap.size = g := ⟨_, rfl⟩
      obtain ⟨w5, hw5⟩ : ∃ x, wr.alloc (.cells #[.int .i64 0, .int .i64 0] 31) = x := ⟨_, rfl⟩
      have hPl : P < gl := by rw [← hgl]; exact st.hb.lt
      have hne : v.ownBlock ≠ some gl := fun e => by have := (st.own.lt gl e).2; omega
      have hl5 : Blk w5 gl 31 #[.int .i64 0, .int .i64 0] := by rw [← hw5, ← hgl]; exact Blk.new _ _ _
      have st5 := st.below ((Below.refl _ wr).alloc (Nat.le_refl _) (.cells #[.int .i64 0, .int .i64 0] 31))
      rw [hw5] at st5 ⊢
      try rw [hgl]
      clear hw5 hgl st
      refine (rnumber_to HD.out g w5 st5.hr LJ.out).mono ?_
      rintro e w6 ⟨rfl, hr6, k6⟩
      have st6 := st5.rd hGg hgP hwG hr6 k6
      have hl6 := hl5.keep k6 hl5.lt (by omega)
      clear st5 hl5 hr6 k6
      have x0 := hl6.cell 0
      have x1 := hl6.frozen 0
      simp at x0
      go_wp2_with fail
      have st7 := st6.far hGg hgP hwG hPl hne 0 (.int .i64 d)
      have hl7 := hl6.set_ 0 (.int .i64 d)
      simp at hl7
      obtain ⟨w7, hw7⟩ : ∃ x, w6.setCell ⟨gl, 0, none⟩ (.int .i64 d) = x := ⟨_, rfl⟩
      rw [hw7] at st7 hl7 ⊢
      clear hw7 st6 hl6 x0 x1
      refine (rnumber_to HA.out g w7 st7.hr LA.out).mono ?_
      rintro e w8 ⟨rfl, hr8, k8⟩
      have st8 := st7.rd hGg hgP hwG hr8 k8
      have hl8 := hl7.keep k8 hl7.lt (by omega)
      clear st7 hl7 hr8 k8
      have x0 := hl8.cell 1
      have x1 := hl8.frozen 1
      simp at x0
      have st9 := st8.far hGg hgP hwG hPl hne 1 (.int .i64 a)
      have hl9 := hl8.set_ 1 (.int .i64 a)
      simp at hl9
      have q0 := st9.hb.cell 0
      have q1 := hl9.cell 0
      have q2 := hl9.cell 1
      have z9 := st9.hb.lt
      simp at q0 q1 q2
      clear hl9 hl8 st8
      go_wp2_with (at_builtin; refine wpList_app2 (P := Try.prog) _ rfl _ _ 22 rfl P 31 (.agg #[.int .i64 0, .int .i64 0]) 2 16 Try.underlying22 loc_info rfl (by decide) v pre.length (lcsV pre) rfl st9.own _ (g := w8.heap.size) (by simp [World.setCell]) rfl rfl ?c1 F1.out F2.out (Nat.le_of_lt z9) ?_)
      case c1 => intro u hu; simp at hu; rcases hu with rfl | rfl <;> rfl
      intro v' w10 hown10 hgrow10 hb10
      have st10 := st9.below ((Below.refl _ _).alloc (Nat.le_refl _) (.cells #[.int .i64 d, .int .i64 a] 31))
      have st11 := st10.store hGg hgP hwG (v' := v') (pre' := pre ++ [⟨d, a⟩]) (by unfold OwnL; rw [lcsV_snoc, List.length_append]; exact hown10) hgrow10
      have hbP := st10.hb.grown hgrow10 (fun e => own_ne st10.own st10.hb (by decide) e.symm)
      have r0 := hbP.cell 0
      have r1 := hbP.frozen 0
      simp at r0
      obtain ⟨ao, n', cap, rfl⟩ : ∃ ao n' cap, v' = .slice ao n' cap := by
        rcases hown10.2 with ⟨hv, _⟩ | ⟨g, cap, cur, hv, _⟩
        · exact ⟨_, _, _, hv⟩
        · exact ⟨_, _, _, hv⟩
      simp at st11
      clear st9 st10 hbP q0 q1 q2 x0 x1 hown10 hgrow10 hb10
      go_wp2
      go_round
      case rel => exact ⟨j + 1, by omega, by go_num, _, _, rb, (readLocs m rb).1, by rw [show n - (j + 1) = m by omega, ← HRL.out.2], by rw [← HPR.out, ← HRL.out.1]; simp, by simp [HPL.out], LB.out, st11⟩
      case measure => simp [intOf]; omega
    · obtain rfl : j = n := by omega
      rw [Nat.sub_self, readLocs] at hrl
      simp only [Prod.mk.injEq] at hrl
      obtain ⟨rfl, rfl⟩ := hrl
      rw [List.append_nil] at hpr
      subst hpr
      have LJ : rj.s.length ≤ 9223372036854775807 := by omega
      have hra := num_len rj 2
      rw [H3.out] at hra
      have hrb := num_len r3 6
      rw [H4.out] at hrb
      simp only at hra hrb
      have L3 : r3.s.length ≤ 9223372036854775807 := by omega
      have L4 : r4.s.length ≤ 9223372036854775807 := by omega
      have LJ := Lib.hid LJ
      have L3 := Lib.hid L3
      have L4 := Lib.hid L4
      have HPL := Lib.hid hpl
      clear hlj hra hrb hpl HPR
      go_wp2_with fail
      refine (rnumber_to H3.out g wr st.hr LJ.out).mono ?_
      rintro e w3 ⟨rfl, hr3, k3⟩
      have st3 := st.rd hGg hgP hwG hr3 k3
      clear st hr3 k3
      have y0 := st3.hb.cell 1
      have y1 := st3.hb.frozen 1
      simp at y0
      go_wp2_with fail
      have st4 := st3.setP hGg hgP hwG 1 (.int .i64 len)
      obtain ⟨w4, hw4⟩ : ∃ x, w3.setCell ⟨P, 1, none⟩ (.int .i64 len) = x := ⟨_, rfl⟩
      rw [hw4] at st4 ⊢
      simp at st4
      clear hw4 st3 y0 y1
      refine (rnumber_to H4.out g w4 st4.hr L3.out).mono ?_
      rintro e w5 ⟨rfl, hr5, k5⟩
      have st5 := st4.rd hGg hgP hwG hr5 k5
      clear st4 hr5 k5
      have y0 := st5.hb.cell 2
      have y1 := st5.hb.frozen 2
      simp at y0
      go_wp2_with fail
      have st6 := st5.setP hGg hgP hwG 2 (.int .i64 birth)
      obtain ⟨w6, hw6⟩ : ∃ x, w5.setCell ⟨P, 2, none⟩ (.int .i64 birth) = x := ⟨_, rfl⟩
      rw [hw6] at st6 ⊢
      simp at st6
      clear hw6 st5 y0 y1
      refine (rbytes_to H5.out g w6 st6.hr L4.out).mono ?_
      rintro e w7 ⟨rfl, hr7, k7⟩
      have st7 := st6.rd hGg hgP hwG hr7 k7
      clear st6 hr7 k7
      have y0 := st7.hb.cell 3
      have y1 := st7.hb.frozen 3
      simp at y0
      go_wp2_with fail
      have st8 := st7.setP hGg hgP hwG 3 (.string (bstr sum))
      obtain ⟨w9, hw9⟩ : ∃ x, w7.setCell ⟨P, 3, none⟩ (.string (bstr sum)) = x := ⟨_, rfl⟩
      rw [hw9] at st8 ⊢
      simp at st8
      clear hw9 st7 y0 y1
      refine (rend_to HF.out g w9 st8.hr).mono ?_
      rintro e _ ⟨rfl, rfl⟩
      obtain ⟨p2, p1, p3, p4, p5⟩ := st8
      have q0 := p2.cell 0
      have q1 := p2.cell 1
      have q2 := p2.cell 2
      have q3 := p2.cell 3
      have g0 := p2.frozen 0
      have g1 := p2.frozen 1
      have g2 := p2.frozen 2
      have g3 := p2.frozen 3
      simp at q0 q1 q2 q3
      go_wp2
      refine bodyPost_ret (v := .tuple #[.agg #[.slice none 0 0, .int .i64 0, .int .i64 0, .string (bstr [])], .int .i64 f]) ?h1 rfl ?h2
      case h1 => simp [results, Try.results17, go_sem, *]
      case h2 => exact ⟨_, rfl, LocsAt.nil _ _, below_at (below_at (below_at (below_at p4 (Nat.le_of_eq hG) _ _) (Nat.le_of_eq hG) _ _) (Nat.le_of_eq hG) _ _) (Nat.le_of_eq hG) _ _⟩

set_option maxHeartbeats 2000000 in
theorem rdec_bad (s : List UInt8) (hs : s.length ≤ 140737488351232) (n : Nat) (r1s : List UInt8) (H1 : Hid (Rd.number ⟨s, 0⟩ 1 = ((n : Int), ⟨r1s, 0⟩))) (hn : 1 ≤ n) (hn2 : n ≤ 2)
    (locs : List Lc) (r2 : Rd) (H2 : Hid (readLocs n ⟨r1s, 0⟩ = (locs, r2))) (hl1 : r1s.length ≤ 140737488351232)
    (len : Int) (r3 : Rd) (H3 : Hid (r2.number 2 = (len, r3))) (birth : Int) (r4 : Rd) (H4 : Hid (r3.number 6 = (birth, r4))) (sum : List UInt8) (r5 : Rd) (H5 : Hid (r4.bytes 32 = (sum, r5)))
    (HF : Hid (r5.fin = 0)) (HC : Hid (ckE ⟨locs, len, birth, sum⟩ = 1)) (w : World) :
    Calls Try.prog 17 #[.string (bstr s)] w fun e w' => ∃ v, e = .returned (.tuple #[ptV v ⟨[], 0, 0, []⟩, .int .i64 3]) ∧ LocsAt w'.heap.size w' v (⟨[], 0, 0, []⟩ : Pt).locs ∧ Below w.heap.size w w' := by
  obtain ⟨i0, hi0, hz0, hz1, hz2⟩ := info_parts loc_info
  have hs' : (⟨s, 0⟩ : Rd).s.length ≤ 9223372036854775807 := Nat.le_trans hs (by decide)
  go_enter Try.func17, Try.ntmps17
  go_wp2_with fail
  obtain ⟨G, hG⟩ : ∃ g, w.heap.size = g := ⟨_, rfl⟩
  obtain ⟨w0, hw0⟩ : ∃ w0, w.alloc (.cells #[.slice none 0 0, .int .i64 0, .int .i64 0, .string ⟨#[]⟩] 24) = w0 := ⟨_, rfl⟩
  have hb0 : Blk w0 G 24 #[.slice none 0 0, .int .i64 0, .int .i64 0, .string ⟨#[]⟩] := by rw [← hw0, ← hG]; exact Blk.new _ _ _
  have k0 : Below w.heap.size w w0 := by rw [← hw0]; exact (Below.refl _ _).alloc (Nat.le_refl _) _
  have hsz : w0.heap.size = w.heap.size + 1 := by rw [← hw0]; simp
  obtain ⟨g, hg⟩ : ∃ g, w.heap.size + 1 = g := ⟨_, rfl⟩
  have hGg : G < g := by omega
  have hwg : w.heap.size ≤ g := by omega
  have hwG : w.heap.size ≤ G := by omega
  rw [hw0]
  try rw [hg]
  try rw [hG]
  obtain ⟨w1, hw1⟩ : ∃ w1, w0.alloc (.cells #[.string (bstr s), .int .i64 0] 59) = w1 := ⟨_, rfl⟩
  have b1 : Below w0.heap.size w0 w1 := by rw [← hw1]; exact (Below.refl _ _).alloc (Nat.le_refl _) _
  have hr1 : RrAt w1 g ⟨s, 0⟩ := by rw [← hw1, ← hg, ← hsz]; exact Blk.new _ _ _
  have st1 : RDecSt w G g #[.slice none 0 0, .int .i64 0, .int .i64 0, .string ⟨#[]⟩] ⟨s, 0⟩ w1 := ⟨hb0.below b1 hb0.lt, hr1, k0.trans (b1.mono k0.size)⟩
  rw [hw1]
  clear hb0 k0 hw0 hw1 b1 hr1 hg hsz
  refine (rnumber_to H1.out g w1 st1.hr hs').mono ?_
  rintro e w2 ⟨rfl, hr2, k2⟩
  have st2 := st1.rd hGg hwg hr2 k2
  clear st1 hr2 k2
  have e0 := st2.hr.cell 0
  have e1 := st2.hr.cell 1
  simp at e0 e1
  go_wp2_with fail
  obtain ⟨P, hP⟩ : ∃ g, w2.heap.size = g := ⟨_, rfl⟩
  obtain ⟨w3, hw3⟩ : ∃ w3, w2.alloc (.cells #[.slice none 0 0, .int .i64 0, .int .i64 0, .string ⟨#[]⟩] 24) = w3 := ⟨_, rfl⟩
  have hgP : g < P := by rw [← hP]; exact Blk.lt st2.hr
  have st3 : RT w G g P #[.slice none 0 0, .int .i64 0, .int .i64 0, .string ⟨#[]⟩] (.slice none 0 0) [] ⟨r1s, 0⟩ w3 := by
    have h3 := st2.below ((Below.refl _ w2).alloc (Nat.le_refl _) (.cells #[.slice none 0 0, .int .i64 0, .int .i64 0, .string ⟨#[]⟩] 24))
    rw [hw3] at h3
    exact ⟨h3.hb, by rw [← hw3, ← hP]; exact Blk.new _ _ _, h3.hr, h3.k, World.ownsRow_nil _ _ _ _⟩
  rw [hw3, hP]
  clear hw3 hP st2 e0 e1
  go_loopw [7] (fun i wr => ∃ j : Nat, j ≤ n ∧ i = .int .i64 j ∧ ∃ v pre rj rest, readLocs (n - j) rj = (rest, r2) ∧ pre ++ rest = locs ∧ pre.length = j ∧ rj.s.length ≤ 140737488351232 ∧ RT w G g P #[v, .int .i64 0, .int .i64 0, .string ⟨#[]⟩] v pre rj wr) (fun i _ => n - (intOf i).toNat)
  case atStart => exact ⟨0, by omega, rfl, _, [], ⟨r1s, 0⟩, locs, H2.out, rfl, rfl, hl1, st3⟩
  case round =>
    obtain ⟨j, hj, rfl, v, pre, rj, rest, hrl, hpr, hpl, hlj, st⟩ := hrel
    clear st3
    have HPR := Lib.hid hpr
    by_cases hlt : j < n
    · obtain ⟨m, hm⟩ : ∃ m, n - j = m + 1 := ⟨n - j - 1, by omega⟩
      rw [hm, readLocs] at hrl
      have hra := num_len rj 1
      obtain ⟨⟨d, ra⟩, hD⟩ : ∃ x, rj.number 1 = x := ⟨_, rfl⟩
      rw [hD] at hrl hra
      have hrb := num_len ra 2
      obtain ⟨⟨a, rb⟩, hA⟩ : ∃ x, ra.number 2 = x := ⟨_, rfl⟩
      rw [hA] at hrl hrb
      simp only [Prod.mk.injEq] at hrl hra hrb
      have HD := Lib.hid hD
      have HA := Lib.hid hA
      have HRL := Lib.hid hrl
      have hlj' : rj.s.length ≤ 9223372036854775807 := by omega
      have hla' : ra.s.length ≤ 9223372036854775807 := by omega
      have hlb : rb.s.length ≤ 140737488351232 := by omega
      have hfit1 : pre.length + 1 ≤ maxLen := by unfold maxLen; omega
      have hfit2 : (pre.length + 1) * 16 ≤ 140737488355328 := by omega
      have LJ := Lib.hid hlj'
      have LA := Lib.hid hla'
      have LB := Lib.hid hlb
      have F1 := Lib.hid hfit1
      have F2 := Lib.hid hfit2
      have HPL := Lib.hid hpl
      clear hD hA hrl hra hrb hlj hlj' hla' hlb hfit1 hfit2 hpl hpr
      go_wp2_with fail
      obtain ⟨gl, hgl⟩ : ∃ g, wr.heap.size = g := ⟨_, rfl⟩
      obtain ⟨w5, hw5⟩ : ∃ x, wr.alloc (.cells #[.int .i64 0, .int .i64 0] 31) = x := ⟨_, rfl⟩
      have hPl : P < gl := by rw [← hgl]; exact st.hb.lt
      have hne : v.ownBlock ≠ some gl := fun e => by have := (st.own.lt gl e).2; omega
      have hl5 : Blk w5 gl 31 #[.int .i64 0, .int .i64 0] := by rw [← hw5, ← hgl]; exact Blk.new _ _ _
      have st5 := st.below ((Below.refl _ wr).alloc (Nat.le_refl _) (.cells #[.int .i64 0, .int .i64 0] 31))
      rw [hw5] at st5 ⊢
      try rw [hgl]
      clear hw5 hgl st
      refine (rnumber_to HD.out g w5 st5.hr LJ.out).mono ?_
      rintro e w6 ⟨rfl, hr6, k6⟩
      have st6 := st5.rd hGg hgP hwG hr6 k6
      have hl6 := hl5.keep k6 hl5.lt (by omega)
      clear st5 hl5 hr6 k6
      have x0 := hl6.cell 0
      have x1 := hl6.frozen 0
      simp at x0
      go_wp2_with fail
      have st7 := st6.far hGg hgP hwG hPl hne 0 (.int .i64 d)
      have hl7 := hl6.set_ 0 (.int .i64 d)
      simp at hl7
      obtain ⟨w7, hw7⟩ : ∃ x, w6.setCell ⟨gl, 0, none⟩ (.int .i64 d) = x := ⟨_, rfl⟩
      rw [hw7] at st7 hl7 ⊢
      clear hw7 st6 hl6 x0 x1
      refine (rnumber_to HA.out g w7 st7.hr LA.out).mono ?_
      rintro e w8 ⟨rfl, hr8, k8⟩
      have st8 := st7.rd hGg hgP hwG hr8 k8
      have hl8 := hl7.keep k8 hl7.lt (by omega)
      clear st7 hl7 hr8 k8
      have x0 := hl8.cell 1
      have x1 := hl8.frozen 1
      simp at x0
      have st9 := st8.far hGg hgP hwG hPl hne 1 (.int .i64 a)
      have hl9 := hl8.set_ 1 (.int .i64 a)
      simp at hl9
      have q0 := st9.hb.cell 0
      have q1 := hl9.cell 0
      have q2 := hl9.cell 1
      have z9 := st9.hb.lt
      simp at q0 q1 q2
      clear hl9 hl8 st8
      go_wp2_with (at_builtin; refine wpList_app2 (P := Try.prog) _ rfl _ _ 22 rfl P 31 (.agg #[.int .i64 0, .int .i64 0]) 2 16 Try.underlying22 loc_info rfl (by decide) v pre.length (lcsV pre) rfl st9.own _ (g := w8.heap.size) (by simp [World.setCell]) rfl rfl ?c1 F1.out F2.out (Nat.le_of_lt z9) ?_)
      case c1 => intro u hu; simp at hu; rcases hu with rfl | rfl <;> rfl
      intro v' w10 hown10 hgrow10 hb10
      have st10 := st9.below ((Below.refl _ _).alloc (Nat.le_refl _) (.cells #[.int .i64 d, .int .i64 a] 31))
      have st11 := st10.store hGg hgP hwG (v' := v') (pre' := pre ++ [⟨d, a⟩]) (by unfold OwnL; rw [lcsV_snoc, List.length_append]; exact hown10) hgrow10
      have hbP := st10.hb.grown hgrow10 (fun e => own_ne st10.own st10.hb (by decide) e.symm)
      have r0 := hbP.cell 0
      have r1 := hbP.frozen 0
      simp at r0
      obtain ⟨ao, n', cap, rfl⟩ : ∃ ao n' cap, v' = .slice ao n' cap := by
        rcases hown10.2 with ⟨hv, _⟩ | ⟨g, cap, cur, hv, _⟩
        · exact ⟨_, _, _, hv⟩
        · exact ⟨_, _, _, hv⟩
      simp at st11
      clear st9 st10 hbP q0 q1 q2 x0 x1 hown10 hgrow10 hb10
      go_wp2
      go_round
      case rel => exact ⟨j + 1, by omega, by go_num, _, _, rb, (readLocs m rb).1, by rw [show n - (j + 1) = m by omega, ← HRL.out.2], by rw [← HPR.out, ← HRL.out.1]; simp, by simp [HPL.out], LB.out, st11⟩
      case measure => simp [intOf]; omega
    · obtain rfl : j = n := by omega
      rw [Nat.sub_self, readLocs] at hrl
      simp only [Prod.mk.injEq] at hrl
      obtain ⟨rfl, rfl⟩ := hrl
      rw [List.append_nil] at hpr
      subst hpr
      have LJ : rj.s.length ≤ 9223372036854775807 := by omega
      have hra := num_len rj 2
      rw [H3.out] at hra
      have hrb := num_len r3 6
      rw [H4.out] at hrb
      simp only at hra hrb
      have L3 : r3.s.length ≤ 9223372036854775807 := by omega
      have L4 : r4.s.length ≤ 9223372036854775807 := by omega
      have LJ := Lib.hid LJ
      have L3 := Lib.hid L3
      have L4 := Lib.hid L4
      have HPL := Lib.hid hpl
      clear hlj hra hrb hpl HPR
      go_wp2_with fail
      refine (rnumber_to H3.out g wr st.hr LJ.out).mono ?_
      rintro e w3 ⟨rfl, hr3, k3⟩
      have st3 := st.rd hGg hgP hwG hr3 k3
      clear st hr3 k3
      have y0 := st3.hb.cell 1
      have y1 := st3.hb.frozen 1
      simp at y0
      go_wp2_with fail
      have st4 := st3.setP hGg hgP hwG 1 (.int .i64 len)
      obtain ⟨w4, hw4⟩ : ∃ x, w3.setCell ⟨P, 1, none⟩ (.int .i64 len) = x := ⟨_, rfl⟩
      rw [hw4] at st4 ⊢
      simp at st4
      clear hw4 st3 y0 y1
      refine (rnumber_to H4.out g w4 st4.hr L3.out).mono ?_
      rintro e w5 ⟨rfl, hr5, k5⟩
      have st5 := st4.rd hGg hgP hwG hr5 k5
      clear st4 hr5 k5
      have y0 := st5.hb.cell 2
      have y1 := st5.hb.frozen 2
      simp at y0
      go_wp2_with fail
      have st6 := st5.setP hGg hgP hwG 2 (.int .i64 birth)
      obtain ⟨w6, hw6⟩ : ∃ x, w5.setCell ⟨P, 2, none⟩ (.int .i64 birth) = x := ⟨_, rfl⟩
      rw [hw6] at st6 ⊢
      simp at st6
      clear hw6 st5 y0 y1
      refine (rbytes_to H5.out g w6 st6.hr L4.out).mono ?_
      rintro e w7 ⟨rfl, hr7, k7⟩
      have st7 := st6.rd hGg hgP hwG hr7 k7
      clear st6 hr7 k7
      have y0 := st7.hb.cell 3
      have y1 := st7.hb.frozen 3
      simp at y0
      go_wp2_with fail
      have st8 := st7.setP hGg hgP hwG 3 (.string (bstr sum))
      obtain ⟨w9, hw9⟩ : ∃ x, w7.setCell ⟨P, 3, none⟩ (.string (bstr sum)) = x := ⟨_, rfl⟩
      rw [hw9] at st8 ⊢
      simp at st8
      clear hw9 st7 y0 y1
      refine (rend_to HF.out g w9 st8.hr).mono ?_
      rintro e _ ⟨rfl, rfl⟩
      obtain ⟨p2, p1, p3, p4, p5⟩ := st8
      have c0 := p1.cell 0
      have c1 := p1.cell 1
      have c2 := p1.cell 2
      have c3 := p1.cell 3
      simp at c0 c1 c2 c3
      go_wp2_with fail
      refine (rcheck_to HC.out w9.heap.size w9 p5.locs (Nat.le_refl _)).mono ?_
      rintro e w10 ⟨rfl, b10⟩
      replace p2 := p2.below b10 p2.lt
      replace p4 := p4.trans (b10.mono p4.size)
      clear c0 c1 c2 c3 p1 p3 p5
      have q0 := p2.cell 0
      have q1 := p2.cell 1
      have q2 := p2.cell 2
      have q3 := p2.cell 3
      have g0 := p2.frozen 0
      have g1 := p2.frozen 1
      have g2 := p2.frozen 2
      have g3 := p2.frozen 3
      simp at q0 q1 q2 q3
      go_wp2
      refine bodyPost_ret (v := .tuple #[.agg #[.slice none 0 0, .int .i64 0, .int .i64 0, .string (bstr [])], .int .i64 3]) ?h1 rfl ?h2
      case h1 => simp [results, Try.results17, go_sem, *]
      case h2 => exact ⟨_, rfl, LocsAt.nil _ _, below_at (below_at (below_at (below_at p4 (Nat.le_of_eq hG) _ _) (Nat.le_of_eq hG) _ _) (Nat.le_of_eq hG) _ _) (Nat.le_of_eq hG) _ _⟩

set_option maxHeartbeats 2000000 in
theorem rdec_ok (s : List UInt8) (hs : s.length ≤ 140737488351232) (n : Nat) (r1s : List UInt8) (H1 : Hid (Rd.number ⟨s, 0⟩ 1 = ((n : Int), ⟨r1s, 0⟩))) (hn : 1 ≤ n) (hn2 : n ≤ 2)
    (locs : List Lc) (r2 : Rd) (H2 : Hid (readLocs n ⟨r1s, 0⟩ = (locs, r2))) (hl1 : r1s.length ≤ 140737488351232)
    (len : Int) (r3 : Rd) (H3 : Hid (r2.number 2 = (len, r3))) (birth : Int) (r4 : Rd) (H4 : Hid (r3.number 6 = (birth, r4))) (sum : List UInt8) (r5 : Rd) (H5 : Hid (r4.bytes 32 = (sum, r5)))
    (HF : Hid (r5.fin = 0)) (HC : Hid (ckE ⟨locs, len, birth, sum⟩ = 0)) (w : World) :
    Calls Try.prog 17 #[.string (bstr s)] w fun e w' => ∃ v, e = .returned (.tuple #[ptV v ⟨locs, len, birth, sum⟩, .int .i64 0]) ∧ LocsAt w'.heap.size w' v (⟨locs, len, birth, sum⟩ : Pt).locs ∧ Below w.heap.size w w' := by
  obtain ⟨i0, hi0, hz0, hz1, hz2⟩ := info_parts loc_info
  have hs' : (⟨s, 0⟩ : Rd).s.length ≤ 9223372036854775807 := Nat.le_trans hs (by decide)
  go_enter Try.func17, Try.ntmps17
  go_wp2_with fail
  obtain ⟨G, hG⟩ : ∃ g, w.heap.size = g := ⟨_, rfl⟩
  obtain ⟨w0, hw0⟩ : ∃ w0, w.alloc (.cells #[.slice none 0 0, .int .i64 0, .int .i64 0, .string ⟨#[]⟩] 24) = w0 := ⟨_, rfl⟩
  have hb0 : Blk w0 G 24 #[.slice none 0 0, .int .i64 0, .int .i64 0, .string ⟨#[]⟩] := by rw [← hw0, ← hG]; exact Blk.new _ _ _
  have k0 : Below w.heap.size w w0 := by rw [← hw0]; exact (Below.refl _ _).alloc (Nat.le_refl _) _
  have hsz : w0.heap.size = w.heap.size + 1 := by rw [← hw0]; simp
  obtain ⟨g, hg⟩ : ∃ g, w.heap.size + 1 = g := ⟨_, rfl⟩
  have hGg : G < g := by omega
  have hwg : w.heap.size ≤ g := by omega
  have hwG : w.heap.size ≤ G := by omega
  rw [hw0]
  try rw [hg]
  try rw [hG]
  obtain ⟨w1, hw1⟩ : ∃ w1, w0.alloc (.cells #[.string (bstr s), .int .i64 0] 59) = w1 := ⟨_, rfl⟩
  have b1 : Below w0.heap.size w0 w1 := by rw [← hw1]; exact (Below.refl _ _).alloc (Nat.le_refl _) _
  have hr1 : RrAt w1 g ⟨s, 0⟩ := by rw [← hw1, ← hg, ← hsz]; exact Blk.new _ _ _
  have st1 : RDecSt w G g #[.slice none 0 0, .int .i64 0, .int .i64 0, .string ⟨#[]⟩] ⟨s, 0⟩ w1 := ⟨hb0.below b1 hb0.lt, hr1, k0.trans (b1.mono k0.size)⟩
  rw [hw1]
  clear hb0 k0 hw0 hw1 b1 hr1 hg hsz
  refine (rnumber_to H1.out g w1 st1.hr hs').mono ?_
  rintro e w2 ⟨rfl, hr2, k2⟩
  have st2 := st1.rd hGg hwg hr2 k2
  clear st1 hr2 k2
  have e0 := st2.hr.cell 0
  have e1 := st2.hr.cell 1
  simp at e0 e1
  go_wp2_with fail
  obtain ⟨P, hP⟩ : ∃ g, w2.heap.size = g := ⟨_, rfl⟩
  obtain ⟨w3, hw3⟩ : ∃ w3, w2.alloc (.cells #[.slice none 0 0, .int .i64 0, .int .i64 0, .string ⟨#[]⟩] 24) = w3 := ⟨_, rfl⟩
  have hgP : g < P := by rw [← hP]; exact Blk.lt st2.hr
  have st3 : RT w G g P #[.slice none 0 0, .int .i64 0, .int .i64 0, .string ⟨#[]⟩] (.slice none 0 0) [] ⟨r1s, 0⟩ w3 := by
    have h3 := st2.below ((Below.refl _ w2).alloc (Nat.le_refl _) (.cells #[.slice none 0 0, .int .i64 0, .int .i64 0, .string ⟨#[]⟩] 24))
    rw [hw3] at h3
    exact ⟨h3.hb, by rw [← hw3, ← hP]; exact Blk.new _ _ _, h3.hr, h3.k, World.ownsRow_nil _ _ _ _⟩
  rw [hw3, hP]
  clear hw3 hP st2 e0 e1
  go_loopw [7] (fun i wr => ∃ j : Nat, j ≤ n ∧ i = .int .i64 j ∧ ∃ v pre rj rest, readLocs (n - j) rj = (rest, r2) ∧ pre ++ rest = locs ∧ pre.length = j ∧ rj.s.length ≤ 140737488351232 ∧ RT w G g P #[v, .int .i64 0, .int .i64 0, .string ⟨#[]⟩] v pre rj wr) (fun i _ => n - (intOf i).toNat)
  case atStart => exact ⟨0, by omega, rfl, _, [], ⟨r1s, 0⟩, locs, H2.out, rfl, rfl, hl1, st3⟩
  case round =>
    obtain ⟨j, hj, rfl, v, pre, rj, rest, hrl, hpr, hpl, hlj, st⟩ := hrel
    clear st3
    have HPR := Lib.hid hpr
    by_cases hlt : j < n
    · obtain ⟨m, hm⟩ : ∃ m, n - j = m + 1 := ⟨n - j - 1, by omega⟩
      rw [hm, readLocs] at hrl
      have hra := num_len rj 1
      obtain ⟨⟨d, ra⟩, hD⟩ : ∃ x, rj.number 1 = x := ⟨_, rfl⟩
      rw [hD] at hrl hra
      have hrb := num_len ra 2
      obtain ⟨⟨a, rb⟩, hA⟩ : ∃ x, ra.number 2 = x := ⟨_, rfl⟩
      rw [hA] at hrl hrb
      simp only [Prod.mk.injEq] at hrl hra hrb
      have HD := Lib.hid hD
      have HA := Lib.hid hA
      have HRL := Lib.hid hrl
      have hlj' : rj.s.length ≤ 9223372036854775807 := by omega
      have hla' : ra.s.length ≤ 9223372036854775807 := by omega
      have hlb : rb.s.length ≤ 140737488351232 := by omega
      have hfit1 : pre.length + 1 ≤ maxLen := by unfold maxLen; omega
      have hfit2 : (pre.length + 1) * 16 ≤ 140737488355328 := by omega
      have LJ := Lib.hid hlj'
      have LA := Lib.hid hla'
      have LB := Lib.hid hlb
      have F1 := Lib.hid hfit1
      have F2 := Lib.hid hfit2
      have HPL := Lib.hid hpl
      clear hD hA hrl hra hrb hlj hlj' hla' hlb hfit1 hfit2 hpl hpr
      go_wp2_with fail
      obtain ⟨gl, hgl⟩ : ∃ g, wr.heap.size = g := ⟨_, rfl⟩
      obtain ⟨w5, hw5⟩ : ∃ x, wr.alloc (.cells #[.int .i64 0, .int .i64 0] 31) = x := ⟨_, rfl⟩
      have hPl : P < gl := by rw [← hgl]; exact st.hb.lt
      have hne : v.ownBlock ≠ some gl := fun e => by have := (st.own.lt gl e).2; omega
      have hl5 : Blk w5 gl 31 #[.int .i64 0, .int .i64 0] := by rw [← hw5, ← hgl]; exact Blk.new _ _ _
      have st5 := st.below ((Below.refl _ wr).alloc (Nat.le_refl _) (.cells #[.int .i64 0, .int .i64 0] 31))
      rw [hw5] at st5 ⊢
      try rw [hgl]
      clear hw5 hgl st
      refine (rnumber_to HD.out g w5 st5.hr LJ.out).mono ?_
      rintro e w6 ⟨rfl, hr6, k6⟩
      have st6 := st5.rd hGg hgP hwG hr6 k6
      have hl6 := hl5.keep k6 hl5.lt (by omega)
      clear st5 hl5 hr6 k6
      have x0 := hl6.cell 0
      have x1 := hl6.frozen 0
      simp at x0
      go_wp2_with fail
      have st7 := st6.far hGg hgP hwG hPl hne 0 (.int .i64 d)
      have hl7 := hl6.set_ 0 (.int .i64 d)
      simp at hl7
      obtain ⟨w7, hw7⟩ : ∃ x, w6.setCell ⟨gl, 0, none⟩ (.int .i64 d) = x := ⟨_, rfl⟩
      rw [hw7] at st7 hl7 ⊢
      clear hw7 st6 hl6 x0 x1
      refine (rnumber_to HA.out g w7 st7.hr LA.out).mono ?_
      rintro e w8 ⟨rfl, hr8, k8⟩
      have st8 := st7.rd hGg hgP hwG hr8 k8
      have hl8 := hl7.keep k8 hl7.lt (by omega)
      clear st7 hl7 hr8 k8
      have x0 := hl8.cell 1
      have x1 := hl8.frozen 1
      simp at x0
      have st9 := st8.far hGg hgP hwG hPl hne 1 (.int .i64 a)
      have hl9 := hl8.set_ 1 (.int .i64 a)
      simp at hl9
      have q0 := st9.hb.cell 0
      have q1 := hl9.cell 0
      have q2 := hl9.cell 1
      have z9 := st9.hb.lt
      simp at q0 q1 q2
      clear hl9 hl8 st8
      go_wp2_with (at_builtin; refine wpList_app2 (P := Try.prog) _ rfl _ _ 22 rfl P 31 (.agg #[.int .i64 0, .int .i64 0]) 2 16 Try.underlying22 loc_info rfl (by decide) v pre.length (lcsV pre) rfl st9.own _ (g := w8.heap.size) (by simp [World.setCell]) rfl rfl ?c1 F1.out F2.out (Nat.le_of_lt z9) ?_)
      case c1 => intro u hu; simp at hu; rcases hu with rfl | rfl <;> rfl
      intro v' w10 hown10 hgrow10 hb10
      have st10 := st9.below ((Below.refl _ _).alloc (Nat.le_refl _) (.cells #[.int .i64 d, .int .i64 a] 31))
      have st11 := st10.store hGg hgP hwG (v' := v') (pre' := pre ++ [⟨d, a⟩]) (by unfold OwnL; rw [lcsV_snoc, List.length_append]; exact hown10) hgrow10
      have hbP := st10.hb.grown hgrow10 (fun e => own_ne st10.own st10.hb (by decide) e.symm)
      have r0 := hbP.cell 0
      have r1 := hbP.frozen 0
      simp at r0
      obtain ⟨ao, n', cap, rfl⟩ : ∃ ao n' cap, v' = .slice ao n' cap := by
        rcases hown10.2 with ⟨hv, _⟩ | ⟨g, cap, cur, hv, _⟩
        · exact ⟨_, _, _, hv⟩
        · exact ⟨_, _, _, hv⟩
      simp at st11
      clear st9 st10 hbP q0 q1 q2 x0 x1 hown10 hgrow10 hb10
      go_wp2
      go_round
      case rel => exact ⟨j + 1, by omega, by go_num, _, _, rb, (readLocs m rb).1, by rw [show n - (j + 1) = m by omega, ← HRL.out.2], by rw [← HPR.out, ← HRL.out.1]; simp, by simp [HPL.out], LB.out, st11⟩
      case measure => simp [intOf]; omega
    · obtain rfl : j = n := by omega
      rw [Nat.sub_self, readLocs] at hrl
      simp only [Prod.mk.injEq] at hrl
      obtain ⟨rfl, rfl⟩ := hrl
      rw [List.append_nil] at hpr
      subst hpr
      have LJ : rj.s.length ≤ 9223372036854775807 := by omega
      have hra := num_len rj 2
      rw [H3.out] at hra
      have hrb := num_len r3 6
      rw [H4.out] at hrb
      simp only at hra hrb
      have L3 : r3.s.length ≤ 9223372036854775807 := by omega
      have L4 : r4.s.length ≤ 9223372036854775807 := by omega
      have LJ := Lib.hid LJ
      have L3 := Lib.hid L3
      have L4 := Lib.hid L4
      have HPL := Lib.hid hpl
      clear hlj hra hrb hpl HPR
      go_wp2_with fail
      refine (rnumber_to H3.out g wr st.hr LJ.out).mono ?_
      rintro e w3 ⟨rfl, hr3, k3⟩
      have st3 := st.rd hGg hgP hwG hr3 k3
      clear st hr3 k3
      have y0 := st3.hb.cell 1
      have y1 := st3.hb.frozen 1
      simp at y0
      go_wp2_with fail
      have st4 := st3.setP hGg hgP hwG 1 (.int .i64 len)
      obtain ⟨w4, hw4⟩ : ∃ x, w3.setCell ⟨P, 1, none⟩ (.int .i64 len) = x := ⟨_, rfl⟩
      rw [hw4] at st4 ⊢
      simp at st4
      clear hw4 st3 y0 y1
      refine (rnumber_to H4.out g w4 st4.hr L3.out).mono ?_
      rintro e w5 ⟨rfl, hr5, k5⟩
      have st5 := st4.rd hGg hgP hwG hr5 k5
      clear st4 hr5 k5
      have y0 := st5.hb.cell 2
      have y1 := st5.hb.frozen 2
      simp at y0
      go_wp2_with fail
      have st6 := st5.setP hGg hgP hwG 2 (.int .i64 birth)
      obtain ⟨w6, hw6⟩ : ∃ x, w5.setCell ⟨P, 2, none⟩ (.int .i64 birth) = x := ⟨_, rfl⟩
      rw [hw6] at st6 ⊢
      simp at st6
      clear hw6 st5 y0 y1
      refine (rbytes_to H5.out g w6 st6.hr L4.out).mono ?_
      rintro e w7 ⟨rfl, hr7, k7⟩
      have st7 := st6.rd hGg hgP hwG hr7 k7
      clear st6 hr7 k7
      have y0 := st7.hb.cell 3
      have y1 := st7.hb.frozen 3
      simp at y0
      go_wp2_with fail
      have st8 := st7.setP hGg hgP hwG 3 (.string (bstr sum))
      obtain ⟨w9, hw9⟩ : ∃ x, w7.setCell ⟨P, 3, none⟩ (.string (bstr sum)) = x := ⟨_, rfl⟩
      rw [hw9] at st8 ⊢
      simp at st8
      clear hw9 st7 y0 y1
      refine (rend_to HF.out g w9 st8.hr).mono ?_
      rintro e _ ⟨rfl, rfl⟩
      obtain ⟨p2, p1, p3, p4, p5⟩ := st8
      obtain ⟨Av, cv, rfl, hcv, hcv2⟩ := p5.locs.form
      have c0 := p1.cell 0
      have c1 := p1.cell 1
      have c2 := p1.cell 2
      have c3 := p1.cell 3
      simp at c0 c1 c2 c3
      go_wp2_with fail
      refine (rcheck_to HC.out w9.heap.size w9 p5.locs (Nat.le_refl _)).mono ?_
      rintro e w10 ⟨rfl, b10⟩
      replace p1 := p1.below b10 p1.lt
      replace p2 := p2.below b10 p2.lt
      replace p4 := p4.trans (b10.mono p4.size)
      replace p5 := own_below p5 b10
      clear c0 c1 c2 c3 p3
      have c0 := p1.cell 0
      have c1 := p1.cell 1
      have c2 := p1.cell 2
      have c3 := p1.cell 3
      simp at c0 c1 c2 c3
      have q0 := p2.cell 0
      have q1 := p2.cell 1
      have q2 := p2.cell 2
      have q3 := p2.cell 3
      have g0 := p2.frozen 0
      have g1 := p2.frozen 1
      have g2 := p2.frozen 2
      have g3 := p2.frozen 3
      simp at q0 q1 q2 q3
      go_wp2
      refine bodyPost_ret (v := .tuple #[.agg #[.slice Av pre.length cv, .int .i64 len, .int .i64 birth, .string (bstr sum)], .int .i64 0]) ?h1 rfl ?h2
      case h1 => simp [results, Try.results17, go_sem, *]
      case h2 => exact ⟨_, rfl, OwnL.locs (own_set (own_set (own_set (own_set p5 (own_ne p5 p2 (by decide)) _) (own_ne p5 p2 (by decide)) _) (own_ne p5 p2 (by decide)) _) (own_ne p5 p2 (by decide)) _), below_at (below_at (below_at (below_at p4 (Nat.le_of_eq hG) _ _) (Nat.le_of_eq hG) _ _) (Nat.le_of_eq hG) _ _) (Nat.le_of_eq hG) _ _⟩


theorem rdec_any (s : List UInt8) (hs : s.length ≤ 140737488351232) (w : World) :
    Calls Try.prog 17 #[.string (bstr s)] w fun e w' => ∃ v, e = .returned (.tuple #[ptV v (decP s).1, .int .i64 (decP s).2]) ∧ LocsAt w'.heap.size w' v (decP s).1.locs ∧ Below w.heap.size w w' := by
  have hl1 := num_len ⟨s, 0⟩ 1
  have h0 : 0 ≤ (Rd.number ⟨s, 0⟩ 1).1 := by unfold Rd.number; simp
  rcases s with _ | ⟨x, t⟩
  · have e : decP [] = (⟨[], 0, 0, []⟩, 2) := by decide +kernel
    rw [e]
    exact rdec_emp [] hs rfl w
  have e1 : Rd.number ⟨x :: t, 0⟩ 1 = ((x.toNat : Int), ⟨t, 0⟩) := by
    have := Rd.number_app [x] t 1 rfl (by decide) (by decide)
    simpa [leN] using this
  obtain ⟨s, hse⟩ : ∃ s, x :: t = s := ⟨_, rfl⟩
  have hemp : s.isEmpty = false := by rw [← hse]; rfl
  rw [hse] at e1 hl1 h0 hs ⊢
  unfold decP
  rw [e1, hemp]
  simp only at hl1 h0 ⊢
  rw [e1] at hl1
  simp only at hl1
  obtain ⟨m, hm⟩ : ∃ m, x.toNat = m := ⟨_, rfl⟩
  rw [hm] at e1 ⊢
  by_cases hg : ((m : Int) < 1 ∨ 2 < (m : Int))
  · rw [if_pos ⟨trivial, hg⟩]
    exact rdec_form s hs m t e1 hg w
  · rw [if_neg (fun e => hg e.2)]
    simp only [Int.toNat_natCast]
    obtain ⟨⟨locs, r2⟩, h2⟩ : ∃ x, readLocs m ⟨t, 0⟩ = x := ⟨_, rfl⟩
    rw [h2]; simp only
    obtain ⟨⟨len, r3⟩, h3⟩ : ∃ x, r2.number 2 = x := ⟨_, rfl⟩
    rw [h3]; simp only
    obtain ⟨⟨birth, r4⟩, h4⟩ : ∃ x, r3.number 6 = x := ⟨_, rfl⟩
    rw [h4]; simp only
    obtain ⟨⟨sum, r5⟩, h5⟩ : ∃ x, r4.bytes 32 = x := ⟨_, rfl⟩
    rw [h5]; simp only
    have hl : t.length ≤ 140737488351232 := by omega
    have hm1 : 1 ≤ m := by omega
    have hm2 : m ≤ 2 := by omega
    by_cases hf : r5.fin = 0
    · rw [if_neg (by simp [hf])]
      rcases ckE_cases ⟨locs, len, birth, sum⟩ with hc | hc
      · rw [if_pos hc]
        exact rdec_ok s hs m t e1 hm1 hm2 locs r2 h2 hl len r3 h3 birth r4 h4 sum r5 h5 hf hc w
      · rw [if_neg (by rw [hc]; decide)]
        exact rdec_bad s hs m t e1 hm1 hm2 locs r2 h2 hl len r3 h3 birth r4 h4 sum r5 h5 hf hc w
    · rw [if_pos hf]
      exact rdec_end s hs m t e1 hm1 hm2 locs r2 h2 hl len r3 h3 birth r4 h4 sum r5 h5 r5.fin rfl (by simp [hf]) w
theorem rdec_to {s : List UInt8} {p : Pt} {e0 : Int} (h : decP s = (p, e0)) (hs : s.length ≤ 140737488351232) (w : World) :
    Calls Try.prog 17 #[.string (bstr s)] w fun e w' => ∃ v, e = .returned (.tuple #[ptV v p, .int .i64 e0]) ∧ LocsAt w'.heap.size w' v p.locs ∧ Below w.heap.size w w' := by
  have := rdec_any s hs w
  rw [h] at this
  exact this

end Go.Proofs.Ytnjbhooogfonbaa
