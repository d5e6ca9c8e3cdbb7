/- Encode of a pointer: the program's, the reference's. -/
import Derived.Test.YtnjbhooogfonbaaPt3
import Derived.Test.YtnjbhooogfonbaaBl
namespace Go.Proofs.Ytnjbhooogfonbaa
open Go.RowKit
set_option linter.unusedSimpArgs false
set_option linter.unnecessarySimpa false
set_option linter.unusedVariables false

def locL (l : Lc) : List UInt8 := putL l.dev 1 ++ putL l.pos 2
def locsL (l : List Lc) : List UInt8 := l.flatMap locL
def encP (p : Pt) : List UInt8 := putL p.locs.length 1 ++ locsL p.locs ++ (putL p.len 2 ++ putL p.birth 6 ++ p.sum)
def ckE (p : Pt) : Int := checkE p.locs p.len p.birth p.sum
def encO (p : Pt) : List UInt8 := if ckE p = 0 then encP p else []
/-- while a text is built: the argument's box, the builder, the frame -/
structure EncSt (w : World) (G g : Nat) (t : TypeId) (cs : Array Value) (l : List UInt8) (w' : World) : Prop where
  hb : Blk w' G t cs
  bl : BlAt g w' g l
  k : Below w.heap.size w w'
  gz : g ≤ w'.heap.size
theorem EncSt.below {w w1 w2 : World} {G g : Nat} {t : TypeId} {cs : Array Value} {l : List UInt8} (h : EncSt w G g t cs l w1) (b : Below w1.heap.size w1 w2) : EncSt w G g t cs l w2 :=
  ⟨h.hb.below b h.hb.lt, h.bl.below b, h.k.trans (b.mono h.k.size), Nat.le_trans h.gz b.size⟩
theorem EncSt.alloc {w w1 : World} {G g : Nat} {t : TypeId} {cs : Array Value} {l : List UInt8} (h : EncSt w G g t cs l w1) (o : Obj) : EncSt w G g t cs l (w1.alloc o) :=
  h.below ((Below.refl _ _).alloc (Nat.le_refl _) o)
theorem EncSt.put {w w1 w2 : World} {G g : Nat} {t : TypeId} {cs : Array Value} {l l' : List UInt8} (h : EncSt w G g t cs l w1) (hG : G < g) (hw : w.heap.size ≤ g) (bl : BlAt g w2 g l') (b : Below g w1 w2) : EncSt w G g t cs l' w2 :=
  ⟨h.hb.below b hG, bl, h.k.trans (b.mono hw), Nat.le_trans h.gz b.size⟩
theorem ckE_cases (p : Pt) : ckE p = 0 ∨ ckE p = 1 := by
  unfold ckE checkE
  split
  · exact .inr rfl
  · exact .inl rfl
theorem check_to {p : Pt} {v : Value} {e0 : Int} (h : ckE p = e0) (B : Nat) (w : World) (hv : LocsAt B w v p.locs) (hB : B ≤ w.heap.size) :
    Calls Try.prog 13 #[ptV v p] w fun e w' => e = .returned (.int .i64 e0) ∧ Below w.heap.size w w' := by
  subst h; exact check_any v p.locs p.len p.birth p.sum B w hv hB
theorem ok_facts {p : Pt} (h : ckE p = 0) : p.locs.length ≤ 2 ∧ 1 ≤ p.locs.length ∧ p.sum.length = 32 ∧ p.locs.any badLoc = false ∧ same2 p.locs = false ∧ inI p.len 960 = true ∧ inI p.birth 1099511627776 = true := by
  unfold ckE checkE at h
  split at h
  · exact absurd h (by decide)
  · rename_i hn
    simp only [Bool.or_eq_true, decide_eq_true_eq, not_or, Bool.not_eq_true', Bool.not_eq_true, decide_eq_false_iff_not, Bool.not_eq_false] at hn
    obtain ⟨h1, h2, h3, h4, h5, h6, h7⟩ := hn
    exact ⟨by omega, by omega, by simpa using h7, by simpa using h1, by simpa using h4, by simpa using h5, by simpa using h6⟩
theorem locsL_snoc (l : List Lc) (k : Nat) (hk : k < l.length) : locsL (l.take (k + 1)) = locsL (l.take k) ++ locL l[k] := by
  unfold locsL
  rw [List.take_succ_eq_append_getElem hk, List.flatMap_append]
  simp
theorem locL_len (l : Lc) : (locL l).length ≤ 14 := by
  have h1 := putL_len l.dev 1
  have h2 := putL_len l.pos 2
  simp [locL]; omega
theorem locsL_len (l : List Lc) : (locsL l).length ≤ 14 * l.length := by
  induction l with
  | nil => simp [locsL]
  | cons a l ih =>
    have := locL_len a
    simp only [locsL, List.flatMap_cons, List.length_append, List.length_cons] at ih ⊢
    omega

theorem put1 {n : Int} (h0 : 0 ≤ n) (h1 : n ≤ 255) : ∃ x, putL n 1 = [x] := by
  have e : putL n 1 = leB n.toNat 1 := by
    unfold putL
    rw [if_neg (by omega), show mostI 1 = 255 from rfl, if_neg (by omega)]
    rfl
  exact ⟨_, e⟩
theorem put2 {n : Int} (h0 : 0 ≤ n) (h1 : n ≤ 65535) : ∃ x y, putL n 2 = [x, y] := by
  have e : putL n 2 = leB n.toNat 2 := by
    unfold putL
    rw [if_neg (by omega), show mostI 2 = 65535 from rfl, if_neg (by omega)]
    rfl
  exact ⟨_, _, e⟩
theorem put6 {n : Int} (h0 : 0 ≤ n) (h1 : n ≤ 1099511627776) : ∃ x0 x1 x2 x3 x4 x5, putL n 6 = [x0, x1, x2, x3, x4, x5] := by
  have e : putL n 6 = leB n.toNat 6 := by
    unfold putL
    rw [if_neg (by omega), show mostI 6 = 281474976710655 from rfl, if_neg (by omega)]
    rfl
  exact ⟨_, _, _, _, _, _, e⟩
theorem good_loc {l : Lc} (h : badLoc l = false) : 0 ≤ l.dev ∧ l.dev ≤ 1 ∧ 0 ≤ l.pos ∧ l.pos ≤ 511 := by
  simp [badLoc, inI] at h
  omega
theorem loc_ok {l : List Lc} (h : l.any badLoc = false) (k : Nat) (hk : k < l.length) : badLoc l[k] = false := by
  simpa using List.any_eq_false.1 h l[k] (List.getElem_mem hk)
theorem locL_len3 {l : Lc} (h : badLoc l = false) : (locL l).length = 3 := by
  obtain ⟨g1, g2, g3, g4⟩ := good_loc h
  obtain ⟨x0, e0⟩ := put1 g1 (by omega)
  obtain ⟨x1, x2, e1⟩ := put2 g3 (by omega)
  simp [locL, e0, e1]
theorem locsL_len3 : ∀ {l : List Lc}, l.any badLoc = false → (locsL l).length = 3 * l.length
  | [], _ => rfl
  | a :: l, h => by
    simp only [List.any_cons, Bool.or_eq_false_iff] at h
    have h1 := locL_len3 h.1
    have h2 := locsL_len3 h.2
    simp only [locsL, List.flatMap_cons, List.length_append, List.length_cons] at h2 ⊢
    omega
theorem any_take {l : List Lc} (h : l.any badLoc = false) (k : Nat) : (l.take k).any badLoc = false := by
  rw [List.any_eq_false] at h ⊢
  exact fun x hx => h x (List.mem_of_mem_take hx)
theorem pput_to {n wd : Int} {q : List UInt8} (h : putL n wd = q) (w : World) :
    Calls Try.prog 21 #[.int .i64 n, .int .i64 wd] w fun e w' => e = .returned (.string (bstr q)) ∧ Below w.heap.size w w' := by subst h; exact put_any n wd w
set_option maxHeartbeats 2000000 in
theorem enc_bad (v : Value) (p : Pt) (hp : Hid (ckE p = 1)) (B : Nat) (w : World) (hv : LocsAt B w v p.locs) (hB : B ≤ w.heap.size) :
    Calls Try.prog 11 #[ptV v p] w fun e w' => e = .returned (.tuple #[.string (bstr []), .int .i64 1]) ∧ Below w.heap.size w w' := by
  obtain ⟨A, c, rfl, hc, hm⟩ := hv.form
  go_enter Try.func11, Try.ntmps11
  go_wp2_with fail
  obtain ⟨G, hG⟩ : ∃ g, w.heap.size = g := ⟨_, rfl⟩
  obtain ⟨w0, hw0⟩ : ∃ w0, w.alloc (.cells #[.slice A p.locs.length c, .int .i64 p.len, .int .i64 p.birth, .string (bstr p.sum)] 24) = w0 := ⟨_, rfl⟩
  have hb0 : Blk w0 G 24 #[.slice A p.locs.length c, .int .i64 p.len, .int .i64 p.birth, .string (bstr p.sum)] := by rw [← hw0, ← hG]; exact Blk.new _ _ _
  have k0 : Below w.heap.size w w0 := by rw [← hw0]; exact (Below.refl _ _).alloc (Nat.le_refl _) _
  have hv0 := hv.keep (k0.mono hB) (Nat.le_refl _)
  have z0 := k0.size
  rw [hw0, hG]
  refine (check_to hp.out B _ hv0 (by omega)).mono ?_
  rintro e w1 ⟨rfl, b1⟩
  have hb1 := hb0.below b1 hb0.lt
  have k1 := k0.trans (b1.mono z0)
  have z1 := k1.size
  clear b1 hb0 k0 z0 hw0 hv0
  go_wp2
  exact bodyPost_ret (v := .tuple #[.string (bstr []), .int .i64 1]) (by simp [results, Try.results11, go_sem]) rfl ⟨rfl, k1⟩
set_option maxHeartbeats 4000000 in
theorem enc_ok (v : Value) (p : Pt) (hp : Hid (ckE p = 0)) (B : Nat) (w : World) (hv : LocsAt B w v p.locs) (hB : B ≤ w.heap.size) :
    Calls Try.prog 11 #[ptV v p] w fun e w' => e = .returned (.tuple #[.string (bstr (encP p)), .int .i64 0]) ∧ Below w.heap.size w w' := by
  obtain ⟨hl2, hl1, hs32, hbad, -, hin1, hin2⟩ := ok_facts hp.out
  obtain ⟨A, c, rfl, hc, hm⟩ := hv.form
  go_enter Try.func11, Try.ntmps11
  go_wp2_with fail
  obtain ⟨G, hG⟩ : ∃ g, w.heap.size = g := ⟨_, rfl⟩
  obtain ⟨w0, hw0⟩ : ∃ w0, w.alloc (.cells #[.slice A p.locs.length c, .int .i64 p.len, .int .i64 p.birth, .string (bstr p.sum)] 24) = w0 := ⟨_, rfl⟩
  have hb0 : Blk w0 G 24 #[.slice A p.locs.length c, .int .i64 p.len, .int .i64 p.birth, .string (bstr p.sum)] := by rw [← hw0, ← hG]; exact Blk.new _ _ _
  have k0 : Below w.heap.size w w0 := by rw [← hw0]; exact (Below.refl _ _).alloc (Nat.le_refl _) _
  have hv0 := hv.keep (k0.mono hB) (Nat.le_refl _)
  have z0 := k0.size
  rw [hw0, hG]
  refine (check_to hp.out B _ hv0 (by omega)).mono ?_
  rintro e w1 ⟨rfl, b1⟩
  have hb1 := hb0.below b1 hb0.lt
  have k1 := k0.trans (b1.mono z0)
  have z1 := k1.size
  clear b1 hb0 k0 z0 hw0 hv0
  have c0 := hb1.cell 0
  simp at c0
  have c0a : ∀ o, (w1.alloc o).cell? ⟨G, 0, none⟩ = some (.slice A p.locs.length c) := fun o => alloc_cell c0 hb1.lt o
  go_wp2_with fail
  obtain ⟨g, hg⟩ : ∃ g, w1.heap.size = g := ⟨_, rfl⟩
  obtain ⟨w2, hw2⟩ : ∃ w2, w1.alloc (.cells #[.pointer none, .slice none 0 0] 42) = w2 := ⟨_, rfl⟩
  have hb2 : Blk w2 G 24 #[.slice A p.locs.length c, .int .i64 p.len, .int .i64 p.birth, .string (bstr p.sum)] := by rw [← hw2]; exact hb1.alloc _
  have hl2b : BlAt g w2 g [] := by rw [← hw2, ← hg]; exact BlAt.new _
  have k2 : Below w.heap.size w w2 := by rw [← hw2]; exact k1.alloc z1 _
  have hGg : G < g := by rw [← hg]; exact hb1.lt
  have z2 := k2.size
  have hwg : w.heap.size ≤ g := by omega
  have hgz : g ≤ w2.heap.size := by rw [← hw2, ← hg]; simp
  rw [hw2, hg]
  clear hw2 hb1 k1 z1 c0 hg c0a
  refine (put_any _ _ _).mono ?_
  rintro e w3 ⟨rfl, b3⟩
  have st2 : EncSt w G g 24 #[.slice A p.locs.length c, .int .i64 p.len, .int .i64 p.birth, .string (bstr p.sum)] [] w2 := ⟨hb2, hl2b, k2, hgz⟩
  have st3 := st2.below b3
  clear st2 b3 hb2 hl2b k2 hgz z2
  have hp1 := putL_len p.locs.length 1
  go_wp2_with fail
  refine (wstr_any g g [] _ _ st3.bl (by simp; omega) st3.gz).mono ?_
  rintro e w4 ⟨rfl, bl4, b4, -⟩
  have st4 := st3.put hGg hwg bl4 b4
  clear st3 bl4 b4
  have c0 := st4.hb.cell 0
  simp at c0
  go_wp2_with fail
  go_loopw [21] (fun i wr => ∃ k : Nat, k ≤ p.locs.length ∧ i = .int .i64 k ∧ EncSt w G g 24 #[.slice A p.locs.length c, .int .i64 p.len, .int .i64 p.birth, .string (bstr p.sum)] (putL p.locs.length 1 ++ locsL (p.locs.take k)) wr) (fun i _ => p.locs.length - (intOf i).toNat)
  case atStart => exact ⟨0, by omega, rfl, by simpa [locsL] using st4⟩
  case round =>
    obtain ⟨k, hk, rfl, st⟩ := hrel
    clear st4
    have hv2 := hv.keep (st.k.mono hB) (Nat.le_refl _)
    have hcat := locsL_len (p.locs.take k)
    by_cases hlt : k < p.locs.length
    · obtain ⟨ad, rfl, had, hx, hy⟩ := hv2.get k hlt
      obtain ⟨g1, g2, g3, g4⟩ := good_loc (loc_ok hbad k hlt)
      obtain ⟨x0, e0⟩ := put1 g1 (by omega)
      obtain ⟨x1, x2, e1⟩ := put2 g3 (by omega)
      have E0 := Lib.hid e0
      have E1 := Lib.hid e1
      have hloc : locL p.locs[k] = [x0, x1, x2] := by simp [locL, e0, e1]
      have HLOC := Lib.hid hloc
      have hfit : (putL p.locs.length 1 ++ locsL (p.locs.take k)).length + [x0, x1, x2].length ≤ 140737488355328 := by
        rw [List.length_take] at hcat
        simp only [List.length_append, List.length_cons, List.length_nil]
        omega
      clear e0 e1 hloc
      go_wp2_with fail
      obtain ⟨gl, hgl⟩ : ∃ g, wr.heap.size = g := ⟨_, rfl⟩
      obtain ⟨w5, hw5⟩ : ∃ w5, wr.alloc (.cells #[.int .i64 p.locs[k].dev, .int .i64 p.locs[k].pos] 31) = w5 := ⟨_, rfl⟩
      have hb5 : Blk w5 gl 31 #[.int .i64 p.locs[k].dev, .int .i64 p.locs[k].pos] := by rw [← hw5, ← hgl]; exact Blk.new _ _ _
      have st5 := st.alloc (.cells #[.int .i64 p.locs[k].dev, .int .i64 p.locs[k].pos] 31)
      rw [hw5] at st5
      rw [hw5, hgl]
      clear hw5 hgl hx hy
      have y0 := hb5.cell 0
      have y1 := hb5.cell 1
      simp at y0 y1
      go_region_held3 (fun w' => w'.cell? ⟨gl, 0, none⟩ = some (.int .i64 p.locs[k].dev) ∧ w'.cell? ⟨gl, 1, none⟩ = some (.int .i64 p.locs[k].pos))
        (first | exact ⟨r0, r1⟩ | exact ⟨v0, v1⟩ | exact ⟨u0, u1⟩ | exact ⟨y0, y1⟩ | go_keep)
        (first
        | (go_at_call 21; refine (pput_to E1.out w6).mono ?_; rintro e w7 ⟨rfl, b7⟩; have hb7 := hb6.below b7 hb6.lt; have st7 := st6.below b7; have v0 := hb7.cell 0; have v1 := hb7.cell 1; simp at v0 v1)
        | (go_at_call 21; refine (pput_to E0.out w5.drew).mono ?_; rintro e w6 ⟨rfl, b6⟩; have hb6 := hb5.below b6.fromDrew hb5.lt; have st6 := st5.below b6.fromDrew; have u0 := hb6.cell 0; have u1 := hb6.cell 1; simp at u0 u1)
        | (go_at_call 20; refine (wstr_any g g _ [x0, x1, x2] w7 st7.bl hfit st7.gz).mono ?_; rintro e w8 ⟨rfl, bl8, b8, o8⟩; have st8 := st7.put hGg hwg bl8 b8; have hb8 := o8 _ _ _ (by decide) (by decide) hb7; have r0 := hb8.cell 0; have r1 := hb8.cell 1; simp at r0 r1))
      go_wp2
      go_round
      case rel => exact ⟨k + 1, by omega, by go_num, by rw [locsL_snoc _ _ hlt, HLOC.out, ← List.append_assoc]; exact st8⟩
      case measure => simp [intOf]; omega
    · obtain rfl : k = p.locs.length := by omega
      rw [List.take_length] at st hcat
      simp only [inI, Bool.and_eq_true, decide_eq_true_eq] at hin1 hin2
      obtain ⟨x0, x1, e1⟩ := put2 hin1.1 (by omega)
      obtain ⟨z0, z1, z2, z3, z4, z5, e2⟩ := put6 hin2.1 hin2.2
      have hgoal : encP p = putL p.locs.length 1 ++ locsL p.locs ++ ([x0, x1] ++ [z0, z1, z2, z3, z4, z5] ++ p.sum) := by unfold encP; rw [e1, e2]
      have HG := Lib.hid hgoal
      have E1 := Lib.hid e1
      have E2 := Lib.hid e2
      have hfit : (putL p.locs.length 1 ++ locsL p.locs).length + ([x0, x1] ++ [z0, z1, z2, z3, z4, z5] ++ p.sum).length ≤ 140737488355328 := by
        simp only [List.length_append, List.length_cons, List.length_nil]
        omega
      clear e1 e2 hgoal
      have y1 := st.hb.cell 1
      have y2 := st.hb.cell 2
      have y3 := st.hb.cell 3
      simp at y1 y2 y3
      go_wp2_with fail
      go_region_held3 (fun w' => w'.cell? ⟨G, 1, none⟩ = some (.int .i64 p.len) ∧ w'.cell? ⟨G, 2, none⟩ = some (.int .i64 p.birth) ∧ w'.cell? ⟨G, 3, none⟩ = some (.string (bstr p.sum)))
        (first | exact ⟨r1, r2, r3⟩ | exact ⟨v1, v2, v3⟩ | exact ⟨u1, u2, u3⟩ | exact ⟨y1, y2, y3⟩ | go_keep)
        (first
        | (go_at_call 21; refine (pput_to E2.out w6).mono ?_; rintro e w7 ⟨rfl, b7⟩; have st7 := st6.below b7; have v1 := st7.hb.cell 1; have v2 := st7.hb.cell 2; have v3 := st7.hb.cell 3; simp at v1 v2 v3)
        | (go_at_call 21; refine (pput_to E1.out wr.drew).mono ?_; rintro e w6 ⟨rfl, b6⟩; have st6 := st.below b6.fromDrew; have u1 := st6.hb.cell 1; have u2 := st6.hb.cell 2; have u3 := st6.hb.cell 3; simp at u1 u2 u3)
        | (go_at_call 20; refine (wstr_any g g _ ([x0, x1] ++ [z0, z1, z2, z3, z4, z5] ++ p.sum) w7 st7.bl hfit st7.gz).mono ?_; rintro e w8 ⟨rfl, bl8, b8, o8⟩; have st8 := st7.put hGg hwg bl8 b8; have r1 := st8.hb.cell 1; have r2 := st8.hb.cell 2; have r3 := st8.hb.cell 3; simp at r1 r2 r3))
      go_wp2_with fail
      refine (bstring_any g g _ _ st8.bl st8.gz).mono ?_
      rintro e w9 ⟨rfl, b9⟩
      have k9 := st8.k.trans (b9.mono hwg)
      go_wp2
      rw [HG.out]
      exact bodyPost_ret (v := .tuple #[.string (bstr (putL p.locs.length 1 ++ locsL p.locs ++ ([x0, x1] ++ [z0, z1, z2, z3, z4, z5] ++ p.sum))), .int .i64 0]) (by simp [results, Try.results11, go_sem]) rfl ⟨rfl, k9⟩

theorem rcheck_to {p : Pt} {v : Value} {e0 : Int} (h : ckE p = e0) (B : Nat) (w : World) (hv : LocsAt B w v p.locs) (hB : B ≤ w.heap.size) :
    Calls Try.prog 14 #[ptV v p] w fun e w' => e = .returned (.int .i64 e0) ∧ Below w.heap.size w w' := by
  subst h; exact rcheck_any v p B w hv hB
theorem rpput_to {n wd : Int} {q : List UInt8} (h : putL n wd = q) (w : World) :
    Calls Try.prog 23 #[.int .i64 n, .int .i64 wd] w fun e w' => e = .returned (.string (bstr q)) ∧ Below w.heap.size w w' := by subst h; exact rput_any n wd w
set_option maxHeartbeats 2000000 in
theorem renc_bad (v : Value) (p : Pt) (hp : Hid (ckE p = 1)) (B : Nat) (w : World) (hv : LocsAt B w v p.locs) (hB : B ≤ w.heap.size) :
    Calls Try.prog 12 #[ptV v p] w fun e w' => e = .returned (.tuple #[.string (bstr []), .int .i64 1]) ∧ Below w.heap.size w w' := by
  obtain ⟨A, c, rfl, hc, hm⟩ := hv.form
  go_enter Try.func12, Try.ntmps12
  go_wp2_with fail
  obtain ⟨G, hG⟩ : ∃ g, w.heap.size = g := ⟨_, rfl⟩
  obtain ⟨w0, hw0⟩ : ∃ w0, w.alloc (.cells #[.slice A p.locs.length c, .int .i64 p.len, .int .i64 p.birth, .string (bstr p.sum)] 24) = w0 := ⟨_, rfl⟩
  have hb0 : Blk w0 G 24 #[.slice A p.locs.length c, .int .i64 p.len, .int .i64 p.birth, .string (bstr p.sum)] := by rw [← hw0, ← hG]; exact Blk.new _ _ _
  have k0 : Below w.heap.size w w0 := by rw [← hw0]; exact (Below.refl _ _).alloc (Nat.le_refl _) _
  have hv0 := hv.keep (k0.mono hB) (Nat.le_refl _)
  have z0 := k0.size
  rw [hw0, hG]
  refine (rcheck_to hp.out B _ hv0 (by omega)).mono ?_
  rintro e w1 ⟨rfl, b1⟩
  have hb1 := hb0.below b1 hb0.lt
  have k1 := k0.trans (b1.mono z0)
  have z1 := k1.size
  clear b1 hb0 k0 z0 hw0 hv0
  go_wp2
  exact bodyPost_ret (v := .tuple #[.string (bstr []), .int .i64 1]) (by simp [results, Try.results12, go_sem]) rfl ⟨rfl, k1⟩

set_option maxHeartbeats 4000000 in
theorem renc_ok (v : Value) (p : Pt) (hp : Hid (ckE p = 0)) (B : Nat) (w : World) (hv : LocsAt B w v p.locs) (hB : B ≤ w.heap.size) :
    Calls Try.prog 12 #[ptV v p] w fun e w' => e = .returned (.tuple #[.string (bstr (encP p)), .int .i64 0]) ∧ Below w.heap.size w w' := by
  obtain ⟨hl2, hl1, hs32, hbad, -, hin1, hin2⟩ := ok_facts hp.out
  obtain ⟨A, c, rfl, hc, hm⟩ := hv.form
  go_enter Try.func12, Try.ntmps12
  go_wp2_with fail
  obtain ⟨G, hG⟩ : ∃ g, w.heap.size = g := ⟨_, rfl⟩
  obtain ⟨w0, hw0⟩ : ∃ w0, w.alloc (.cells #[.slice A p.locs.length c, .int .i64 p.len, .int .i64 p.birth, .string (bstr p.sum)] 24) = w0 := ⟨_, rfl⟩
  have hb0 : Blk w0 G 24 #[.slice A p.locs.length c, .int .i64 p.len, .int .i64 p.birth, .string (bstr p.sum)] := by rw [← hw0, ← hG]; exact Blk.new _ _ _
  have k0 : Below w.heap.size w w0 := by rw [← hw0]; exact (Below.refl _ _).alloc (Nat.le_refl _) _
  have hv0 := hv.keep (k0.mono hB) (Nat.le_refl _)
  have z0 := k0.size
  rw [hw0, hG]
  refine (rcheck_to hp.out B _ hv0 (by omega)).mono ?_
  rintro e w1 ⟨rfl, b1⟩
  have hb1 := hb0.below b1 hb0.lt
  have k1 := k0.trans (b1.mono z0)
  have z1 := k1.size
  clear b1 hb0 k0 z0 hw0 hv0
  have c0 := hb1.cell 0
  simp at c0
  go_wp2_with fail
  refine (rput_any _ _ _).mono ?_
  rintro e w2 ⟨rfl, b2⟩
  have hb2 := hb1.below b2 hb1.lt
  have k2 := k1.trans (b2.mono z1)
  clear b2 hb1 k1 z1 c0
  have c0 := hb2.cell 0
  simp at c0
  have hp1 := putL_len p.locs.length 1
  go_wp2_with fail
  go_loopw [5, 6] (fun s i wr => ∃ k : Nat, k ≤ p.locs.length ∧ i = .int .i64 k ∧ s = .string (bstr (putL p.locs.length 1 ++ locsL (p.locs.take k))) ∧ Blk wr G 24 #[.slice A p.locs.length c, .int .i64 p.len, .int .i64 p.birth, .string (bstr p.sum)] ∧ Below w.heap.size w wr) (fun _ i _ => p.locs.length - (intOf i).toNat)
  case atStart => exact ⟨0, by omega, rfl, by simp [locsL], hb2, k2⟩
  case round =>
    obtain ⟨k, hk, rfl, rfl, hb, hbel⟩ := hrel
    clear hb2 k2 c0
    have hv2 := hv.keep (hbel.mono hB) (Nat.le_refl _)
    have hsz := hbel.size
    have hcat := locsL_len (p.locs.take k)
    have hcat2 : (putL p.locs.length 1 ++ locsL (p.locs.take k)).length ≤ 100 := by
      rw [List.length_take] at hcat
      simp only [List.length_append]
      omega
    obtain ⟨S0, hS0⟩ : ∃ q, putL p.locs.length 1 ++ locsL (p.locs.take k) = q := ⟨_, rfl⟩
    have hS3 : S0.length = 1 + 3 * k := by
      rw [← hS0, List.length_append, locsL_len3 (any_take hbad k), List.length_take]
      obtain ⟨x, e⟩ := put1 (n := (p.locs.length : Int)) (by omega) (by omega)
      rw [e]
      simp; omega
    rw [hS0]
    have HS0 := Lib.hid hS0
    clear hS0 hcat hcat2
    have c0 := hb.cell 0
    simp at c0
    by_cases hlt : k < p.locs.length
    · obtain ⟨ad, rfl, had, hx, hy⟩ := hv2.get k hlt
      obtain ⟨g1, g2, g3, g4⟩ := good_loc (loc_ok hbad k hlt)
      obtain ⟨x0, e0⟩ := put1 g1 (by omega)
      obtain ⟨x1, x2, e1⟩ := put2 g3 (by omega)
      have E0 := Lib.hid e0
      have E1 := Lib.hid e1
      have hloc : locL p.locs[k] = [x0, x1, x2] := by simp [locL, e0, e1]
      have HLOC := Lib.hid hloc
      have hab : (ad.add (k * 2)).block < wr.heap.size := by unfold Addr.add; split <;> (show ad.block < wr.heap.size; omega)
      clear e0 e1 hloc
      have hlen : S0.length = 1 ∨ S0.length = 4 := by omega
      clear hS3
      rcases hlen with hlen | hlen
      all_goals
        go_wp2_with fail
        go_region_held3 (fun w' => w'.cell? ⟨G, 0, none⟩ = some (.slice (some ad) p.locs.length c) ∧ w'.cell? (ad.add (k * 2)) = some (.int .i64 p.locs[k].dev) ∧ w'.cell? ⟨(ad.add (k * 2)).block, (ad.add (k * 2)).off + 1, none⟩ = some (.int .i64 p.locs[k].pos))
          (first | exact ⟨v1, v2, v3⟩ | exact ⟨u1, u2, u3⟩ | exact ⟨c0, hx, hy⟩ | go_keep)
          (first
          | (go_at_call 23; refine (rpput_to E1.out w6).mono ?_; rintro e w7 ⟨rfl, b7⟩; have hb7 := hb6.below b7 hb6.lt; have k7 := k6.trans (b7.mono k6.size); have v1 := (b7.cell (p := ⟨G, 0, none⟩) hb6.lt).trans u1; have v2 := (b7.cell (p := ad.add (k * 2)) (Nat.lt_of_lt_of_le hab b6.size)).trans u2; have v3 := (b7.cell (p := ⟨(ad.add (k * 2)).block, (ad.add (k * 2)).off + 1, none⟩) (Nat.lt_of_lt_of_le hab b6.size)).trans u3)
          | (go_at_call 23; refine (rpput_to E0.out wr.drew).mono ?_; rintro e w6 ⟨rfl, b6⟩; have hb6 := hb.below b6.fromDrew hb.lt; have k6 := hbel.trans (b6.fromDrew.mono hsz); have u1 := (b6.fromDrew.cell (p := ⟨G, 0, none⟩) hb.lt).trans c0; have u2 := (b6.fromDrew.cell (p := ad.add (k * 2)) hab).trans hx; have u3 := (b6.fromDrew.cell (p := ⟨(ad.add (k * 2)).block, (ad.add (k * 2)).off + 1, none⟩) hab).trans hy))
        go_wp2
        go_round
        case rel => exact ⟨k + 1, by omega, by go_num, by rw [locsL_snoc _ _ hlt, HLOC.out, ← List.append_assoc, HS0.out], hb7, k7⟩
        case measure => simp [intOf]; omega
    · obtain rfl : k = p.locs.length := by omega
      rw [List.take_length] at HS0
      simp only [inI, Bool.and_eq_true, decide_eq_true_eq] at hin1 hin2
      obtain ⟨x0, x1, e1⟩ := put2 hin1.1 (by omega)
      obtain ⟨z0, z1, z2, z3, z4, z5, e2⟩ := put6 hin2.1 hin2.2
      have hgoal : encP p = S0 ++ ([x0, x1] ++ [z0, z1, z2, z3, z4, z5] ++ p.sum) := by unfold encP; rw [e1, e2, HS0.out]
      have HG := Lib.hid hgoal
      have E1 := Lib.hid e1
      have E2 := Lib.hid e2
      clear e1 e2 hgoal
      have y1 := hb.cell 1
      have y2 := hb.cell 2
      have y3 := hb.cell 3
      simp at y1 y2 y3
      have hlen : S0.length = 4 ∨ S0.length = 7 := by omega
      clear hS3
      rcases hlen with hlen | hlen
      all_goals
        go_wp2_with fail
        go_region_held3 (fun w' => w'.cell? ⟨G, 1, none⟩ = some (.int .i64 p.len) ∧ w'.cell? ⟨G, 2, none⟩ = some (.int .i64 p.birth) ∧ w'.cell? ⟨G, 3, none⟩ = some (.string (bstr p.sum)))
          (first | exact ⟨v1, v2, v3⟩ | exact ⟨u1, u2, u3⟩ | exact ⟨y1, y2, y3⟩ | go_keep)
          (first
          | (go_at_call 23; refine (rpput_to E2.out w6).mono ?_; rintro e w7 ⟨rfl, b7⟩; have hb7 := hb6.below b7 hb6.lt; have k7 := k6.trans (b7.mono k6.size); have v1 := hb7.cell 1; have v2 := hb7.cell 2; have v3 := hb7.cell 3; simp at v1 v2 v3)
          | (go_at_call 23; refine (rpput_to E1.out wr.drew).mono ?_; rintro e w6 ⟨rfl, b6⟩; have hb6 := hb.below b6.fromDrew hb.lt; have k6 := hbel.trans (b6.fromDrew.mono hsz); have u1 := hb6.cell 1; have u2 := hb6.cell 2; have u3 := hb6.cell 3; simp at u1 u2 u3))
        go_wp2
        rw [HG.out]
        exact bodyPost_ret (v := .tuple #[.string (bstr (S0 ++ ([x0, x1] ++ [z0, z1, z2, z3, z4, z5] ++ p.sum))), .int .i64 0]) (by simp [results, Try.results12, go_sem]) rfl ⟨rfl, k7⟩

end Go.Proofs.Ytnjbhooogfonbaa
