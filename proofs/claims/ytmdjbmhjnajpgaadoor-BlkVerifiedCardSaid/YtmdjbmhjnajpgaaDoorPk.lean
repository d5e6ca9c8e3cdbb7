/- Package ptr: Check: its contract; what a pointer that may be is. -/
import Derived.Test.YtmdjbmhjnajpgaaDoorDvJ
import Derived.Test.YtmdjbmhjnajpgaaDoorArg
namespace Go.Proofs.YtmdjbmhjnajpgaaDoor
open Go.RowKit
set_option linter.unusedSimpArgs false
set_option linter.unnecessarySimpa false
set_option linter.unusedVariables false

/-- a slice of places, in memory below block B -/
def LocsAt (B : Nat) (w : World) (v : Value) (l : List Lc) : Prop :=
  ∃ A c, v = .slice A l.length c ∧ l.length ≤ c ∧ c ≤ 9223372036854775807 ∧
    (0 < l.length → ∃ ad : Addr, A = some ad ∧ ad.block < B ∧ ∀ i (h : i < l.length), w.cell? (ad.add (i * 2)) = some (.int .i64 l[i].dev) ∧ w.cell? (ad.add (i * 2 + 1)) = some (.int .i64 l[i].pos))
theorem LocsAt.keep {B B' : Nat} {w w' : World} {v : Value} {l : List Lc} (h : LocsAt B w v l) (hb : Below B w w') (hB : B ≤ B') : LocsAt B' w' v l := by
  obtain ⟨A, c, rfl, hc, hm, hx⟩ := h
  refine ⟨A, c, rfl, hc, hm, fun h0 => ?_⟩
  obtain ⟨ad, rfl, had, hcell⟩ := hx h0
  refine ⟨ad, rfl, by omega, fun i hi => ?_⟩
  have e : ∀ k, (ad.add k).block < B := fun k => by unfold Addr.add; split <;> exact had
  rw [hb.cell (e _), hb.cell (e _)]
  exact hcell i hi
theorem LocsAt.form {B : Nat} {w : World} {v : Value} {l : List Lc} (h : LocsAt B w v l) : ∃ A c, v = .slice A l.length c ∧ l.length ≤ c ∧ c ≤ 9223372036854775807 := by
  obtain ⟨A, c, rfl, hc, hm, _⟩ := h
  exact ⟨A, c, rfl, hc, hm⟩
theorem add_add (a : Addr) (i j : Nat) : (a.add i).add j = a.add (i + j) := by
  unfold Addr.add
  by_cases hi : i = 0 <;> by_cases hj : j = 0 <;> simp [hi, hj, Nat.add_assoc]
theorem LocsAt.get {B : Nat} {w : World} {A : Option Addr} {n c : Nat} {l : List Lc} (h : LocsAt B w (.slice A n c) l) (k : Nat) (hk : k < l.length) :
    ∃ ad, A = some ad ∧ ad.block < B ∧ w.cell? (ad.add (k * 2)) = some (.int .i64 l[k].dev) ∧ w.cell? ⟨(ad.add (k * 2)).block, (ad.add (k * 2)).off + 1, none⟩ = some (.int .i64 l[k].pos) := by
  obtain ⟨A', c', e, hc, hm, hx⟩ := h
  simp at e
  obtain ⟨rfl, rfl, rfl⟩ := e
  obtain ⟨ad, rfl, hb, hx⟩ := hx (by omega)
  exact ⟨ad, rfl, hb, (hx k hk).1, by have := (hx k hk).2; rw [← add_add] at this; exact this⟩

def inI (n most : Int) : Bool := decide (0 ≤ n) && decide (n ≤ most)
def badLoc (l : Lc) : Bool := !inI l.dev 1 || !inI l.pos 511
set_option maxHeartbeats 400000 in
theorem in_any (n m : Int) (w : World) :
    Calls Tryd.prog 41 #[.int .i64 n, .int .i64 m] w fun e w' => e = .returned (.bool (inI n m)) ∧ w = w' := by
  unfold inI
  by_cases h0 : 0 ≤ n
  · by_cases h1 : n ≤ m
    · go_enter Tryd.func41, Tryd.ntmps41
      go_wp2
      go_ret
      exact ⟨ret_bool (by simp [h0, h1]), rfl⟩
    · go_enter Tryd.func41, Tryd.ntmps41
      go_wp2
      go_ret
      exact ⟨ret_bool (by simp; omega), rfl⟩
  · go_enter Tryd.func41, Tryd.ntmps41
    go_wp2
    go_ret
    exact ⟨ret_bool (by simp; omega), rfl⟩

def same2 : List Lc → Bool
  | [a, b] => decide (a.dev = b.dev)
  | _ => false
def checkE (l : List Lc) (len birth : Int) (sum : List UInt8) : Int :=
  if l.any badLoc || (decide (l.length < 1) || (decide (2 < l.length) || (same2 l || (!inI len 960 || (!inI birth 1099511627776 || !decide (sum.length = 32)))))) then 1 else 0

theorem in_to {n m : Int} {b : Bool} (h : inI n m = b) (w : World) :
    Calls Tryd.prog 41 #[.int .i64 n, .int .i64 m] w fun e w' => e = .returned (.bool b) ∧ w = w' := by subst h; exact in_any n m w
theorem any_at {p : Lc → Bool} {l : List Lc} {k : Nat} (hk : k < l.length) (h : p l[k] = true) : l.any p = true := List.any_eq_true.2 ⟨l[k], List.getElem_mem hk, h⟩
theorem any_snoc {p : Lc → Bool} {l : List Lc} {k : Nat} (hk : k < l.length) (h : (l.take k).any p = false) (h2 : p l[k] = false) : (l.take (k + 1)).any p = false := by
  rw [List.take_succ_eq_append_getElem hk, List.any_append, h]; simp [h2]
set_option maxHeartbeats 1000000 in
theorem check_any (v : Value) (l : List Lc) (len birth : Int) (sum : List UInt8) (B : Nat) (w : World) (hv : LocsAt B w v l) (hB : B ≤ w.heap.size) :
    Calls Tryd.prog 23 #[.agg #[v, .int .i64 len, .int .i64 birth, .string (bstr sum)]] w fun e w' => e = .returned (.int .i64 (checkE l len birth sum)) ∧ Below w.heap.size w w' := by
  obtain ⟨A, c, rfl, hc, hm⟩ := hv.form
  go_enter Tryd.func23, Tryd.ntmps23
  go_wp2_with fail
  go_loopw [9] (fun i wr => ∃ k : Nat, k ≤ l.length ∧ i = .int .i64 k ∧ (l.take k).any badLoc = false ∧ Blk wr w.heap.size 25 #[.slice A l.length c, .int .i64 len, .int .i64 birth, .string (bstr sum)] ∧ Below w.heap.size w wr) (fun i _ => l.length - (intOf i).toNat)
  case atStart => exact ⟨0, by omega, rfl, rfl, Blk.new _ _ _, (Below.refl _ _).alloc (Nat.le_refl _) _⟩
  case round =>
    obtain ⟨k, hk, rfl, hbad, hb, hbel⟩ := hrel
    have hv2 := hv.keep (hbel.mono hB) (Nat.le_refl _)
    by_cases hlt : k < l.length
    · obtain ⟨ad, rfl, had, hx, hy⟩ := hv2.get k hlt
      go_wp2_with (go_at_call 41; refine (in_any _ _ _).mono ?_; rintro e w' ⟨rfl, rfl⟩)
      · have hq : badLoc l[k] = true := by simp_all [badLoc]
        go_ret
        exact ⟨ret_int (by unfold checkE; rw [if_pos (by simp [any_at hlt hq])]), hbel.alloc hbel.size _⟩
      · have hq : badLoc l[k] = false := by simp_all [badLoc]
        go_round
        case rel => exact ⟨k + 1, by omega, by go_num, any_snoc hlt hbad hq, hb.alloc _, hbel.alloc hbel.size _⟩
        case measure => simp [intOf]; omega
      · have hq : badLoc l[k] = true := by simp_all [badLoc]
        go_ret
        exact ⟨ret_int (by unfold checkE; rw [if_pos (by simp [any_at hlt hq])]), hbel.alloc hbel.size _⟩
    · obtain rfl : k = l.length := by omega
      rw [List.take_length] at hbad
      have c0 := hb.cell 0
      have c1 := hb.cell 1
      have c2 := hb.cell 2
      have c3 := hb.cell 3
      simp at c0 c1 c2 c3
      have HB := Lib.hid hbad
      have hr1 := hbel.size
      clear hbad hv2
      rcases l with _ | ⟨x, _ | ⟨y, _ | ⟨z, l⟩⟩⟩
      · simp only [List.length_nil, List.length_cons, Nat.zero_add] at *
        go_wp2_with fail
        go_quiet ((fail))
        go_wp2
        go_ret
        exact ⟨ret_int (by simp [checkE]), hbel.dN _⟩
      · simp only [List.length_nil, List.length_cons, Nat.zero_add] at *
        have hbad := HB.out
        cases h1 : inI len 960 <;> cases h2 : inI birth 1099511627776 <;> by_cases h3 : sum.length = 32
        all_goals
          have h3b : ((sum.length : Int) == 32) = decide (sum.length = 32) := by rw [Bool.eq_iff_iff]; simp; omega
          simp only [h3, decide_true, decide_false] at h3b
          go_wp2_with fail
          go_quiet ((go_at_call 41; first | with_reducible exact quiet_same (in_to h1 _) | with_reducible exact quiet_same (in_to h2 _)))
          go_wp2
          go_ret
          exact ⟨ret_int (by simp [checkE, hbad, same2, h1, h2, h3]), hbel.dN _⟩
      · have hv2 := hv.keep (hbel.mono hB) (Nat.le_refl _)
        obtain ⟨ad, rfl, had, hx, hy⟩ := hv2.get 0 (by simp)
        obtain ⟨ad', e, had', hx', hy'⟩ := hv2.get 1 (by simp)
        obtain rfl : ad = ad' := by simpa using e
        have hz : wr.cell? ⟨ad.block, ad.off + 2, none⟩ = some (.int .i64 y.dev) := hx'
        have hx0 : wr.cell? ad = some (.int .i64 x.dev) := hx
        clear hx hy hx' hy' hv2 hv
        simp only [List.length_nil, List.length_cons, Nat.zero_add] at *
        have hbad := HB.out
        by_cases hd : x.dev = y.dev
        · have hdb : (x.dev == y.dev) = true := by simp [hd]
          go_wp2_with fail
          go_quiet ((fail))
          go_wp2
          go_ret
          exact ⟨ret_int (by simp [checkE, same2, hd]), hbel.dN _⟩
        · have hdb : (x.dev == y.dev) = false := by simp [hd]
          cases h1 : inI len 960 <;> cases h2 : inI birth 1099511627776 <;> by_cases h3 : sum.length = 32
          all_goals
            have h3b : ((sum.length : Int) == 32) = decide (sum.length = 32) := by rw [Bool.eq_iff_iff]; simp; omega
            simp only [h3, decide_true, decide_false] at h3b
            go_wp2_with fail
            go_quiet ((go_at_call 41; first | with_reducible exact quiet_same (in_to h1 _) | with_reducible exact quiet_same (in_to h2 _)))
            go_wp2
            go_ret
            exact ⟨ret_int (by simp [checkE, hbad, same2, h1, h2, h3, hd]), hbel.dN _⟩
      · have hgt : 2 < (x :: y :: z :: l).length := by simp
        generalize x :: y :: z :: l = l' at *
        have hg1 : decide ((l'.length : Int) < 1) = false := by simp; omega
        have hg2 : decide (2 < (l'.length : Int)) = true := by simp; omega
        go_wp2_with fail
        go_quiet ((fail))
        go_wp2
        go_ret
        exact ⟨ret_int (by simp [checkE, hgt]), hbel.dN _⟩


structure Pt where
  locs : List Lc
  len : Int
  birth : Int
  sum : List UInt8
deriving DecidableEq
theorem pt_eq (a b : Pt) : a = b ↔ a.locs = b.locs ∧ a.len = b.len ∧ a.birth = b.birth ∧ a.sum = b.sum := by
  cases a; cases b; simp
abbrev ptV (v : Value) (p : Pt) : Value := .agg #[v, .int .i64 p.len, .int .i64 p.birth, .string (bstr p.sum)]

theorem checkE_bad {l : List Lc} {len birth : Int} {sum : List UInt8} (h : (l.length : Int) < 1 ∨ 2 < (l.length : Int) ∨ len < 0 ∨ 960 < len ∨ birth < 0 ∨ 1099511627776 < birth ∨ sum.length ≠ 32) :
    checkE l len birth sum = 1 := by
  unfold checkE
  rw [if_pos]
  generalize l.any badLoc = a
  generalize same2 l = b
  rcases h with h | h | h | h | h | h | h
  · have : l.length < 1 := by omega
    simp [this]
  · have : 2 < l.length := by omega
    simp [this]
  · have : inI len 960 = false := by simp [inI]; omega
    simp [this]
  · have : inI len 960 = false := by simp [inI]; omega
    simp [this]
  · have : inI birth 1099511627776 = false := by simp [inI]; omega
    simp [this]
  · have : inI birth 1099511627776 = false := by simp [inI]; omega
    simp [this]
  · simp [h]
theorem checkE_loc {l : List Lc} {len birth : Int} {sum : List UInt8} (h : l.any badLoc = true) : checkE l len birth sum = 1 := by
  unfold checkE; rw [if_pos (by simp [h])]
theorem checkE_two {l : List Lc} {len birth : Int} {sum : List UInt8} (h : same2 l = true) : checkE l len birth sum = 1 := by
  unfold checkE; rw [if_pos (by simp [h])]
theorem checkE_ok {l : List Lc} {len birth : Int} {sum : List UInt8} (h1 : l.any badLoc = false) (h2 : 1 ≤ (l.length : Int)) (h3 : (l.length : Int) ≤ 2) (h4 : same2 l = false) (h5 : 0 ≤ len) (h6 : len ≤ 960) (h7 : 0 ≤ birth) (h8 : birth ≤ 1099511627776) (h9 : sum.length = 32) :
    checkE l len birth sum = 0 := by
  unfold checkE
  have e1 : ¬ l.length < 1 := by omega
  have e2 : ¬ 2 < l.length := by omega
  have e3 : inI len 960 = true := by simp [inI]; omega
  have e4 : inI birth 1099511627776 = true := by simp [inI]; omega
  rw [if_neg]
  simp only [h1, h4, e1, e2, e3, e4, h9]
  decide
theorem badLoc_eq (x : Lc) : badLoc x = (decide (x.dev < 0) || decide (1 < x.dev) || decide (x.pos < 0) || decide (511 < x.pos)) := by
  rw [Bool.eq_iff_iff]
  simp [badLoc, inI]
  omega

def ckE (p : Pt) : Int := checkE p.locs p.len p.birth p.sum
theorem ckE_cases (p : Pt) : ckE p = 0 ∨ ckE p = 1 := by
  unfold ckE checkE
  split
  · exact .inr rfl
  · exact .inl rfl
theorem check_to {p : Pt} {v : Value} {e0 : Int} (h : ckE p = e0) (B : Nat) (w : World) (hv : LocsAt B w v p.locs) (hB : B ≤ w.heap.size) :
    Calls Tryd.prog 23 #[ptV v p] w fun e w' => e = .returned (.int .i64 e0) ∧ Below w.heap.size w w' := by
  subst h; exact check_any v p.locs p.len p.birth p.sum B w hv hB
theorem ok_facts {p : Pt} (h : ckE p = 0) : p.locs.length ≤ 2 ∧ 1 ≤ p.locs.length ∧ p.sum.length = 32 ∧ p.locs.any badLoc = false ∧ same2 p.locs = false ∧ inI p.len 960 = true ∧ inI p.birth 1099511627776 = true := by
  unfold ckE checkE at h
  split at h
  · exact absurd h (by decide)
  · rename_i hn
    simp only [Bool.or_eq_true, decide_eq_true_eq, not_or, Bool.not_eq_true', Bool.not_eq_true, decide_eq_false_iff_not, Bool.not_eq_false] at hn
    obtain ⟨h1, h2, h3, h4, h5, h6, h7⟩ := hn
    exact ⟨by omega, by omega, by simpa using h7, by simpa using h1, by simpa using h4, by simpa using h5, by simpa using h6⟩
theorem good_loc {l : Lc} (h : badLoc l = false) : 0 ≤ l.dev ∧ l.dev ≤ 1 ∧ 0 ≤ l.pos ∧ l.pos ≤ 511 := by
  simp [badLoc, inI] at h
  omega
theorem loc_ok {l : List Lc} (h : l.any badLoc = false) (k : Nat) (hk : k < l.length) : badLoc l[k] = false := by
  simpa using List.any_eq_false.1 h l[k] (List.getElem_mem hk)
end Go.Proofs.YtmdjbmhjnajpgaaDoor
