/- Package blk, plain laws: what is read, what is good, what is mended on two devices of twenty sectors. -/
import Derived.Test.YtmdjbmhjnajpgaaDoorKf
namespace Go.Proofs.YtmdjbmhjnajpgaaDoor
open Go Go.RowKit
set_option linter.unusedSimpArgs false
set_option linter.unnecessarySimpa false
set_option linter.unusedVariables false

def b20 : List (List UInt8) := List.replicate 20 []
/-- two devices on which x stands at one place and y at another -/
def D2 (p q : Nat) (x y : List UInt8) (l0 l1 : Bool) (ws : List Wr) : Dv := ⟨b20.set p x, b20.set q y, l0, l1, ws⟩
theorem mayE_g {d : Dv} {dev : Int} {p : Nat} {s : List UInt8} (hd : dev = 0 ∨ dev = 1) (hp : p < (d.sec dev).length) (hs : s.length ≤ 1024) : mayE d ⟨dev, p⟩ s = if d.gone dev then 5 else 0 := by
  unfold mayE
  rw [if_neg]
  rcases hd with rfl | rfl <;> simp [isB] <;> omega
theorem len20 (p : Nat) (x : List UInt8) : (b20.set p x).length = 20 := by simp [b20]
theorem get20 {p : Nat} (hp : p < 20) (x : List UInt8) : (b20.set p x).getD p [] = x := by
  rw [List.getD_eq_getElem?_getD, List.getElem?_set]
  simp [b20, hp]
section
variable {p q : Nat} {x y s : List UInt8} {l0 l1 : Bool} {ws : List Wr}
theorem may0 (hp : p < 20) (hs : s.length ≤ 1024) : mayE (D2 p q x y l0 l1 ws) ⟨0, p⟩ s = if l0 then 5 else 0 := by
  rw [mayE_g (.inl rfl) (by simp [Dv.sec, D2, len20]; exact hp) hs]; rfl
theorem may1 (hq : q < 20) (hs : s.length ≤ 1024) : mayE (D2 p q x y l0 l1 ws) ⟨1, q⟩ s = if l1 then 5 else 0 := by
  rw [mayE_g (.inr rfl) (by simp [Dv.sec, D2, len20]; exact hq) hs]; rfl
theorem read0 (hp : p < 20) (hw : ∀ z ∈ ws, z.loc ≠ ⟨0, p⟩) : (D2 p q x y false l1 ws).read ⟨0, p⟩ = (x, 0) := by
  unfold Dv.read
  rw [if_pos (by rw [may0 hp (by simp)]; rfl)]
  unfold Dv.look
  rw [show (D2 p q x y false l1 ws).ws = ws from rfl, fold_none _ _ hw]
  show ((b20.set p x).getD ((p : Int)).toNat [], (0 : Int)) = _
  rw [Int.toNat_natCast, get20 hp]
theorem read1 (hq : q < 20) (hw : ∀ z ∈ ws, z.loc ≠ ⟨1, q⟩) : (D2 p q x y l0 false ws).read ⟨1, q⟩ = (y, 0) := by
  unfold Dv.read
  rw [if_pos (by rw [may1 hq (by simp)]; rfl)]
  unfold Dv.look
  rw [show (D2 p q x y l0 false ws).ws = ws from rfl, fold_none _ _ hw]
  show ((b20.set q y).getD ((q : Int)).toNat [], (0 : Int)) = _
  rw [Int.toNat_natCast, get20 hq]
theorem read0w (hp : p < 20) {t : List UInt8} : (D2 p q x y false l1 [⟨⟨0, p⟩, t⟩]).read ⟨0, p⟩ = (t, 0) := by
  unfold Dv.read
  rw [if_pos (by rw [may0 hp (by simp)]; rfl)]
  simp [Dv.look, D2]
theorem read1w (hq : q < 20) {t : List UInt8} : (D2 p q x y l0 false [⟨⟨1, q⟩, t⟩]).read ⟨1, q⟩ = (t, 0) := by
  unfold Dv.read
  rw [if_pos (by rw [may1 hq (by simp)]; rfl)]
  simp [Dv.look, D2]
theorem read0g (hp : p < 20) : (D2 p q x y true l1 ws).read ⟨0, p⟩ = ([], 5) := by
  unfold Dv.read
  rw [may0 hp (by simp)]; rfl
theorem read1g (hq : q < 20) : (D2 p q x y l0 true ws).read ⟨1, q⟩ = ([], 5) := by
  unfold Dv.read
  rw [may1 hq (by simp)]; rfl
theorem write0 (hp : p < 20) (hs : s.length ≤ 1024) : (D2 p q x y false l1 ws).write ⟨0, p⟩ s = D2 p q x y false l1 (ws ++ [⟨⟨0, p⟩, s⟩]) := by
  unfold Dv.write
  rw [if_pos (by rw [may0 hp hs]; rfl)]; rfl
theorem write1 (hq : q < 20) (hs : s.length ≤ 1024) : (D2 p q x y l0 false ws).write ⟨1, q⟩ s = D2 p q x y l0 false (ws ++ [⟨⟨1, q⟩, s⟩]) := by
  unfold Dv.write
  rw [if_pos (by rw [may1 hq hs]; rfl)]; rfl
theorem spoil0 (hp : p < 20) (hs : s.length ≤ 1024) : (D2 p q x y false l1 ws).spoilAt ⟨0, p⟩ s = D2 p q s y false l1 (ws.filter (fun z => !decide (z.loc = ⟨0, p⟩))) := by
  unfold Dv.spoilAt
  rw [if_pos (by rw [may0 hp hs]; rfl)]
  simp [Dv.spoil, Dv.put, D2]
theorem spoil1 (hq : q < 20) (hs : s.length ≤ 1024) : (D2 p q x y l0 false ws).spoilAt ⟨1, q⟩ s = D2 p q x s l0 false (ws.filter (fun z => !decide (z.loc = ⟨1, q⟩))) := by
  unfold Dv.spoilAt
  rw [if_pos (by rw [may1 hq hs]; rfl)]
  simp [Dv.spoil, Dv.put, D2]
theorem new20 : Dv.new 20 20 = D2 p q [] [] false false [] := by
  have e : ∀ p : Nat, b20.set p [] = List.replicate 20 [] := fun p => by
    apply List.ext_getElem
    · simp [b20]
    · intro i h1 h2
      rw [List.getElem_set]
      split
      · rw [List.getElem_replicate]
      · rfl
  unfold D2
  rw [e, e]
  rfl
theorem flush2 : (D2 p q x y false false [⟨⟨0, p⟩, s⟩, ⟨⟨1, q⟩, s⟩]).flush = D2 p q s s false false [] := by
  simp [Dv.flush, Dv.settle, Dv.put, D2]
theorem crash_no : (D2 p q x y l0 l1 ws).crash [] = D2 p q x y l0 l1 [] := by
  have h : ∀ n, (D2 p q x y l0 l1 ws).settle (kpB []) n = D2 p q x y l0 l1 ws := fun n => by
    induction n with
    | zero => rfl
    | succ n ih => unfold Dv.settle; rw [if_neg (by simp [kpB])]; exact ih
  unfold Dv.crash
  rw [h]
  rfl
theorem lose_0 : (D2 p q x y l0 l1 ws).lose 0 = D2 p q [] y true l1 (ws.filter (fun z => !(z.loc.dev == 0))) := by
  unfold Dv.lose
  rw [if_pos rfl]
  have e : b20.set p [] = List.replicate 20 [] := congrArg Dv.s0 (new20 (p := p) (q := p)).symm
  show Dv.mk (List.replicate ((b20.set p x).length) []) _ _ _ _ = Dv.mk (b20.set p []) _ _ _ _
  rw [len20, e]
  rfl
theorem lose_1 : (D2 p q x y l0 l1 ws).lose 1 = D2 p q x [] l0 true (ws.filter (fun z => !(z.loc.dev == 1))) := by
  unfold Dv.lose
  rw [if_neg (by decide), if_pos rfl]
  have e : b20.set q [] = List.replicate 20 [] := congrArg Dv.s0 (new20 (p := q) (q := q)).symm
  show Dv.mk _ (List.replicate ((b20.set q y).length) []) _ _ _ = Dv.mk _ (b20.set q []) _ _ _
  rw [len20, e]
  rfl
end
/-! what is good, what is read, what is mended -/
theorem good_of {rd : Lc → List UInt8 × Int} {p : Pt} {l : Lc} {t : List UInt8} {e : Int} (h : rd l = (t, e)) : goodAt rd p l = (decide (e = 0) && (decide ((t.length : Int) = p.len) && decide (shaL t = p.sum))) := by unfold goodAt; rw [h]
theorem readB_two {rd : Lc → List UInt8 × Int} {p : Pt} {a b : Lc} (hck : ckE p = 0) (hl : p.locs = [a, b]) : readB rd p = if goodAt rd p a = true then (((rd a).1, 0), 0) else if goodAt rd p b = true then (((rd b).1, 1), 0) else (([], 0), 7) := by
  unfold readB
  rw [if_pos hck, hl, readLs, readLs, readLs]
  rfl
theorem mend_two {a b : Lc} {gd : Lc → Bool} {load : List UInt8} {d : Dv} : mendK [a, b] gd load d 2 =
    if gd b = true then (if gd a = true then (d, 0) else (d.write a load, if mayE d a load = 0 then 1 else 0))
    else if gd a = true then (d.write b load, if mayE d b load = 0 then 1 else 0)
    else ((d.write a load).write b load, if mayE (d.write a load) b load = 0 then (if mayE d a load = 0 then 1 else 0) + 1 else (if mayE d a load = 0 then 1 else 0)) := by
  simp only [mendK, List.getElem?_cons_zero, List.getElem?_cons_succ]
  split <;> split <;> rfl
theorem readLs_ok {rd : Lc → List UInt8 × Int} {p : Pt} {x : List UInt8} {i : Int} : ∀ (l : List Lc) (k : Nat), readLs rd p l k = ((x, i), 0) → (x.length : Int) = p.len ∧ shaL x = p.sum ∧ i < ((k + l.length : Nat) : Int)
  | [], _, h => by rw [readLs] at h; cases h
  | a :: l, k, h => by
    rw [readLs] at h
    split at h
    · rename_i hg
      cases h
      simp only [goodAt, Bool.and_eq_true, decide_eq_true_eq] at hg
      exact ⟨hg.2.1, hg.2.2, by simp; omega⟩
    · obtain ⟨h1, h2, h3⟩ := readLs_ok l (k + 1) h
      exact ⟨h1, h2, by simp at h3 ⊢; omega⟩
theorem readB_ok {rd : Lc → List UInt8 × Int} {p : Pt} {x : List UInt8} {i : Int} (h : readB rd p = ((x, i), 0)) : ckE p = 0 ∧ (x.length : Int) = p.len ∧ shaL x = p.sum ∧ i < p.locs.length := by
  unfold readB at h
  split at h
  · rename_i hck
    obtain ⟨h1, h2, h3⟩ := readLs_ok _ _ h
    exact ⟨hck, h1, h2, by simpa using h3⟩
  · cases h
theorem readLs_err {rd : Lc → List UInt8 × Int} {p : Pt} {x : List UInt8} {i e : Int} (he : e ≠ 0) : ∀ (l : List Lc) (k : Nat), readLs rd p l k = ((x, i), e) → x = [] ∧ i = 0
  | [], _, h => by rw [readLs] at h; cases h; exact ⟨rfl, rfl⟩
  | a :: l, k, h => by
    rw [readLs] at h
    split at h
    · cases h; exact absurd rfl he
    · exact readLs_err he l (k + 1) h
theorem readB_err {rd : Lc → List UInt8 × Int} {p : Pt} {x : List UInt8} {i e : Int} (h : readB rd p = ((x, i), e)) (he : e ≠ 0) : x = [] ∧ i = 0 := by
  unfold readB at h
  split at h
  · exact readLs_err he _ _ h
  · cases h; exact ⟨rfl, rfl⟩
theorem readLs_all_bad {rd : Lc → List UInt8 × Int} {p : Pt} (h : ∀ l, (rd l).2 ≠ 0) (l : List Lc) (k : Nat) : readLs rd p l k = (([], 0), 7) := readLs_none l k (fun y _ => by unfold goodAt; rw [decide_eq_false (h y)]; rfl)
theorem readB_nil (p : Pt) : ∃ e : Int, readB rdNil p = (([], 0), e) ∧ e ≠ 0 := by
  unfold readB
  split
  · exact ⟨7, readLs_all_bad (fun _ => by simp [rdNil]) _ _, by decide⟩
  · exact ⟨1, rfl, by decide⟩
/-- the pointer of a text at two places -/
def P2 (p q : Nat) (load : List UInt8) (birth : Int) : Pt := ⟨[⟨0, p⟩, ⟨1, q⟩], load.length, birth, shaL load⟩
theorem P2_ok {p q : Nat} {load : List UInt8} {birth : Int} (hp : p < 512) (hq : q < 512) (hl : load.length ≤ 960) (h0 : 0 ≤ birth) (h1 : birth ≤ 1099511627776) : ckE (P2 p q load birth) = 0 :=
  checkE_ok (by simp [P2, badLoc, inI]; omega) (by simp [P2]) (by simp [P2]) (by simp [P2, same2]) (by simp [P2]) (by simp [P2]; omega) h0 h1 (by simp [P2, sha_len])
theorem P2_good {rd : Lc → List UInt8 × Int} {p q : Nat} {load t : List UInt8} {birth : Int} {l : Lc} (h : rd l = (t, 0)) : goodAt rd (P2 p q load birth) l = (decide (t.length = load.length) && decide (shaL t = shaL load)) := by
  rw [good_of h]
  have e : decide ((t.length : Int) = (P2 p q load birth).len) = decide (t.length = load.length) := by rw [decide_eq_decide]; exact Int.ofNat_inj
  rw [e]
  exact Bool.true_and _
theorem P2_same {rd : Lc → List UInt8 × Int} {p q : Nat} {load : List UInt8} {birth : Int} {l : Lc} (h : rd l = (load, 0)) : goodAt rd (P2 p q load birth) l = true := by rw [P2_good h]; simp
theorem P2_junk {rd : Lc → List UInt8 × Int} {p q : Nat} {load t : List UInt8} {birth : Int} {l : Lc} (h : rd l = (t, 0)) (hne : t.length ≠ load.length) : goodAt rd (P2 p q load birth) l = false := by rw [P2_good h]; simp [hne]
theorem P2_gone {rd : Lc → List UInt8 × Int} {p q : Nat} {load t : List UInt8} {birth : Int} {l : Lc} (h : rd l = (t, 5)) : goodAt rd (P2 p q load birth) l = false := by rw [good_of h]; simp
theorem write_two {p q : Nat} {load : List UInt8} (hp : p < 20) (hq : q < 20) (hl : load.length ≤ 1024) : wrK [⟨0, p⟩, ⟨1, q⟩] load (Dv.new 20 20) 2 = D2 p q [] [] false false [⟨⟨0, p⟩, load⟩, ⟨⟨1, q⟩, load⟩] := by
  simp only [wrK, List.getElem?_cons_zero, List.getElem?_cons_succ]
  rw [new20 (p := p) (q := q), write0 hp hl, write1 hq hl]
  rfl
end Go.Proofs.YtmdjbmhjnajpgaaDoor
