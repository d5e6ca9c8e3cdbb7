/- Package blk, plain laws: what the laws' devices tell. -/
import Derived.Test.YtmdjbmhjnajpgaaDoorKh
namespace Go.Proofs.YtmdjbmhjnajpgaaDoor
open Go Go.RowKit
set_option linter.unusedSimpArgs false
set_option linter.unnecessarySimpa false
set_option linter.unusedVariables false

theorem P2_form {p q : Nat} {load : List UInt8} {b : Int} : P2 p q load b = ⟨(P2 p q load b).locs, load.length, b, shaL load⟩ := rfl
theorem readB_0 {rd : Lc → List UInt8 × Int} {p q : Nat} {load t : List UInt8} {b : Int} (hck : ckE (P2 p q load b) = 0) (h : rd ⟨0, p⟩ = (t, 0)) (hg : goodAt rd (P2 p q load b) ⟨0, p⟩ = true) : readB rd (P2 p q load b) = ((t, 0), 0) := by
  rw [readB_two hck rfl, if_pos hg, h]
theorem readB_1 {rd : Lc → List UInt8 × Int} {p q : Nat} {load t : List UInt8} {b : Int} (hck : ckE (P2 p q load b) = 0) (h : rd ⟨1, q⟩ = (t, 0)) (h0 : goodAt rd (P2 p q load b) ⟨0, p⟩ = false) (hg : goodAt rd (P2 p q load b) ⟨1, q⟩ = true) : readB rd (P2 p q load b) = ((t, 1), 0) := by
  rw [readB_two hck rfl, if_neg (by rw [h0]; exact Bool.false_ne_true), if_pos hg, h]
theorem readB_none {rd : Lc → List UInt8 × Int} {p q : Nat} {load : List UInt8} {b : Int} (hck : ckE (P2 p q load b) = 0) (h0 : goodAt rd (P2 p q load b) ⟨0, p⟩ = false) (h1 : goodAt rd (P2 p q load b) ⟨1, q⟩ = false) : readB rd (P2 p q load b) = (([], 0), 7) := by
  rw [readB_two hck rfl, if_neg (by rw [h0]; exact Bool.false_ne_true), if_neg (by rw [h1]; exact Bool.false_ne_true)]
section
variable {p q : Nat} {load junk : List UInt8} {b : Int}
theorem two_sizes (hp : p < 20) (hq : q < 20) : ∀ l ∈ (P2 p q load b).locs, l.pos < if isB l.dev then (((Dv.new 20 20).sec l.dev).length : Int) else 0 := by
  intro l hl
  simp only [P2, List.mem_cons, List.not_mem_nil, or_false] at hl
  rcases hl with rfl | rfl <;> simp [isB, Dv.sec, Dv.new] <;> omega
theorem two_gone : (P2 p q load b).locs.any (goneL (Dv.new 20 20)) = false := by simp [P2, goneL, Dv.gone, Dv.new]
theorem two_written (hp : p < 20) (hq : q < 20) (hl : load.length ≤ 1024) : wrK (P2 p q load b).locs load (Dv.new 20 20) (P2 p q load b).locs.length = D2 p q [] [] false false [⟨⟨0, p⟩, load⟩, ⟨⟨1, q⟩, load⟩] := write_two hp hq hl
theorem ne01 : ∀ z ∈ ([⟨⟨1, (q : Int)⟩, load⟩] : List Wr), z.loc ≠ ⟨0, p⟩ := by intro z hz; simp at hz; subst hz; simp
theorem ne10 : ∀ z ∈ ([⟨⟨0, (p : Int)⟩, load⟩] : List Wr), z.loc ≠ ⟨1, q⟩ := by intro z hz; simp at hz; subst hz; simp
theorem nil01 (l : Lc) : ∀ z ∈ ([] : List Wr), z.loc ≠ l := by intro z hz; cases hz
/-! the copy on the slow device is spoilt -/
theorem sp0_read (hck : ckE (P2 p q load b) = 0) (hp : p < 20) (hq : q < 20) (hne : junk.length ≠ load.length) : readB (D2 p q junk load false false []).read (P2 p q load b) = ((load, 1), 0) :=
  readB_1 hck (read1 hq (nil01 _)) (P2_junk (read0 hp (nil01 _)) hne) (P2_same (read1 hq (nil01 _)))
theorem sp0_mend (hp : p < 20) (hq : q < 20) (hl : load.length ≤ 1024) (hne : junk.length ≠ load.length) : mendK (P2 p q load b).locs (goodAt (D2 p q junk load false false []).read (P2 p q load b)) load (D2 p q junk load false false []) (P2 p q load b).locs.length = (D2 p q junk load false false [⟨⟨0, p⟩, load⟩], 1) := by
  have h := mend_two (a := ⟨0, p⟩) (b := ⟨1, q⟩) (gd := goodAt (D2 p q junk load false false []).read (P2 p q load b)) (load := load) (d := D2 p q junk load false false [])
  refine h.trans ?_
  rw [if_pos (P2_same (read1 hq (nil01 _))), if_neg (by rw [P2_junk (read0 hp (nil01 _)) hne]; exact Bool.false_ne_true), write0 hp hl, may0 hp hl]
  rfl
theorem sp0_read2 (hck : ckE (P2 p q load b) = 0) (hp : p < 20) : readB (D2 p q junk load false false [⟨⟨0, p⟩, load⟩]).read (P2 p q load b) = ((load, 0), 0) :=
  readB_0 hck (read0w hp) (P2_same (read0w hp))
theorem sp0_mend2 (hp : p < 20) (hq : q < 20) : mendK (P2 p q load b).locs (goodAt (D2 p q junk load false false [⟨⟨0, p⟩, load⟩]).read (P2 p q load b)) load (D2 p q junk load false false [⟨⟨0, p⟩, load⟩]) (P2 p q load b).locs.length = (D2 p q junk load false false [⟨⟨0, p⟩, load⟩], 0) := by
  have h := mend_two (a := ⟨0, p⟩) (b := ⟨1, q⟩) (gd := goodAt (D2 p q junk load false false [⟨⟨0, p⟩, load⟩]).read (P2 p q load b)) (load := load) (d := D2 p q junk load false false [⟨⟨0, p⟩, load⟩])
  refine h.trans ?_
  rw [if_pos (P2_same (read1 hq ne10)), if_pos (P2_same (read0w hp))]
theorem sp0_lost (hp : p < 20) : (D2 p q junk load false false [⟨⟨0, p⟩, load⟩]).lose 1 = D2 p q junk [] false true [⟨⟨0, p⟩, load⟩] := by rw [lose_1]; simp
theorem sp0_read3 (hck : ckE (P2 p q load b) = 0) (hp : p < 20) : readB (D2 p q junk [] false true [⟨⟨0, p⟩, load⟩]).read (P2 p q load b) = ((load, 0), 0) :=
  readB_0 hck (read0w hp) (P2_same (read0w hp))
/-! the copy on the fast device is spoilt -/
theorem sp1_read (hck : ckE (P2 p q load b) = 0) (hp : p < 20) : readB (D2 p q load junk false false []).read (P2 p q load b) = ((load, 0), 0) :=
  readB_0 hck (read0 hp (nil01 _)) (P2_same (read0 hp (nil01 _)))
theorem sp1_mend (hp : p < 20) (hq : q < 20) (hl : load.length ≤ 1024) (hne : junk.length ≠ load.length) : mendK (P2 p q load b).locs (goodAt (D2 p q load junk false false []).read (P2 p q load b)) load (D2 p q load junk false false []) (P2 p q load b).locs.length = (D2 p q load junk false false [⟨⟨1, q⟩, load⟩], 1) := by
  have h := mend_two (a := ⟨0, p⟩) (b := ⟨1, q⟩) (gd := goodAt (D2 p q load junk false false []).read (P2 p q load b)) (load := load) (d := D2 p q load junk false false [])
  refine h.trans ?_
  rw [if_neg (by rw [P2_junk (read1 hq (nil01 _)) hne]; exact Bool.false_ne_true), if_pos (P2_same (read0 hp (nil01 _))), write1 hq hl, may1 hq hl]
  rfl
theorem sp1_read2 (hck : ckE (P2 p q load b) = 0) (hp : p < 20) : readB (D2 p q load junk false false [⟨⟨1, q⟩, load⟩]).read (P2 p q load b) = ((load, 0), 0) :=
  readB_0 hck (read0 hp ne01) (P2_same (read0 hp ne01))
theorem sp1_mend2 (hp : p < 20) (hq : q < 20) : mendK (P2 p q load b).locs (goodAt (D2 p q load junk false false [⟨⟨1, q⟩, load⟩]).read (P2 p q load b)) load (D2 p q load junk false false [⟨⟨1, q⟩, load⟩]) (P2 p q load b).locs.length = (D2 p q load junk false false [⟨⟨1, q⟩, load⟩], 0) := by
  have h := mend_two (a := ⟨0, p⟩) (b := ⟨1, q⟩) (gd := goodAt (D2 p q load junk false false [⟨⟨1, q⟩, load⟩]).read (P2 p q load b)) (load := load) (d := D2 p q load junk false false [⟨⟨1, q⟩, load⟩])
  refine h.trans ?_
  rw [if_pos (P2_same (read1w hq)), if_pos (P2_same (read0 hp ne01))]
theorem sp1_lost (hp : p < 20) : (D2 p q load junk false false [⟨⟨1, q⟩, load⟩]).lose 0 = D2 p q [] junk true false [⟨⟨1, q⟩, load⟩] := by rw [lose_0]; simp
theorem sp1_read3 (hck : ckE (P2 p q load b) = 0) (hp : p < 20) (hq : q < 20) : readB (D2 p q [] junk true false [⟨⟨1, q⟩, load⟩]).read (P2 p q load b) = ((load, 1), 0) :=
  readB_1 hck (read1w hq) (P2_gone (read0g hp)) (P2_same (read1w hq))
/-! both copies are spoilt -/
theorem both_good {x y : List UInt8} (hp : p < 20) (hq : q < 20) : goodsL (D2 p q x y false false []).read (P2 p q load b) = [decide (x.length = load.length) && decide (shaL x = shaL load), decide (y.length = load.length) && decide (shaL y = shaL load)] := by
  unfold goodsL
  show [_, _] = _
  rw [P2_good (read0 hp (nil01 _)), P2_good (read1 hq (nil01 _))]
theorem both_read {x y : List UInt8} (hck : ckE (P2 p q load b) = 0) (hp : p < 20) (hq : q < 20) : readB (D2 p q x y false false []).read (P2 p q load b) = if (decide (x.length = load.length) && decide (shaL x = shaL load)) = true then ((x, 0), 0) else if (decide (y.length = load.length) && decide (shaL y = shaL load)) = true then ((y, 1), 0) else (([], 0), 7) := by
  rw [readB_two hck rfl, P2_good (read0 hp (nil01 _)), P2_good (read1 hq (nil01 _)), read0 hp (nil01 _), read1 hq (nil01 _)]
end
/-! live -/
def helloT : List UInt8 := [104, 101, 108, 108, 111]
def PH : Pt := ⟨[⟨1, 3⟩, ⟨0, 4⟩], 5, 7, shaL helloT⟩
def dh1 : Dv := D2 4 3 [] [120] false false [⟨⟨0, 4⟩, helloT⟩]
def dh2 : Dv := D2 4 3 [] [120] false false [⟨⟨0, 4⟩, helloT⟩, ⟨⟨1, 3⟩, helloT⟩]
def dh3 : Dv := D2 4 3 [] [] true true []
theorem PH_ok : ckE PH = 0 := checkE_ok (by decide) (by decide) (by decide) (by decide) (by decide) (by decide) (by decide) (by decide) (by simp [PH, sha_len])
theorem h_written : wrK PH.locs helloT (Dv.new 20 20) PH.locs.length = D2 4 3 [] [] false false [⟨⟨1, 3⟩, helloT⟩, ⟨⟨0, 4⟩, helloT⟩] := by
  refine (wrK_two (a := ⟨1, 3⟩) (b := ⟨0, 4⟩) (load := helloT) (d := Dv.new 20 20)).trans ?_
  rw [new20 (p := 4) (q := 3)]
  have h1 : (D2 4 3 [] [] false false []).write ⟨1, 3⟩ helloT = _ := write1 (by decide) (by decide)
  rw [h1]
  exact write0 (p := 4) (by decide) (by decide)
theorem h_spoilt : (D2 4 3 [] [] false false [⟨⟨1, 3⟩, helloT⟩, ⟨⟨0, 4⟩, helloT⟩]).spoilAt ⟨1, 3⟩ [120] = dh1 := by
  have h1 : (D2 4 3 [] [] false false [⟨⟨1, 3⟩, helloT⟩, ⟨⟨0, 4⟩, helloT⟩]).spoilAt ⟨1, 3⟩ [120] = _ := spoil1 (q := 3) (by decide) (by decide)
  rw [h1]
  simp [dh1]
theorem h_gen {rd : Lc → List UInt8 × Int} {l : Lc} (h : rd l = (helloT, 0)) : goodAt rd PH l = true := by rw [good_of h]; simp [PH]; decide
theorem h_bad {rd : Lc → List UInt8 × Int} {l : Lc} {t : List UInt8} {e : Int} (h : rd l = (t, e)) (hne : e ≠ 0 ∨ t.length ≠ 5) : goodAt rd PH l = false := by
  rw [good_of h]
  rcases hne with hne | hne
  · simp [hne]
  · have : ¬ ((t.length : Int) = 5) := by omega
    simp [PH, this]
theorem h_r1 : readB dh1.read PH = ((helloT, 1), 0) := by
  have a : dh1.read ⟨1, 3⟩ = ([120], 0) := read1 (p := 4) (q := 3) (by decide) (by decide)
  have c : dh1.read ⟨0, 4⟩ = (helloT, 0) := read0w (p := 4) (q := 3) (by decide)
  rw [readB_two PH_ok rfl, if_neg (by rw [h_bad a (.inr (by decide))]; exact Bool.false_ne_true), if_pos (h_gen c), c]
theorem h_m1 : mendK PH.locs (goodAt dh1.read PH) helloT dh1 PH.locs.length = (dh2, 1) := by
  have a : dh1.read ⟨1, 3⟩ = ([120], 0) := read1 (p := 4) (q := 3) (by decide) (by decide)
  have c : dh1.read ⟨0, 4⟩ = (helloT, 0) := read0w (p := 4) (q := 3) (by decide)
  refine (mend_two (a := ⟨1, 3⟩) (b := ⟨0, 4⟩) (gd := goodAt dh1.read PH) (load := helloT) (d := dh1)).trans ?_
  have w : dh1.write ⟨1, 3⟩ helloT = dh2 := write1 (p := 4) (q := 3) (by decide) (by decide)
  have m : mayE dh1 ⟨1, 3⟩ helloT = 0 := may1 (p := 4) (q := 3) (by decide) (by decide)
  rw [if_pos (h_gen c), if_neg (by rw [h_bad a (.inr (by decide))]; exact Bool.false_ne_true), w, m]
  rfl
theorem h_r2 : readB dh2.read PH = ((helloT, 0), 0) := by
  have a : dh2.read ⟨1, 3⟩ = (helloT, 0) := by
    have m : mayE dh2 ⟨1, 3⟩ [] = 0 := may1 (p := 4) (q := 3) (by decide) (by decide)
    unfold Dv.read
    rw [if_pos m]
    simp [Dv.look, dh2, D2]
  rw [readB_two PH_ok rfl, if_pos (h_gen a), a]
theorem h_l1 : dh2.lose 1 = D2 4 3 [] [] false true [⟨⟨0, 4⟩, helloT⟩] := by unfold dh2; rw [lose_1]; simp
theorem h_l0 : (D2 4 3 [] [] false true [⟨⟨0, 4⟩, helloT⟩]).lose 0 = dh3 := by rw [lose_0]; simp [dh3]
theorem h_g3 (l : Lc) (h : l = ⟨1, 3⟩ ∨ l = ⟨0, 4⟩) : goodAt dh3.read PH l = false := by
  rcases h with rfl | rfl
  · exact h_bad (read1g (p := 4) (q := 3) (by decide)) (.inl (by decide))
  · exact h_bad (read0g (p := 4) (q := 3) (by decide)) (.inl (by decide))
theorem h_r3 : readB dh3.read PH = (([], 0), 7) := by
  rw [readB_two PH_ok rfl, if_neg (by rw [h_g3 _ (.inl rfl)]; exact Bool.false_ne_true), if_neg (by rw [h_g3 _ (.inr rfl)]; exact Bool.false_ne_true)]
theorem h_goods : goodsL dh3.read PH = [false, false] := by
  unfold goodsL
  show [_, _] = _
  rw [h_g3 _ (.inl rfl), h_g3 _ (.inr rfl)]
def PA : Pt := ⟨[⟨0, 1⟩], 1, 0, shaL [97]⟩
theorem PA_ok : ckE PA = 0 := checkE_ok (by decide) (by decide) (by decide) (by decide) (by decide) (by decide) (by decide) (by decide) (by simp [PA, sha_len])
end Go.Proofs.YtmdjbmhjnajpgaaDoor
