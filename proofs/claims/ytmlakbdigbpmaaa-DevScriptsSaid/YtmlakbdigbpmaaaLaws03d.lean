/- The walk of the law DevFlushed: it returns true at every input, and writes to nothing that was there. No condition but that numbers fit their kind. -/
import Derived.Test.YtmlakbdigbpmaaaLaws03c
namespace Go.Proofs.Ytmlakbdigbpmaaa
open Go.RowKit
set_option linter.unusedSimpArgs false
set_option linter.unnecessarySimpa false
set_option linter.unusedVariables false

/-- was it found, with the first n of a script looked through -/
def fnd (l : List D_permafrostlaw03_Op) (p : Lc) (x : List UInt8) (b : Bool) : Nat → Bool
  | 0 => b
  | n + 1 => fnd l p x b n || (match l[n]? with | some o => (o.l.dev == p.dev && o.l.at_ == p.pos) && o.s == x | none => false)
theorem fnd_mono {l : List D_permafrostlaw03_Op} {p : Lc} {x : List UInt8} {b : Bool} {n m : Nat} (h : n ≤ m) (hf : fnd l p x b n = true) : fnd l p x b m = true := by
  induction m with
  | zero => obtain rfl : n = 0 := by omega
            exact hf
  | succ m ih =>
    rcases Nat.lt_or_ge m n with h1 | h1
    · obtain rfl : n = m + 1 := by omega
      exact hf
    · unfold fnd
      rw [ih h1, Bool.true_or]
theorem fnd_hit {l : List D_permafrostlaw03_Op} {p : Lc} {x : List UInt8} {b : Bool} {o : D_permafrostlaw03_Op} (ho : o ∈ l) (h1 : toLc o.l = p) (h2 : o.s = x) : fnd l p x b l.length = true := by
  obtain ⟨i, hi, rfl⟩ := List.mem_iff_getElem.1 ho
  refine fnd_mono (n := i + 1) hi ?_
  unfold fnd
  rw [List.getElem?_eq_getElem hi]
  have e1 : l[i].l.dev = p.dev := by rw [← h1]; rfl
  have e2 : l[i].l.at_ = p.pos := by rw [← h1]; rfl
  simp [e1, e2, h2]
theorem fnd_same {l : List D_permafrostlaw03_Op} {p : Lc} {x : List UInt8} : fnd l p x true l.length = true := fnd_mono (Nat.zero_le _) rfl
/-- each write that waits is of the script -/
theorem scr_from {l : List D_permafrostlaw03_Op} {d : Dv} (h0 : d.ws = []) : ∀ k, ∀ x ∈ (scrD l d k).ws, ∃ o ∈ l, toLc o.l = x.loc ∧ o.s = x.text
  | 0, x, hx => by simp [scrD, h0] at hx
  | k + 1, x, hx => by
    unfold scrD at hx
    split at hx
    · rename_i o ho
      unfold Dv.write at hx
      split at hx
      · rcases List.mem_append.1 hx with hx | hx
        · exact scr_from h0 k x hx
        · simp at hx; subst hx; exact ⟨o, List.mem_of_getElem? ho, rfl, rfl⟩
      · exact scr_from h0 k x hx
    · exact scr_from h0 k x hx
/-- a sector behind writes is what it was, or what one of them says -/
theorem settle_sec (d : Dv) (hok : d.ok) (kf : Nat → Bool) (dv : Int) (h01 : dv = 0 ∨ dv = 1) (at_ : Nat) (ha : at_ < (d.sec dv).length) : ∀ n, ((d.settle kf n).sec dv).getD at_ [] = (d.sec dv).getD at_ [] ∨ ∃ x ∈ d.ws, x.loc = ⟨dv, at_⟩ ∧ x.text = ((d.settle kf n).sec dv).getD at_ []
  | 0 => .inl rfl
  | n + 1 => by
    have ih := settle_sec d hok kf dv h01 at_ ha n
    have hl := Dv.settle_len d kf n
    unfold Dv.settle
    split
    · split
      · rename_i x hx
        have hxm : x ∈ d.ws := List.mem_of_getElem? hx
        obtain ⟨p1, p2, p3⟩ := hok.ws x hxm
        by_cases e : x.loc = ⟨dv, at_⟩
        · right
          refine ⟨x, hxm, e, ?_⟩
          unfold Dv.put Dv.sec
          rw [e]
          rcases h01 with rfl | rfl
          · have : at_ < (d.settle kf n).s0.length := by rw [hl.1]; simpa [Dv.sec] using ha
            simp [this]
          · have : at_ < (d.settle kf n).s1.length := by rw [hl.2]; simpa [Dv.sec] using ha
            simp [this]
        · have same : (((d.settle kf n).put x).sec dv).getD at_ [] = ((d.settle kf n).sec dv).getD at_ [] := by
            obtain ⟨⟨xd, xp⟩, xt⟩ := x
            simp only at p1 p2 p3 e
            have hx01 : xd = 0 ∨ xd = 1 := by simpa [isB] using p1
            unfold Dv.put Dv.sec
            simp only
            rcases h01 with rfl | rfl <;> rcases hx01 with rfl | rfl
            · have : xp.toNat ≠ at_ := fun e2 => e (by congr; omega)
              simp [List.getElem?_set_ne this]
            · simp
            · simp
            · have : xp.toNat ≠ at_ := fun e2 => e (by congr; omega)
              simp [List.getElem?_set_ne this]
          rw [same]
          exact ih
      · exact ih
    · exact ih
theorem settle_flags (d : Dv) (kf : Nat → Bool) : ∀ n, (d.settle kf n).l0 = d.l0 ∧ (d.settle kf n).l1 = d.l1
  | 0 => ⟨rfl, rfl⟩
  | n + 1 => by
    have ih := settle_flags d kf n
    unfold Dv.settle
    split
    · split
      · unfold Dv.put
        split <;> exact ih
      · exact ih
    · exact ih
/-- devices of 20 and 20 sectors, none lost -/
structure Two20 (d : Dv) : Prop where
  n0 : d.s0.length = 20
  n1 : d.s1.length = 20
  l0 : d.l0 = false
  l1 : d.l1 = false
theorem Two20.scr {d : Dv} (h : Two20 d) (l : List D_permafrostlaw03_Op) (k : Nat) : Two20 (scrD l d k) := by
  have := SameS.scr l d k
  exact ⟨by rw [this.s0]; exact h.n0, by rw [this.s1]; exact h.n1, by rw [this.l0]; exact h.l0, by rw [this.l1]; exact h.l1⟩
theorem Two20.settled {d e : Dv} (h : Two20 d) {kf : Nat → Bool} {n : Nat} (e0 : e.s0 = (d.settle kf n).s0) (e1 : e.s1 = (d.settle kf n).s1) (e2 : e.l0 = (d.settle kf n).l0) (e3 : e.l1 = (d.settle kf n).l1) : Two20 e :=
  ⟨by rw [e0, (d.settle_len kf n).1]; exact h.n0, by rw [e1, (d.settle_len kf n).2]; exact h.n1, by rw [e2, (settle_flags d kf n).1]; exact h.l0, by rw [e3, (settle_flags d kf n).2]; exact h.l1⟩
theorem Two20.sec {d : Dv} (h : Two20 d) {dv : Int} (h01 : dv = 0 ∨ dv = 1) : isB dv = true ∧ (d.sec dv).length = 20 ∧ d.gone dv = false := by
  rcases h01 with rfl | rfl
  · exact ⟨rfl, h.n0, h.l0⟩
  · exact ⟨rfl, h.n1, h.l1⟩
theorem flushed_found (la : List D_permafrostlaw03_Op) (kl : List Bool) (d1 : Dv) (h1 : Two20 d1) (hw : d1.ws = []) (hok : d1.ok) (hok2 : (scrD la d1 la.length).ok) (dv : Int) (h01 : dv = 0 ∨ dv = 1) (at_ : Nat) (ha : at_ < 20) :
    ∃ x y, ((scrD la d1 la.length).crash kl).read ⟨dv, at_⟩ = (x, 0) ∧ d1.read ⟨dv, at_⟩ = (y, 0) ∧ fnd la ⟨dv, at_⟩ x (x == y) la.length = true := by
  have h2 := h1.scr la la.length
  have h3 : Two20 ((scrD la d1 la.length).crash kl) := h2.settled rfl rfl rfl rfl
  obtain ⟨a1, a2, a3⟩ := h1.sec h01
  obtain ⟨b1, b2, b3⟩ := h3.sec h01
  refine ⟨_, _, read_ok20 b1 b2 b3 ha, read_ok20 a1 a2 a3 ha, ?_⟩
  have e1 : d1.look ⟨dv, at_⟩ = (d1.sec dv).getD at_ [] := by
    unfold Dv.look
    rw [hw]
    simp
  have e3 : ((scrD la d1 la.length).crash kl).look ⟨dv, at_⟩ = (((scrD la d1 la.length).settle (kpB kl) (scrD la d1 la.length).ws.length).sec dv).getD at_ [] := by
    unfold Dv.look
    simp [Dv.crash, Dv.sec]
  have es : (scrD la d1 la.length).sec dv = d1.sec dv := by
    have := SameS.scr la d1 la.length
    unfold Dv.sec
    rw [this.s0, this.s1]
  rcases settle_sec _ hok2 (kpB kl) dv h01 at_ (by rw [es, a2]; exact ha) (scrD la d1 la.length).ws.length with e | ⟨x, hx, hx1, hx2⟩
  · have : (((scrD la d1 la.length).crash kl).look ⟨dv, at_⟩ == d1.look ⟨dv, at_⟩) = true := by rw [beq_iff_eq, e3, e1, e, es]
    rw [this]
    exact fnd_same
  · obtain ⟨o, ho, o1, o2⟩ := scr_from hw _ x hx
    exact fnd_hit ho (o1.trans hx1) (by rw [o2, hx2, ← e3])

end Go.Proofs.Ytmlakbdigbpmaaa
