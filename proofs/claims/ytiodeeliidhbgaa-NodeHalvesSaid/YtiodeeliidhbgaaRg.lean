/- Regions that draw their order and whose last operations store to cells that the region loads ('x.a, x.b = f(x.a), g(x.b)'): what is held of the worlds is asked only till the first of these stores, number 'st', has come up. (After Derived/OrdersHeld.lean, where it is asked behind every operation.) -/
import Derived.Test.YtiodeeliidhbgaaMem
import Derived.Deep.RegionHeld3
namespace Go.Proofs.Ytiodeeliidhbgaa
open Go
set_option linter.unusedSimpArgs false
set_option linter.unnecessarySimpa false
set_option linter.unusedVariables false

section
variable {P : Program} {ops : Array Oper} {Q : Exit → Act → World → Prop} {md : Region.Mode} {S : World → Prop} {st : Nat}

def wpAnyX (P : Program) (md : Region.Mode) (ops : Array Oper) (Q : Exit → Act → World → Prop) (S : World → Prop) (st : Nat) : Nat → Array Bool → Act → World → Prop
  | 0, listed, a, w => Region.ready md ops listed = [] ∧ Q .normal a w
  | fuel + 1, listed, a, w =>
    (Region.ready md ops listed = [] → Q .normal a w) ∧
    ∀ i ∈ Region.ready md ops listed, wpOp P ops Q i (fun a' w' => ((listed.setIfInBounds i true).getD st false = true ∨ S w') ∧ wpAnyX P md ops Q S st fuel (listed.setIfInBounds i true) a' w') a w
theorem wpAny_of_x : ∀ (fuel : Nat) (listed : Array Bool) (a : Act) (w : World), wpAnyX P md ops Q S st fuel listed a w → wpAny P md ops Q fuel listed a w
  | 0, _, _, _, h => h
  | fuel + 1, _, _, _, h => ⟨h.1, fun i hi => wpOp_mono (fun a' w' h' => wpAny_of_x fuel _ a' w' h'.2) (h.2 i hi)⟩
theorem getD_tf {listed : Array Bool} {k : Nat} (h : listed.getD k true = false) : listed.getD k false = false := by
  rcases Nat.lt_or_ge k listed.size with h' | h'
  · simp [h'] at h ⊢; exact h
  · simp [Array.getElem?_eq_none h'] at h

/-- a load: the store waits for it -/
theorem wpAnyX_first {i : Nat} {oi os : Oper} {v : Value} (hi : ops[i]? = some oi) (hsel : ∀ (j : Nat) (o : Oper) cs b, ops[j]? = some o → o.op ≠ .select cs b)
    (hQ : ∀ c a w, Q (.panic c) (a.put oi.dst v) w → Q (.panic c) a w) (hs : ops[st]? = some os) (hw : ∃ e ∈ os.after, Region.binds md e = true ∧ e.on = i) :
    ∀ (fuel : Nat) (listed : Array Bool) (a : Act) (w : World),
      (∀ j oj, ops[j]? = some oj → j ≠ i → listed.getD j true = false → (∀ e ∈ oj.after, Region.binds md e = true → e.on ≠ i) → oi.apart ops oj = true) →
      i ∈ Region.ready md ops listed → listed.getD st true = false → YieldsIf P ops S oi v a → S w →
      wpAnyX P md ops Q S st fuel (listed.setIfInBounds i true) (a.put oi.dst v) w → wpAnyX P md ops Q S st (fuel + 1) listed a w := by
  have notReady : ∀ (listed : Array Bool), listed.getD i true = false → st ∉ Region.ready md ops listed := by
    intro listed h0 hm
    obtain ⟨_, o, ho, hall⟩ := mem_ready.1 hm
    rw [hs] at ho
    cases ho
    obtain ⟨e, he, hb, heq⟩ := hw
    have := hall e he hb
    rw [heq, getD_tf h0] at this
    cases this
  intro fuel
  induction fuel with
  | zero =>
    intro listed a w _ hr hst hy hS H
    refine ⟨fun h => (by rw [h] at hr; cases hr), fun j hj => ?_⟩
    by_cases hji : j = i
    · subst hji; exact hy.wpOp hi hS ⟨.inr hS, H⟩
    · have := ready_mono hj hji
      rw [H.1] at this
      cases this
  | succ fuel ih =>
    intro listed a w hfree hr hst hy hS H
    refine ⟨fun h => (by rw [h] at hr; cases hr), fun j hj => ?_⟩
    by_cases hji : j = i
    · subst hji; exact hy.wpOp hi hS ⟨.inr hS, H⟩
    · have h1 := H.2 j (ready_mono hj hji)
      obtain ⟨hjun, oj, hoj, hall⟩ := mem_ready.1 hj
      have hi0 := (mem_ready.1 hr).1
      have hnot : ∀ e ∈ oj.after, Region.binds md e = true → e.on ≠ i := fun e he hb heq => by
        have h1 := hall e he hb
        rw [heq, getD_tf hi0] at h1
        cases h1
      have hjst : j ≠ st := fun e => notReady listed hi0 (e ▸ hj)
      have hist : i ≠ st := fun e => notReady listed hi0 (e ▸ hr)
      have h2 := wpOp_putIf hoj (hfree j oj hoj hji hjun hnot) (fun cs b => hsel i oi cs b hi) (fun cs b => hsel j oj cs b hoj) hQ hy h1
      have hfree' : ∀ k ok, ops[k]? = some ok → k ≠ i → (listed.setIfInBounds j true).getD k true = false →
          (∀ e ∈ ok.after, Region.binds md e = true → e.on ≠ i) → oi.apart ops ok = true := fun k ok hk hki hun hno => by
        refine hfree k ok hk hki ?_ hno
        by_cases hjk : j = k
        · subst hjk; exact hjun
        · rw [getD_set_ne true hjk] at hun; exact hun
      refine wpOp_mono (fun a' w' h3 => ?_) h2
      have hS' : S w' := by
        rcases h3.2.1 with h4 | h4
        · rw [getD_set_ne false hjst, getD_set_ne false hist, getD_tf hst] at h4
          cases h4
        · exact h4
      refine ⟨.inr hS', ih (listed.setIfInBounds j true) a' w' hfree' (ready_mono hr (Ne.symm hji)) (by rw [getD_set_ne true hjst]; exact hst) h3.1 hS' ?_⟩
      rw [Array.setIfInBounds_comm _ _ hji]
      exact h3.2.2

/-- an operation that yields in whatever world -/
theorem wpAnyX_pure {i : Nat} {oi : Oper} {v : Value} (hi : ops[i]? = some oi) (hsel : ∀ (j : Nat) (o : Oper) cs b, ops[j]? = some o → o.op ≠ .select cs b)
    (hQ : ∀ c a w, Q (.panic c) (a.put oi.dst v) w → Q (.panic c) a w) (hist : i ≠ st) :
    ∀ (fuel : Nat) (listed : Array Bool) (a : Act) (w : World),
      (∀ j oj, ops[j]? = some oj → j ≠ i → listed.getD j true = false → (∀ e ∈ oj.after, Region.binds md e = true → e.on ≠ i) → oi.apart ops oj = true) →
      i ∈ Region.ready md ops listed → YieldsIf P ops (fun _ => True) oi v a → (listed.getD st false = true ∨ S w) →
      wpAnyX P md ops Q S st fuel (listed.setIfInBounds i true) (a.put oi.dst v) w → wpAnyX P md ops Q S st (fuel + 1) listed a w := by
  intro fuel
  induction fuel with
  | zero =>
    intro listed a w _ hr hy hS H
    refine ⟨fun h => (by rw [h] at hr; cases hr), fun j hj => ?_⟩
    by_cases hji : j = i
    · subst hji; exact hy.wpOp hi trivial ⟨hS.imp getD_set_true id, H⟩
    · have := ready_mono hj hji
      rw [H.1] at this
      cases this
  | succ fuel ih =>
    intro listed a w hfree hr hy hS H
    refine ⟨fun h => (by rw [h] at hr; cases hr), fun j hj => ?_⟩
    by_cases hji : j = i
    · subst hji; exact hy.wpOp hi trivial ⟨hS.imp getD_set_true id, H⟩
    · have h1 := H.2 j (ready_mono hj hji)
      obtain ⟨hjun, oj, hoj, hall⟩ := mem_ready.1 hj
      have hi0 := (mem_ready.1 hr).1
      have hnot : ∀ e ∈ oj.after, Region.binds md e = true → e.on ≠ i := fun e he hb heq => by
        have h1 := hall e he hb
        rw [heq, getD_tf hi0] at h1
        cases h1
      have h2 := wpOp_putIf hoj (hfree j oj hoj hji hjun hnot) (fun cs b => hsel i oi cs b hi) (fun cs b => hsel j oj cs b hoj) hQ hy h1
      have hfree' : ∀ k ok, ops[k]? = some ok → k ≠ i → (listed.setIfInBounds j true).getD k true = false →
          (∀ e ∈ ok.after, Region.binds md e = true → e.on ≠ i) → oi.apart ops ok = true := fun k ok hk hki hun hno => by
        refine hfree k ok hk hki ?_ hno
        by_cases hjk : j = k
        · subst hjk; exact hjun
        · rw [getD_set_ne true hjk] at hun; exact hun
      refine wpOp_mono (fun a' w' h3 => ?_) h2
      have hS' : (listed.setIfInBounds j true).getD st false = true ∨ S w' := by
        refine h3.2.1.imp (fun h4 => ?_) id
        rw [Array.setIfInBounds_comm _ _ (Ne.symm hji), getD_set_ne false hist] at h4
        exact h4
      refine ⟨hS', ih (listed.setIfInBounds j true) a' w' hfree' (ready_mono hr (Ne.symm hji)) h3.1 hS' ?_⟩
      rw [Array.setIfInBounds_comm _ _ hji]
      exact h3.2.2

/-! the moves -/
/-- does operation st wait for operation i? -/
def waitsB (md : Region.Mode) (ops : Array Oper) (st i : Nat) : Bool := ((ops[st]?).map fun o => o.after.any fun e => Region.binds md e && e.on == i).getD false
theorem waits_spec {i : Nat} (h : waitsB md ops st i = true) : ∃ os, ops[st]? = some os ∧ ∃ e ∈ os.after, Region.binds md e = true ∧ e.on = i := by
  unfold waitsB at h
  cases ho : ops[st]? with
  | none => rw [ho] at h; cases h
  | some os =>
    rw [ho] at h
    simp only [Option.map_some, Option.getD_some] at h
    obtain ⟨e, he, hb⟩ := Array.any_eq_true'.1 h
    simp only [Bool.and_eq_true, beq_iff_eq] at hb
    exact ⟨os, rfl, e, he, hb⟩
theorem wpAnyX_take {i : Nat} {oi : Oper} {v : Value} {fuel : Nat} {listed : Array Bool} {a : Act} {w : World} (hi : ops[i]? = some oi)
    (hs : Region.noSelect ops = true) (hf : Region.free md ops listed i = true) (hr : (Region.ready md ops listed).contains i = true) (hwt : waitsB md ops st i = true) (hst : listed.getD st true = false)
    (hQ : ∀ c a w, Q (.panic c) (a.put oi.dst v) w → Q (.panic c) a w) (hy : YieldsIf P ops S oi v a) (hS : S w)
    (h : wpAnyX P md ops Q S st fuel (listed.setIfInBounds i true) (a.put oi.dst v) w) : wpAnyX P md ops Q S st (fuel + 1) listed a w :=
  have ⟨_, h1, h2⟩ := waits_spec hwt
  wpAnyX_first hi (Region.noSelect_spec hs) hQ h1 h2 fuel listed a w (Region.free_spec hi hf) (by simpa using hr) hst hy hS h
theorem wpAnyX_free {i : Nat} {oi : Oper} {v : Value} {fuel : Nat} {listed : Array Bool} {a : Act} {w : World} (hi : ops[i]? = some oi)
    (hs : Region.noSelect ops = true) (hf : Region.free md ops listed i = true) (hr : (Region.ready md ops listed).contains i = true) (hist : (i == st) = false)
    (hQ : ∀ c a w, Q (.panic c) (a.put oi.dst v) w → Q (.panic c) a w) (hy : YieldsIf P ops (fun _ => True) oi v a) (hS : listed.getD st false = true ∨ S w)
    (h : wpAnyX P md ops Q S st fuel (listed.setIfInBounds i true) (a.put oi.dst v) w) : wpAnyX P md ops Q S st (fuel + 1) listed a w :=
  wpAnyX_pure hi (Region.noSelect_spec hs) hQ (by simpa using hist) fuel listed a w (Region.free_spec hi hf) (by simpa using hr) hy hS h
theorem wpAnyX_done {listed : Array Bool} {a : Act} {w : World} (hr : Region.ready md ops listed = []) (h : Q .normal a w) : ∀ fuel, wpAnyX P md ops Q S st fuel listed a w
  | 0 => ⟨hr, h⟩
  | _ + 1 => ⟨fun _ => h, by rw [hr]; simp⟩
def AllReadyX (P : Program) (md : Region.Mode) (ops : Array Oper) (Q : Exit → Act → World → Prop) (S : World → Prop) (st fuel : Nat) (listed : Array Bool) (a : Act) (w : World) (rs : List Nat) : Prop :=
  ∀ i ∈ rs, wpOp P ops Q i (fun a' w' => ((listed.setIfInBounds i true).getD st false = true ∨ S w') ∧ wpAnyX P md ops Q S st fuel (listed.setIfInBounds i true) a' w') a w
theorem AllReadyX.nil {fuel : Nat} {listed : Array Bool} {a : Act} {w : World} : AllReadyX P md ops Q S st fuel listed a w [] := fun _ h => by cases h
/-- ahead of the store: S is to be shown -/
theorem AllReadyX.cons {fuel : Nat} {listed : Array Bool} {a : Act} {w : World} {i : Nat} {o : Oper} {rs : List Nat} (ho : ops[i]? = some o)
    (h : ∀ K' : Act → World → Prop, Shut (∀ a w, S w → (S w → wpAnyX P md ops Q S st fuel (listed.setIfInBounds i true) a w) → K' a w) → if Region.wanted o (yielded ops a.tmps) = true then Oper.wp P o a w K' Q else K' (a.put o.dst undef) w)
    (hs : AllReadyX P md ops Q S st fuel listed a w rs) : AllReadyX P md ops Q S st fuel listed a w (i :: rs) := fun j hj => by
  rcases List.mem_cons.1 hj with rfl | hj
  · exact wpOp_step ho (fun K' hK => h K' (fun a w hS hW => hK a w ⟨.inr hS, hW hS⟩))
  · exact hs j hj
/-- the store itself, and what comes behind it -/
theorem AllReadyX.late {fuel : Nat} {listed : Array Bool} {a : Act} {w : World} {i : Nat} {o : Oper} {rs : List Nat} (ho : ops[i]? = some o) (hl : (listed.setIfInBounds i true).getD st false = true)
    (h : ∀ K' : Act → World → Prop, Shut (∀ a w, wpAnyX P md ops Q S st fuel (listed.setIfInBounds i true) a w → K' a w) → if Region.wanted o (yielded ops a.tmps) = true then Oper.wp P o a w K' Q else K' (a.put o.dst undef) w)
    (hs : AllReadyX P md ops Q S st fuel listed a w rs) : AllReadyX P md ops Q S st fuel listed a w (i :: rs) := fun j hj => by
  rcases List.mem_cons.1 hj with rfl | hj
  · exact wpOp_step ho (fun K' hK => h K' (fun a w hW => hK a w ⟨.inl hl, hW⟩))
  · exact hs j hj
theorem wpAnyX_ready {rs : List Nat} {fuel : Nat} {listed : Array Bool} {a : Act} {w : World} (hr : Region.ready md ops listed = rs) (hne : rs ≠ [])
    (h : AllReadyX P md ops Q S st fuel listed a w rs) : wpAnyX P md ops Q S st (fuel + 1) listed a w := ⟨fun h0 => absurd (hr ▸ h0) hne, hr ▸ h⟩
theorem wp_region_x {id : Nat} {a : Act} {w : World} (st : Nat) (hm : P.follows .mixedOrders = true) (hS : S w.drew)
    (h : S w.drew → wpAnyX P .any ops Q S st ops.size (Array.replicate ops.size false) a w.drew) : (Code.region id ops true).wp P Q a w :=
  wp_region_any hm (wpAny_of_x _ _ _ _ (h hS))
end
end Go.Proofs.Ytiodeeliidhbgaa
