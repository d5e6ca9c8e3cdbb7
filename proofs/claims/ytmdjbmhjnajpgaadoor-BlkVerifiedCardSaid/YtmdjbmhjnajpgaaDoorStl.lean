/- A region that draws its order: 'x = append(x, f(..))': the first operation reads x, quiet ones follow, then the new element is laid and appended: ONE order serves. (The kit's go_still_tail wants that the laying waits for all ahead of it: it does not wait for the reading of x: here that one is taken first, and the laying is made to wait for it.) -/
import Derived.Test.YtmdjbmhjnajpgaaDoorMem
import Derived.StillTailTactics
namespace Go.Proofs.YtmdjbmhjnajpgaaDoor
open Go

def lagO (o : Oper) : Oper := { o with after := o.after.push { on := 0, ground := .data } }
/-- operation n waits for operation 0 too -/
def lagL : List Oper → Nat → List Oper
  | [], _ => []
  | o :: r, 0 => lagO o :: r
  | o :: r, n + 1 => o :: lagL r n
theorem lagL_len : ∀ (l : List Oper) (n : Nat), (lagL l n).length = l.length
  | [], _ => rfl
  | _ :: _, 0 => rfl
  | _ :: r, n + 1 => congrArg (· + 1) (lagL_len r n)
theorem lagL_get : ∀ (l : List Oper) (n i : Nat), (lagL l n)[i]? = (l[i]?).map fun o => if i = n then lagO o else o
  | [], _, _ => by simp [lagL]
  | o :: r, 0, 0 => by simp [lagL]
  | o :: r, 0, i + 1 => by simp [lagL]
  | o :: r, n + 1, 0 => by simp [lagL]
  | o :: r, n + 1, i + 1 => by
    have := lagL_get r n i
    simp only [lagL, List.getElem?_cons_succ, this, Nat.add_right_cancel_iff]
theorem lagL_take : ∀ (l : List Oper) (n : Nat), (lagL l n).take n = l.take n
  | [], _ => rfl
  | _ :: _, 0 => rfl
  | o :: r, n + 1 => by simp only [lagL, List.take_succ_cons, lagL_take r n]
theorem lagL_drop : ∀ (l : List Oper) (n : Nat), (lagL l n).drop n = lagL (l.drop n) 0
  | [], _ => by simp [lagL]
  | _ :: _, 0 => rfl
  | o :: r, n + 1 => by simp only [lagL, List.drop_succ_cons, lagL_drop r n]

section
variable {P : Program} {l : List Oper} {n : Nat} {Q : Exit → Act → World → Prop}

theorem yielded_lag : yielded (lagL l n).toArray = yielded l.toArray := by
  funext tmps j
  unfold yielded
  have : ((lagL l n).toArray[j]?).bind (·.dst) = (l.toArray[j]?).bind (·.dst) := by
    simp only [List.getElem?_toArray, lagL_get]
    cases l[j]? with
    | none => rfl
    | some o => by_cases h : j = n <;> simp [h, lagO]
  rw [this]
theorem wpOp_lag {i : Nat} {K : Act → World → Prop} {a : Act} {w : World} : wpOp P (lagL l n).toArray Q i K a w ↔ wpOp P l.toArray Q i K a w := by
  unfold wpOp
  simp only [List.getElem?_toArray, lagL_get, yielded_lag]
  cases l[i]? with
  | none => exact Iff.rfl
  | some o => by_cases h : i = n <;> simp only [h, Option.map_some, if_true, if_false] <;> exact Iff.rfl
theorem ready_lag {md : Region.Mode} {listed : Array Bool} (h : listed.getD 0 false = true) : Region.ready md (lagL l n).toArray listed = Region.ready md l.toArray listed := by
  unfold Region.ready
  simp only [List.size_toArray, lagL_len]
  refine List.filter_congr fun i _ => ?_
  simp only [List.getElem?_toArray, lagL_get]
  cases l[i]? with
  | none => rfl
  | some o =>
    by_cases hi : i = n
    · simp only [hi, if_true, Option.map_some, lagO, Array.all_push, h, Bool.or_true, Bool.and_true]
    · simp only [hi, if_false, Option.map_some]
theorem wpAny_lag {md : Region.Mode} : ∀ (fuel : Nat) (listed : Array Bool) (a : Act) (w : World), listed.getD 0 false = true → wpAny P md (lagL l n).toArray Q fuel listed a w → wpAny P md l.toArray Q fuel listed a w
  | 0, listed, a, w, hl, h => ⟨by rw [← ready_lag hl]; exact h.1, h.2⟩
  | fuel + 1, listed, a, w, hl, h => by
    refine ⟨fun h0 => h.1 (by rw [ready_lag hl]; exact h0), fun i hi => ?_⟩
    exact wpOp_mono (fun a' w' h' => wpAny_lag fuel _ a' w' (getD_set_true hl) h') (wpOp_lag.1 (h.2 i (by rw [ready_lag hl]; exact hi)))
theorem wpStill_lag {w : World} {R : Act → Prop} : ∀ (L : List Oper) (a : Act), wpStill P l.toArray w R L a → wpStill P (lagL l n).toArray w R L a
  | [], _, h => h
  | o :: L, a, h => by
    unfold wpStill at h ⊢
    rw [yielded_lag]
    split
    · rename_i hw
      rw [if_pos hw] at h
      exact Oper.still_mono (fun a' h' => wpStill_lag L a' h') h
    · rename_i hw
      rw [if_neg hw] at h
      exact wpStill_lag L _ h
theorem wpList_lag0 (ops : Array Oper) : ∀ (L : List Oper) (a : Act) (w : World), wpList P ops Q L a w → wpList P ops Q (lagL L 0) a w
  | [], _, _, h => h
  | _ :: _, _, _, h => h
theorem wpList_lag : ∀ (L : List Oper) (a : Act) (w : World), wpList P l.toArray Q L a w → wpList P (lagL l n).toArray Q L a w
  | [], _, _, h => h
  | o :: L, a, w, h => by
    unfold wpList at h ⊢
    rw [yielded_lag]
    split
    · rename_i hw
      rw [if_pos hw] at h
      exact h.imp (Oper.wp_mono fun a' w' h' => wpList_lag L a' w' h') id
    · rename_i hw
      rw [if_neg hw] at h
      exact wpList_lag L _ _ h

def lagB (l : List Oper) (n : Nat) : Bool :=
  Region.noSelect l.toArray && Region.free .any l.toArray (Array.replicate l.length false) 0 && (Region.ready .any l.toArray (Array.replicate l.length false)).contains 0 &&
  decide (1 ≤ n) && decide (n < l.length) && Region.noSelect (lagL l n).toArray && Region.sinkB .any (lagL l n).toArray n && Region.chainB .any (lagL l n).toArray n &&
  (Region.ready .any (lagL l n).toArray (Array.replicate l.length false)).contains 0 && Region.lexHead .any (lagL l n).toArray (l.length - n) (n - 1) 1 ((Array.replicate l.length false).setIfInBounds 0 true)

theorem wp_region_lag {id : Nat} {a : Act} {w : World} (n : Nat) {o0 : Oper} {v : Value} (hm : P.follows .mixedOrders = true) (hB : lagB l n = true)
    (h0 : l[0]? = some o0) (hy : Yields P l.toArray o0 v a) (hQ : ∀ c a w, Q (.panic c) (a.put o0.dst v) w → Q (.panic c) a w)
    (h : wpStill P l.toArray w.drew (fun a' => wpList P l.toArray Q (l.drop n) a' w.drew) ((l.take n).drop 1) (a.put o0.dst v)) : (Code.region id l.toArray true).wp P Q a w := by
  simp only [lagB, Bool.and_eq_true, decide_eq_true_eq] at hB
  obtain ⟨⟨⟨⟨⟨⟨⟨⟨⟨b1, b2⟩, b3⟩, hn1⟩, hn⟩, b4⟩, b5⟩, b6⟩, b7⟩, b8⟩ := hB
  refine wp_region_any hm ?_
  rw [List.size_toArray]
  obtain ⟨m, hm⟩ : ∃ m, l.length = m + 1 := ⟨l.length - 1, by omega⟩
  have hl1 : ((Array.replicate l.length false).setIfInBounds 0 true).getD 0 false = true := by simp [hm]
  conv => arg 5; rw [hm]
  refine wpAny_take (i := 0) (oi := o0) (v := v) (by simpa using h0) b1 b2 b3 hQ hy (wpAny_lag (n := n) m _ _ _ hl1 ?_)
  have hsz : (lagL l n).toArray.size = l.length := by simp [lagL_len]
  have inv0 : HeadInv .any (lagL l n).toArray n (Array.replicate l.length false) :=
    ⟨by simp [lagL_len], fun j oj _ hl => (by rw [getD_replicate_false] at hl; cases hl), fun t _ ht => getD_in (by rw [hsz] at ht; simpa using ht) (getD_replicate_false _ _)⟩
  have inv1 := inv0.set (i := 0) (by simpa using b7) (by omega)
  have hln : ((l.take n).drop 1).length = n - 1 := by simp; omega
  have H := wpAnyL_lex (P := P) (md := .any) (ops := (lagL l n).toArray) (w := w.drew) (g := l.length - n) (Lq := fun a' => wpList P l.toArray Q (l.drop n) a' w.drew) b4 b5 b6 (by rw [hsz]; exact hn) ((l.take n).drop 1) 1 _ (a.put o0.dst v)
    (fun j hj => by
      rw [hln] at hj
      rw [List.getElem?_toArray, lagL_get]
      simp only [show ¬ 1 + j = n by omega, if_false]
      rw [List.getElem?_drop, List.getElem?_take_of_lt (by omega)]
      cases l[1 + j]? <;> rfl)
    (by rw [hln]; omega) inv1 (by rw [hln]; exact b8) (wpStill_lag _ _ h)
  have := wpAny_of_head (P := P) (md := .any) (ops := (lagL l n).toArray) (Q' := Q) (g := l.length - n) (fun listed a' hL => by
    have hd : ((lagL l n).drop n).length = l.length - n := by simp [lagL_len]
    have := wpAny_of_seq (P := P) (md := .any) (ops := (lagL l n).toArray) (Q' := Q) ((lagL l n).drop n) n listed a' w.drew (fun j => by simp [List.getElem?_drop]) (by rw [hd]; exact hL.1)
      (by rw [lagL_drop]; exact wpList_lag _ _ _ (wpList_lag0 _ _ _ _ hL.2))
    rwa [hd] at this) _ _ _ H
  rw [hln, show n - 1 + (l.length - n) = m by omega] at this
  exact this
end
theorem wp_region_quiet {P : Program} {Q : Exit → Act → World → Prop} {id : Nat} {a : Act} {w : World} {l : List Oper} (hm : P.follows .mixedOrders = true) (hB : Region.lexB .any l.toArray = true)
    (h : wpStill P l.toArray w.drew (fun a' => Q .normal a' w.drew) l a) : (Code.region id l.toArray true).wp P Q a w := wp_region_still_lit hm hB h
theorem wp_region_tail {P : Program} {Q : Exit → Act → World → Prop} {id : Nat} {a : Act} {w : World} {l : List Oper} (n : Nat) (hm : P.follows .mixedOrders = true) (hB : Region.lexTailB .any l.toArray n = true)
    (h : wpStill P l.toArray w.drew (fun a' => wpList P l.toArray Q (l.drop n) a' w.drew) (l.take n) a) : (Code.region id l.toArray true).wp P Q a w := wp_region_still_tail n hm hB h
end Go.Proofs.YtmdjbmhjnajpgaaDoor
