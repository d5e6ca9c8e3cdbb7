/- Cells that are written one behind the other; slices.Insert and slices.Delete at a row of strings of the call's own: contracts. -/
import Derived.Test.YtiodeeliidhbgaaNd7
import Derived.Test.YtiodeeliidhbgaaShelf
namespace Go.Proofs.Ytiodeeliidhbgaa
open Go Go.RowKit
set_option linter.unusedSimpArgs false
set_option linter.unnecessarySimpa false
set_option linter.unusedVariables false

theorem setCells_blk {b : Nat} {t : TypeId} : ∀ (vs : List Value) (o : Nat) (cs : List Value) (w : World), Blk w b t cs.toArray → o + vs.length ≤ cs.length → Blk (w.setCells b o vs) b t (cs.take o ++ vs ++ cs.drop (o + vs.length)).toArray
  | [], o, cs, w, h, _ => by simpa [World.setCells] using h
  | v :: r, o, cs, w, h, hl => by
    rw [World.setCells]
    have h1 := h.set_ o v
    rw [List.setIfInBounds_toArray] at h1
    simp only [List.length_cons] at hl
    have h2 := setCells_blk r (o + 1) (cs.set o v) _ h1 (by rw [List.length_set]; omega)
    have e : (cs.set o v).take (o + 1) ++ r ++ (cs.set o v).drop (o + 1 + r.length) = cs.take o ++ (v :: r) ++ cs.drop (o + (v :: r).length) := by
      have e1 : (cs.set o v).take (o + 1) = cs.take o ++ [v] := by
        rw [List.take_succ_eq_append_getElem (by rw [List.length_set]; omega), List.take_set, List.set_eq_of_length_le (by rw [List.length_take]; omega)]
        simp
      have e2 : (cs.set o v).drop (o + 1 + r.length) = cs.drop (o + (v :: r).length) := by
        rw [List.drop_set_of_lt (by omega), List.length_cons]
        congr 1
        omega
      rw [e1, e2]
      simp
    rw [e] at h2
    exact h2
theorem setCells_keep {B : Nat} {S : Nat → Prop} {b : Nat} : ∀ (vs : List Value) (o : Nat) (w w' : World), Keep B S w w' → (B ≤ b ∨ S b) → Keep B S w (w'.setCells b o vs)
  | [], _, _, _, h, _ => h
  | v :: r, o, w, w', h, hb => by
    rw [World.setCells]
    exact setCells_keep r (o + 1) w _ (h.setCell (p := ⟨b, o, none⟩) hb v) hb
theorem setCells_size (b : Nat) : ∀ (vs : List Value) (o : Nat) (w : World), (w.setCells b o vs).heap.size = w.heap.size
  | [], _, _ => rfl
  | v :: r, o, w => by rw [World.setCells, setCells_size b r]; simp
theorem row_of_blk {w : World} {B g cap n size : Nat} {e : TypeId} {xs rest : List Value} (h : Blk w g e (xs ++ rest).toArray) (hB : B ≤ g) (hx : xs.length = n * size) (hn : n ≤ cap) (hc : cap ≤ maxLen) (hs : (xs ++ rest).length = cap * size) : w.ownsRow B e size (.slice (some ⟨g, 0, none⟩) n cap) n xs :=
  ⟨hx, .inr ⟨g, cap, _, rfl, hB, h, hn, hc, by simpa using hs, by rw [← hx]; simp⟩⟩
theorem blk_of_row {w : World} {B g cap n size : Nat} {e : TypeId} {xs : List Value} (h : w.ownsRow B e size (.slice (some ⟨g, 0, none⟩) n cap) n xs) : ∃ rest, Blk w g e (xs ++ rest).toArray ∧ (xs ++ rest).length = cap * size ∧ B ≤ g ∧ n ≤ cap ∧ cap ≤ maxLen := by
  rcases h.2 with ⟨e, _⟩ | ⟨g', cap', cur, e, hB, hc, h1, h2, h3, h4⟩
  · cases e
  · cases e
    refine ⟨cur.toList.drop (n * size), ?_, ?_, hB, h1, h2⟩
    · rw [← h4, List.take_append_drop]
      exact hc
    · rw [← h4, List.take_append_drop]
      simpa using h3
theorem zero_len (n : Nat) : (Builtin.zeroCells (Value.string ⟨#[]⟩).cells n).toList.length = n := by
  rw [Array.length_toList, size_zeroCells]
  simp [Value.cells]
theorem shift_list (A B sp : List Value) (s0 x : Value) :
    (((A ++ B ++ s0 :: sp).take (A.length + 1) ++ B ++ (A ++ B ++ s0 :: sp).drop (A.length + 1 + B.length)).take A.length ++ [x] ++ ((A ++ B ++ s0 :: sp).take (A.length + 1) ++ B ++ (A ++ B ++ s0 :: sp).drop (A.length + 1 + B.length)).drop (A.length + [x].length)) = A ++ x :: B ++ sp := by
  have h0 : ∃ c0, (A ++ B ++ s0 :: sp).take (A.length + 1) = A ++ [c0] := by
    rcases B with _ | ⟨b, B⟩
    · exact ⟨s0, by simp [List.take_append, List.take_of_length_le]⟩
    · exact ⟨b, by simp [List.take_append, List.take_of_length_le]⟩
  obtain ⟨c0, h0⟩ := h0
  have h1 : (A ++ B ++ s0 :: sp).drop (A.length + 1 + B.length) = sp := by
    have e : A ++ B ++ s0 :: sp = (A ++ B ++ [s0]) ++ sp := by simp
    rw [e, List.drop_append_of_le_length (by simp; omega), List.drop_of_length_le (by simp; omega)]
    rfl
  rw [h0, h1]
  have e2 : A ++ [c0] ++ B ++ sp = A ++ ([c0] ++ B ++ sp) := by simp
  rw [e2, List.take_left, List.length_singleton]
  have e3 : (A ++ ([c0] ++ B ++ sp)).drop (A.length + 1) = B ++ sp := by
    rw [List.drop_append]
    simp
  rw [e3]
  simp

theorem insert_any (B : Nat) (v : Value) (l : List (List UInt8)) (n i : Nat) (x : List UInt8) (vb : Nat) (hi : i ≤ n) (hn : n ≤ 1000000) (w : World) (h : w.ownsRow B 9 1 v n (secV l)) (hvb : Blk w vb 9 #[.string (bstr x)]) (hne : v.ownBlock ≠ some vb) (hB : B ≤ w.heap.size) :
    Calls Try.prog 54 #[v, .int .i64 i, .slice (some ⟨vb, 0, none⟩) 1 1] w fun e w' => ∃ u, e = .returned u ∧ w'.ownsRow B 9 1 u (n + 1) (secV (l.take i ++ x :: l.drop i)) ∧ (∀ k, u.ownBlock = some k → v.ownBlock = some k ∨ w.heap.size ≤ k) ∧ Keep w.heap.size (fun k => v.ownBlock = some k) w w' := by
  have hl : l.length = n := by have := h.1; simpa [secV] using this
  have hsv : secV (l.take i ++ x :: l.drop i) = (secV l).take i ++ Value.string (bstr x) :: (secV l).drop i := by simp [secV, List.map_take, List.map_drop]
  have hcl : (secV l).length = n := by rw [secV_len, hl]
  have hvs : ∀ j u, [Value.string (bstr x)][j]? = some u → w.cell? ⟨vb, 0 + j, none⟩ = some u := by
    intro j u hj
    rw [Nat.zero_add, hvb.cell]
    rcases j with _ | j
    · simpa using hj
    · simp at hj
  have h1v : ∀ u ∈ [Value.string (bstr x)], u.oneCell' = true := by intro u hu; simp at hu; subst hu; rfl
  rw [hsv]
  have hal : ((secV l).take i).length = i := by rw [List.length_take]; omega
  have hdl : ((secV l).drop i).length = n - i := by rw [List.length_drop]; omega
  have hML : (1000002 : Nat) ≤ maxLen := by unfold maxLen; decide
  rcases h.2 with ⟨rfl, hn0⟩ | ⟨g, cap, cur, rfl, hg, hgb, hnc, hcm, _, _⟩
  · subst hn0
    have hl0 : l = [] := List.length_eq_zero_iff.1 hl
    subst hl0
    obtain rfl : i = 0 := by omega
    refine (Any2.slices_Insert_string_end_grow Try.L22 none 0 0 vb 0 1 1 [] [.string (bstr x)] w (by decide) (by decide) (by decide) (by decide) rfl rfl (fun _ => rfl) (fun a e => by cases e) hvs h1v).mono ?_
    rintro e w' ⟨rfl, rfl⟩
    have hcap := grownCap_ge w (0 + 1) 0 (Try.lays22_ren.t 9)
    have hcm := grownCap_le_maxLen w (0 + 1) 0 (Try.lays22_ren.t 9) (by omega)
    generalize grownCap w (0 + 1) 0 (Try.lays22_ren.t 9) = gc at hcap hcm ⊢
    refine ⟨_, rfl, ?_, fun k e => .inr (by cases e; exact Nat.le_refl _), (Keep.refl _ _ _).drew.alloc (Nat.le_refl _) _⟩
    have hb := Blk.new w.drew 9 (([] ++ [Value.string (bstr x)]).toArray ++ Builtin.zeroCells (Value.string ⟨#[]⟩).cells (gc - (0 + 1)))
    refine row_of_blk (rest := (Builtin.zeroCells (Value.string ⟨#[]⟩).cells (gc - (0 + 1))).toList) ?_ hB (by simp [secV]) hcap hcm ?_
    · have e : (secV []).take 0 ++ Value.string (bstr x) :: (secV []).drop 0 ++ (Builtin.zeroCells (Value.string ⟨#[]⟩).cells (gc - (0 + 1))).toList = (([] ++ [Value.string (bstr x)]).toArray ++ Builtin.zeroCells (Value.string ⟨#[]⟩).cells (gc - (0 + 1))).toList := by simp [secV]
      rw [e, Array.toArray_toList]
      exact hb
    · rw [List.length_append, zero_len]
      simp [secV]
      omega
  · obtain ⟨rest, hbk, hrl, _, _, _⟩ := blk_of_row h
    have hrl : n + rest.length = cap := by rw [List.length_append, hcl] at hrl; omega
    have hgl : g < w.heap.size := hbk.lt
    have hgv : vb ≠ g := fun e => hne (by rw [e]; rfl)
    have hcell : ∀ j u, (secV l ++ rest)[j]? = some u → w.cell? ⟨g, j, none⟩ = some u := by
      intro j u hj
      rw [hbk.cell]
      simpa using hj
    have hcs : ∀ j u, (secV l)[j]? = some u → w.cell? ⟨g, 0 + j, none⟩ = some u := by
      intro j u hj
      rw [Nat.zero_add]
      refine hcell j u ?_
      rw [List.getElem?_append_left (by
        rcases Nat.lt_or_ge j (secV l).length with h | h
        · exact h
        · rw [List.getElem?_eq_none h] at hj; cases hj)]
      exact hj
    have hsome : ∀ j, j < cap → (w.cell? ⟨g, j, none⟩).isSome = true := by
      intro j hj
      have : j < (secV l ++ rest).length := by rw [List.length_append, hcl]; omega
      rw [hcell j _ (List.getElem?_eq_getElem this)]
      rfl
    have hfz : ∀ j, w.frozen? ⟨g, j, none⟩ = false := fun j => hbk.frozen j
    have hkin : ∀ w', Keep w.heap.size (fun k => k = g) w w' → Keep w.heap.size (fun k => (Value.slice (some ⟨g, 0, none⟩) n cap).ownBlock = some k) w w' := fun w' hk => hk.mono (Nat.le_refl _) (fun k _ e => by subst e; rfl)
    by_cases hin : i = n
    · subst hin
      have ht : (secV l).take i = secV l := List.take_of_length_le (by omega)
      have hd : (secV l).drop i = [] := List.drop_of_length_le (by omega)
      rw [ht, hd]
      by_cases hroom : i + 1 ≤ cap
      · refine (Any2.slices_Insert_string_end_room Try.L22 g 0 i cap vb 0 1 1 [.string (bstr x)] w (by decide) hroom hcm rfl (fun j hj => by rw [Nat.zero_add]; exact hsome _ (by omega)) (fun j hj => by rw [Nat.zero_add]; exact hfz _) hvs h1v).mono ?_
        rintro e w' ⟨rfl, rfl⟩
        refine ⟨_, rfl, ?_, fun k e => .inl e, hkin _ (setCells_keep _ _ _ _ (Keep.refl _ _ _) (.inr rfl))⟩
        rcases rest with _ | ⟨s0, rest⟩
        · simp at hrl; omega
        have hb := setCells_blk [Value.string (bstr x)] (0 + i) _ _ hbk (by rw [List.length_append, hcl]; simp)
        have e : (secV l ++ s0 :: rest).take (0 + i) ++ [Value.string (bstr x)] ++ (secV l ++ s0 :: rest).drop (0 + i + [Value.string (bstr x)].length) = (secV l ++ [Value.string (bstr x)]) ++ rest := by
          have e1 : (secV l ++ s0 :: rest).take (0 + i) = secV l := by
            rw [Nat.zero_add, ← hcl]
            exact List.take_left
          have e2 : (secV l ++ s0 :: rest).drop (0 + i + [Value.string (bstr x)].length) = rest := by
            rw [Nat.zero_add, ← hcl, List.length_singleton, List.drop_append]
            simp
          rw [e1, e2]
        rw [e] at hb
        exact row_of_blk hb hg (by simp [hcl]) hroom hcm (by simp [hcl] at hrl ⊢; omega)
      · refine (Any2.slices_Insert_string_end_grow Try.L22 (some ⟨g, 0, none⟩) i cap vb 0 1 1 (secV l) [.string (bstr x)] w (by decide) hnc (by omega) (by omega) hcl rfl (fun e => by cases e) (fun a e j u hj => by cases e; rw [addr_add]; exact hcs j u hj) hvs h1v).mono ?_
        rintro e w' ⟨rfl, rfl⟩
        have hcap := grownCap_ge w (i + 1) cap (Try.lays22_ren.t 9)
        have hcm2 := grownCap_le_maxLen w (i + 1) cap (Try.lays22_ren.t 9) (by omega)
        generalize grownCap w (i + 1) cap (Try.lays22_ren.t 9) = gc at hcap hcm2 ⊢
        refine ⟨_, rfl, ?_, fun k e => .inr (by cases e; exact Nat.le_refl _), (Keep.refl _ _ _).drew.alloc (Nat.le_refl _) _⟩
        have hb := Blk.new w.drew 9 ((secV l ++ [Value.string (bstr x)]).toArray ++ Builtin.zeroCells (Value.string ⟨#[]⟩).cells (gc - (i + 1)))
        refine row_of_blk (rest := (Builtin.zeroCells (Value.string ⟨#[]⟩).cells (gc - (i + 1))).toList) ?_ hB (by simp [hcl]) hcap hcm2 ?_
        · have e : secV l ++ [Value.string (bstr x)] ++ (Builtin.zeroCells (Value.string ⟨#[]⟩).cells (gc - (i + 1))).toList = ((secV l ++ [Value.string (bstr x)]).toArray ++ Builtin.zeroCells (Value.string ⟨#[]⟩).cells (gc - (i + 1))).toList := by simp
          rw [e, Array.toArray_toList]
          exact hb
        · rw [List.length_append, zero_len]
          simp [hcl]
          omega
    · by_cases hroom : n + 1 ≤ cap
      · refine (Any2.slices_Insert_string_shift Try.L22 g 0 n cap i vb 0 1 1 (secV l) [.string (bstr x)] w (by omega) (by decide) hroom hcm hgv hcl rfl hcs (fun j hj => by rw [Nat.zero_add]; exact hsome _ (by omega)) (fun j hj => by rw [Nat.zero_add]; exact hfz _) hvs (secV_one l) h1v 9 9 1 (secV l ++ rest).length (by rw [Blk] at hvb; simp [World.shape?, hvb]) (by rw [Blk] at hbk; simp [World.shape?, hbk]) (by rw [List.length_append, hcl]; omega) (hvb.frozen 0) (hvb.frozen 1)).mono ?_
        rintro e w' ⟨rfl, rfl⟩
        refine ⟨_, rfl, ?_, fun k e => .inl e, hkin _ (setCells_keep _ _ _ _ (setCells_keep _ _ _ _ (Keep.refl _ _ _).drew (.inr rfl)) (.inr rfl))⟩
        rcases rest with _ | ⟨s0, rest⟩
        · simp at hrl; omega
        simp only [List.length_cons] at hrl
        have hb := setCells_blk ((secV l).drop i) (0 + (i + 1)) _ _ (Blk.drew hbk) (by rw [List.length_append, hcl, hdl]; simp; omega)
        have hb2 := setCells_blk [Value.string (bstr x)] (0 + i) _ _ hb (by
          rw [List.length_append, List.length_append, hdl, List.length_take, List.length_drop, List.length_append, hcl]
          simp
          omega)
        have e0 := shift_list ((secV l).take i) ((secV l).drop i) rest s0 (.string (bstr x))
        rw [List.take_append_drop, hal, hdl] at e0
        rw [hdl, Nat.zero_add, Nat.zero_add, e0] at hb2
        rw [Nat.zero_add, Nat.zero_add]
        refine row_of_blk hb2 hg ?_ hroom hcm ?_
        · rw [List.length_append, List.length_cons, hal, hdl]; omega
        · rw [List.length_append, List.length_append, List.length_cons, hal, hdl]; omega
      · refine (Any2.slices_Insert_string_grow Try.L22 g 0 n cap i vb 0 1 1 (secV l) [.string (bstr x)] w (by omega) (by decide) hnc (by omega) (by omega) hcl rfl hcs hvs (secV_one l) h1v).mono ?_
        rintro e w' ⟨rfl, rfl⟩
        have hcap := grownCap_ge w (n + 1) cap (Try.lays22_ren.t 9)
        have hcm2 := grownCap_le_maxLen w (n + 1) cap (Try.lays22_ren.t 9) (by omega)
        generalize grownCap w (n + 1) cap (Try.lays22_ren.t 9) = gc at hcap hcm2 ⊢
        refine ⟨_, rfl, ?_, fun k e => .inr (by cases e; exact Nat.le_refl _), setCells_keep _ _ _ _ (setCells_keep _ _ _ _ ((Keep.refl _ _ _).alloc (Nat.le_refl _) _).drew (.inl (Nat.le_refl _))).drew (.inl (Nat.le_refl _))⟩
        have hb := Blk.new w 9 (((secV l).take i).toArray ++ Builtin.zeroCells (Value.string ⟨#[]⟩).cells (n + 1 - i) ++ Builtin.zeroCells (Value.string ⟨#[]⟩).cells (gc - (n + 1)))
        have e0 : ((secV l).take i).toArray ++ Builtin.zeroCells (Value.string ⟨#[]⟩).cells (n + 1 - i) ++ Builtin.zeroCells (Value.string ⟨#[]⟩).cells (gc - (n + 1)) = ((secV l).take i ++ (Builtin.zeroCells (Value.string ⟨#[]⟩).cells (n + 1 - i)).toList ++ (Builtin.zeroCells (Value.string ⟨#[]⟩).cells (gc - (n + 1))).toList).toArray := by simp
        rw [e0] at hb ⊢
        have z1 := zero_len (n + 1 - i)
        have z2 := zero_len (gc - (n + 1))
        generalize (Builtin.zeroCells (Value.string ⟨#[]⟩).cells (n + 1 - i)).toList = Z1 at hb z1 ⊢
        generalize (Builtin.zeroCells (Value.string ⟨#[]⟩).cells (gc - (n + 1))).toList = Z2 at hb z2 ⊢
        have hb1 := setCells_blk [Value.string (bstr x)] i _ _ (Blk.drew hb) (by rw [List.length_append, List.length_append, hal]; simp; omega)
        have hb2 := setCells_blk ((secV l).drop i) (i + 1) _ _ (Blk.drew hb1) (by
          simp only [List.length_append, List.length_take, List.length_drop, List.length_cons, List.length_nil]
          omega)
        have e1 : ((secV l).take i ++ Z1 ++ Z2).take i ++ [Value.string (bstr x)] ++ ((secV l).take i ++ Z1 ++ Z2).drop (i + [Value.string (bstr x)].length) = ((secV l).take i ++ [Value.string (bstr x)]) ++ (Z1.drop 1 ++ Z2) := by
          have f1 : ((secV l).take i ++ Z1 ++ Z2).take i = (secV l).take i := by
            rw [List.append_assoc, List.take_append_of_le_length (by omega), List.take_of_length_le (by omega)]
          have f2 : ((secV l).take i ++ Z1 ++ Z2).drop (i + [Value.string (bstr x)].length) = Z1.drop 1 ++ Z2 := by
            rw [List.append_assoc, List.drop_append, hal, List.drop_of_length_le (by simp; omega), List.length_singleton, show i + 1 - i = 1 by omega, List.drop_append, show 1 - Z1.length = 0 by omega]
            simp
          rw [f1, f2]
        rw [e1] at hb2
        have hal2 : ((secV l).take i ++ [Value.string (bstr x)]).length = i + 1 := by rw [List.length_append, hal]; rfl
        have e2 : ((secV l).take i ++ [Value.string (bstr x)] ++ (Z1.drop 1 ++ Z2)).take (i + 1) ++ (secV l).drop i ++ ((secV l).take i ++ [Value.string (bstr x)] ++ (Z1.drop 1 ++ Z2)).drop (i + 1 + ((secV l).drop i).length) = ((secV l).take i ++ Value.string (bstr x) :: (secV l).drop i) ++ Z2 := by
          have f1 : ((secV l).take i ++ [Value.string (bstr x)] ++ (Z1.drop 1 ++ Z2)).take (i + 1) = (secV l).take i ++ [Value.string (bstr x)] := by
            rw [List.take_append_of_le_length (by omega), List.take_of_length_le (by omega)]
          have f2 : ((secV l).take i ++ [Value.string (bstr x)] ++ (Z1.drop 1 ++ Z2)).drop (i + 1 + ((secV l).drop i).length) = Z2 := by
            rw [List.drop_append, List.drop_of_length_le (by omega), hal2, hdl, List.drop_append, List.drop_of_length_le (by rw [List.length_drop]; omega), List.length_drop, show i + 1 + (n - i) - (i + 1) - (Z1.length - 1) = 0 by omega]
            simp
          rw [f1, f2]
          simp
        rw [e2] at hb2
        refine row_of_blk hb2 hB ?_ hcap hcm2 ?_
        · rw [List.length_append, List.length_cons, hal, hdl]; omega
        · rw [List.length_append, List.length_append, List.length_cons, hal, hdl]; omega

open Go.Lib Go.Sort in
theorem strs_back (l : List (List UInt8)) : (Lib.strsOf (fun j => bstr (l.getD j [])) l.length).map encStr = secV l := by
  unfold Lib.strsOf secV
  rw [List.map_map]
  refine List.ext_getElem (by simp) (fun j h1 h2 => ?_)
  have hj : j < l.length := by simpa using h2
  simp [List.getD_eq_getElem?_getD, hj]
open Go.Lib Go.Sort in
set_option maxHeartbeats 1000000 in
theorem delete_any (B : Nat) (v : Value) (l : List (List UInt8)) (n i : Nat) (hi : i < n) (hn : n ≤ 1000000) (w : World) (h : w.ownsRow B 9 1 v n (secV l)) :
    Calls Try.prog 55 #[v, .int .i64 i, .int .i64 (i + 1 : Nat)] w fun e w' => ∃ u, e = .returned u ∧ w'.ownsRow B 9 1 u (n - 1) (secV (l.take i ++ l.drop (i + 1))) ∧ u.ownBlock = v.ownBlock ∧ Keep w.heap.size (fun k => v.ownBlock = some k) w w' := by
  have hl : l.length = n := by have := h.1; simpa [secV] using this
  have hcl : (secV l).length = n := by rw [secV_len, hl]
  rcases h.2 with ⟨rfl, hn0⟩ | ⟨g, cap, cur, rfl, hg, hgb, hnc, hcm, _, _⟩
  · omega
  · obtain ⟨rest, hbk, hrl, _, _, _⟩ := blk_of_row h
    have hrl : n + rest.length = cap := by rw [List.length_append, hcl] at hrl; omega
    have hc : ∀ j, j < n → w.cell? ⟨g, 0 + j, none⟩ = some (.string (bstr (l.getD j []))) := by
      intro j hj
      rw [Nat.zero_add, hbk.cell, List.getElem?_toArray, List.getElem?_append_left (by omega)]
      simp [secV, List.getD_eq_getElem?_getD, show j < l.length by omega]
    refine (Try.slices_Delete_string_cells g 0 n cap i (i + 1) (fun j => bstr (l.getD j [])) w hnc hcm (by omega) (by omega) hc (fun j _ => by rw [Nat.zero_add]; exact hbk.frozen j)).mono ?_
    rintro e w' ⟨rfl, q, rfl⟩
    have hsb := strs_back l
    rw [hl] at hsb
    simp only [List.map_append, List.map_take, List.map_drop, hsb]
    generalize hz : List.map encStr (List.replicate (i + 1 - i) []) = zs
    have hzl : zs.length = 1 := by rw [← hz]; simp
    have hb := setCells_blk ((secV l).take i ++ (secV l).drop (i + 1) ++ zs) 0 _ _ (Blk.drewN hbk q) (by simp [hcl]; omega)
    refine ⟨_, rfl, ?_, rfl, setCells_keep _ _ _ _ ((Keep.refl _ _ _).drewN q) (.inr rfl)⟩
    have e : (secV l ++ rest).take 0 ++ ((secV l).take i ++ (secV l).drop (i + 1) ++ zs) ++ (secV l ++ rest).drop (0 + ((secV l).take i ++ (secV l).drop (i + 1) ++ zs).length) = secV (l.take i ++ l.drop (i + 1)) ++ (zs ++ rest) := by
      have e1 : ((secV l).take i ++ (secV l).drop (i + 1) ++ zs).length = (secV l).length := by simp [hcl]; omega
      rw [e1, Nat.zero_add, List.drop_left]
      simp [secV, List.map_take, List.map_drop]
    rw [e] at hb
    rw [show n - (i + 1 - i) = n - 1 by omega]
    refine row_of_blk hb hg ?_ (by omega) hcm ?_
    · simp [secV]; omega
    · simp [secV]; omega
end Go.Proofs.Ytiodeeliidhbgaa
