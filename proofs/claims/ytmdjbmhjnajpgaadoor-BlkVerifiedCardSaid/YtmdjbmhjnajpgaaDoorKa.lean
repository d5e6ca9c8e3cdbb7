/- Package blk: what is good, what is read; copies: contracts. -/
import Derived.Test.YtmdjbmhjnajpgaaDoorPk
import Derived.Test.YtmdjbmhjnajpgaaDoorSl
import Derived.Test.YtmdjbmhjnajpgaaDoorDvJ
import Derived.OrdersIn
import Derived.RegionIn
import Derived.TacticsInMore
namespace Go.Proofs.YtmdjbmhjnajpgaaDoor
open Go Go.RowKit Go.Shelf
set_option linter.unusedSimpArgs false
set_option linter.unnecessarySimpa false
set_option linter.unusedVariables false

attribute [local go_sem] Oper.semAt_some

theorem hthen {w w1 w2 : World} (h : Below w.heap.size w w1) (k : Below w1.heap.size w1 w2) : Below w.heap.size w w2 := h.trans (k.mono h.size)
theorem RootsAt.moved {w w' : World} (h : RootsAt w) (k : Below w.heap.size w w') : RootsAt w' := h.below k h.1
theorem of_to {s q : List UInt8} (h : shaL s = q) (hs : s.length < 288230376151711744) (w : World) (hR : RootsAt w) :
    Calls Tryd.prog 22 #[.string (bstr s)] w fun e w' => e = .returned (.string (bstr q)) ∧ Below w.heap.size w w' := h ▸ of_any s hs w hR
/-- what is read at a place is good -/
def goodAt (rd : Lc → List UInt8 × Int) (p : Pt) (l : Lc) : Bool := decide ((rd l).2 = 0) && (decide (((rd l).1.length : Int) = p.len) && decide (shaL (rd l).1 = p.sum))
/-- devices, or none, that answer so, whatever was made since, and if no block changed but those of T -/
def Reads (D : Value) (rd : Lc → List UInt8 × Int) (T : Nat → Prop) (w : World) : Prop := ∀ (l : Lc) (wi : World), Keep w.heap.size T w wi →
  Calls Tryd.prog 48 #[D, .agg #[.int .i64 l.dev, .int .i64 l.pos]] wi fun e wj => e = .returned (.tuple #[.string (bstr (rd l).1), .int .i64 (rd l).2]) ∧ Below wi.heap.size wi wj
theorem keep_below {B n0 : Nat} {S : Nat → Prop} {w w' : World} (k : Keep B S w w') (hn : n0 ≤ B) (hS : ∀ j, S j → n0 ≤ j) : Below n0 w w' := (k.mono (S' := fun _ => False) hn (fun j hj e => by have := hS j e; omega)).below
theorem keep_then {B : Nat} {S : Nat → Prop} {w w1 w2 : World} (k : Keep B S w w1) (hB : B ≤ w.heap.size) (h : Below w1.heap.size w1 w2) : Keep B S w w2 := k.then (Keep.of_below (S := fun _ => False) h) (Nat.le_trans hB k.size) (fun _ _ e => e.elim)
theorem Reads.moved {D : Value} {rd : Lc → List UInt8 × Int} {T : Nat → Prop} {w w' : World} (h : Reads D rd T w) (k : Below w.heap.size w w') : Reads D rd T w' := fun l wi hb => h l wi ((Keep.of_below (S := T) k).then hb k.size (fun _ _ e => e))
theorem Lv.reads {w wi : World} {S T : Nat → Prop} {g : Nat} {d : Dv} (h : Lv w wi S g d) (hn : d.ws.length ≤ 100000) (hT : ∀ k, S k → ¬ T k) : Reads (.pointer (some ⟨g, 0, none⟩)) d.read T wi := fun l wj hb =>
  readL S g d l rfl hn w wj (h.keep hb hT)
def rdNil (l : Lc) : List UInt8 × Int := ([], 1)
theorem nil_reads (T : Nat → Prop) (w : World) : Reads (.pointer none) rdNil T w := fun l wj _ => read_nil l wj
def encC (rd : Lc → List UInt8 × Int) (p : Pt) (l : Lc) : Array Value := #[.string (bstr (rd l).1), .bool (goodAt rd p l)]
theorem below_grown {w w' : World} (h : Below w.heap.size w w') : w.grownBy w' none := ⟨h.os, h.tape, h.output, h.size, fun k hk _ => h.block k hk⟩
theorem abides_below {β : Type} {B : Nat} {J : β → World → Prop} (hJ : AbidesFrom B J) {s : β} {W W' : World} (h : J s W) (k : Below W.heap.size W W') : J s W' := hJ s W W' none h (below_grown k) (fun r e => by cases e)

set_option maxRecDepth 100000 in
set_option maxHeartbeats 8000000 in
theorem cp_stops (n : Nat) (hn : 1 ≤ n) (db pb n0 : Nat) (T : Nat → Prop) (hT : ∀ j, T j → n0 ≤ j) (D v : Value) (rd : Lc → List UInt8 × Int) (p : Pt) (hlen : p.len ≤ 960) (w : World) (hn0 : n0 ≤ w.heap.size) (hR : ∀ wi, Below n0 w wi → RootsAt wi) (hTd : ¬ T db) (hTp : ¬ T pb) (bD : Blk w db 27 #[D]) (bP : Blk w pb 25 #[v, .int .i64 p.len, .int .i64 p.birth, .string (bstr p.sum)]) (hv : LocsAt n0 w v p.locs) (hrd : Reads D rd T w) :
    SeqStopsK Fence.wide n Tryd.prog 47 #[.pointer (some ⟨pb, 0, none⟩), .pointer (some ⟨db, 0, none⟩)] (encC rd p) (Keep w.heap.size T) (fun xs => xs = p.locs) (fun pre => ∃ m, pre = p.locs.take m) p.locs.length w := fun lp J Jx W hW hJ hJx hY h0 => by
  obtain ⟨A, c, rfl, hc, hm⟩ := hv.form
  have hcl := bP.lt
  have hdl := bD.lt
  have HRW := Lib.hid hR
  refine callsIn_of_wp Tryd.func47 rfl trivial ?_ rfl
  simp only [Tryd.ntmps47, List.size_toArray, List.length_cons, List.length_nil, Nat.reduceAdd, Nat.reduceSub, Array.replicate_succ, Array.replicate_zero, List.push_toArray, List.append_toArray, List.nil_append, List.cons_append]
  have p0 := (bP.below hW bP.lt).cell 0
  simp at p0
  gi_wp2
  gi_loopw [11] (fun i wr => ∃ k : Nat, k ≤ p.locs.length ∧ i = .int .i64 k ∧ Keep w.heap.size T w wr ∧ J (p.locs.take k) wr) (fun i _ => p.locs.length - (intOf i).toNat)
  case atStart => exact ⟨0, by omega, rfl, Keep.of_below hW, h0⟩
  case round =>
    clear p0 h0 hW
    obtain ⟨k, hk, rfl, hb, hJk⟩ := hrel
    by_cases hlt : k < p.locs.length
    · have q1 : decide ((k : Int) < p.locs.length) = true := decide_eq_true (by omega)
      obtain ⟨ad, rfl, had, hx, hy⟩ := (hv.keep (keep_below hb hn0 hT) (Nat.le_refl _)).get k hlt
      have bd := bD.keep hb bD.lt hTd
      have bp := bP.keep hb bP.lt hTp
      have d0 := bd.cell 0
      have p0 := bp.cell 0
      simp at d0 p0
      have bdl := bd.lt
      have bpl := bp.lt
      obtain ⟨l, hl⟩ : ∃ l, p.locs[k] = l := ⟨_, rfl⟩
      obtain ⟨⟨s, e0⟩, hrl⟩ : ∃ x, rd l = x := ⟨_, rfl⟩
      have hcall := hrd l
      rw [hl] at hx hy
      rw [hrl] at hcall
      have HY := Lib.hid (hY (p.locs.take k) l)
      have htk : p.locs.take k ++ [l] = p.locs.take (k + 1) := by rw [← hl, List.take_succ_eq_append_getElem hlt]
      have hge : encC rd p l = #[.string (bstr s), .bool (goodAt rd p l)] := by unfold encC; rw [hrl]
      have hgd : goodAt rd p l = (decide (e0 = 0) && (decide ((s.length : Int) = p.len) && decide (shaL s = p.sum))) := by unfold goodAt; rw [hrl]
      have HTK := Lib.hid htk
      have HGE := Lib.hid hge
      have HGD := Lib.hid hgd
      have hlk : (p.locs.take k).length < p.locs.length := by rw [List.length_take]; omega
      have HLK := Lib.hid hlk
      clear hY htk hge hgd hl hrl hlk
      gi_wp2
      obtain ⟨wa, hwa⟩ : ∃ x, wr.alloc (.cells #[.int .i64 l.dev, .int .i64 l.pos] 33) = x := ⟨_, rfl⟩
      have ka : Below wr.heap.size wr wa := by rw [← hwa]; exact (Below.refl _ _).alloc (Nat.le_refl _) _
      rw [hwa]
      clear hwa
      refine ⟨trivial, (callsIn_wide.2 (hcall wa (keep_then hb (Nat.le_refl _) ka))).mono ?_⟩
      rintro e w2 ⟨rfl, k2⟩
      have kw := hthen ka k2
      have hb := keep_then hb (Nat.le_refl _) kw
      have hJk := abides_below hJ hJk kw
      have bd := bD.keep hb bD.lt hTd
      have bp := bP.keep hb bP.lt hTp
      clear kw ka k2 d0 p0 bdl bpl hcall hx hy
      gi_wp2
      have hb := keep_then hb (Nat.le_refl _) (Below.refl _ _).drew
      have hJk := abides_below hJ hJk (Below.refl _ _).drew
      have bp := bp.drew
      have hR := HRW.out _ (keep_below hb hn0 hT)
      by_cases he : e0 = 0
      · have qe : (e0 == 0) = true := by simp [he]
        by_cases hln : (s.length : Int) = p.len
        · have qn : ((s.length : Int) == p.len) = true := by simp [hln]
          obtain ⟨SH, hSH⟩ : ∃ x, shaL s = x := ⟨_, rfl⟩
          have HSH := Lib.hid hSH
          have HSL : Hid (s.length < 288230376151711744) := Lib.hid (by omega)
          clear hSH
          by_cases hs : SH = p.sum
          · have qs : (SH == p.sum) = true := by simp [hs]
            have hg : goodAt rd p l = true := by rw [HGD.out, decide_eq_true he, decide_eq_true hln, HSH.out]; simp [hs]
            clear he hln hs
            refine wpIn_region_any (by kernel_rfl) ?_
            try (change wpAnyIn _ _ _ _ _ _ _ _ _ (World.drew _))
            refine wpAnyIn_take (i := 0) (v := ?_) rfl rfl (by kernel_rfl) (by kernel_rfl) (by kernel_rfl) (fun _ _ _ h => h) ⟨(Or.inl ⟨by kernel_rfl, ?_⟩), fun _ => by first | rfl | kernel_rfl⟩ ?_
            rotate_left
            · (intro w; go_simp; try with_reducible rfl)
            try simp only [Act.put, List.getElem_toArray, List.getElem_cons_succ, List.getElem_cons_zero, List.setIfInBounds_toArray, List.set_cons_zero, List.set_cons_succ]
            refine wpAnyIn_take (i := 1) (v := ?_) rfl rfl (by kernel_rfl) (by kernel_rfl) (by kernel_rfl) (fun _ _ _ h => h) ⟨(Or.inl ⟨by kernel_rfl, ?_⟩), fun _ => by first | rfl | kernel_rfl⟩ ?_
            rotate_left
            · (intro w; go_simp; try with_reducible rfl)
            try simp only [Act.put, List.getElem_toArray, List.getElem_cons_succ, List.getElem_cons_zero, List.setIfInBounds_toArray, List.set_cons_zero, List.set_cons_succ]
            refine wpAnyIn_take (i := 2) (v := ?_) rfl rfl (by kernel_rfl) (by kernel_rfl) (by kernel_rfl) (fun _ _ _ h => h) ⟨(Or.inl ⟨by kernel_rfl, ?_⟩), fun _ => by first | rfl | kernel_rfl⟩ ?_
            rotate_left
            · (intro w; go_simp; try with_reducible rfl)
            try simp only [Act.put, List.getElem_toArray, List.getElem_cons_succ, List.getElem_cons_zero, List.setIfInBounds_toArray, List.set_cons_zero, List.set_cons_succ]
            refine wpAnyIn_take (i := 3) (v := ?_) rfl rfl (by kernel_rfl) (by kernel_rfl) (by kernel_rfl) (fun _ _ _ h => h) ⟨(Or.inl ⟨by kernel_rfl, ?_⟩), fun _ => by first | rfl | kernel_rfl⟩ ?_
            rotate_left
            · (intro w; go_simp; try with_reducible rfl)
            try simp only [Act.put, List.getElem_toArray, List.getElem_cons_succ, List.getElem_cons_zero, List.setIfInBounds_toArray, List.set_cons_zero, List.set_cons_succ]
            refine wpAnyIn_take (i := 4) (v := ?_) rfl rfl (by kernel_rfl) (by kernel_rfl) (by kernel_rfl) (fun _ _ _ h => h) ⟨(Or.inl ⟨by kernel_rfl, ?_⟩), fun _ => by first | rfl | kernel_rfl⟩ ?_
            rotate_left
            · (intro w; go_simp; try with_reducible rfl)
            try simp only [Act.put, List.getElem_toArray, List.getElem_cons_succ, List.getElem_cons_zero, List.setIfInBounds_toArray, List.set_cons_zero, List.set_cons_succ]
            refine wpAnyIn_take (i := 5) (v := ?_) rfl rfl (by kernel_rfl) (by kernel_rfl) (by kernel_rfl) (fun _ _ _ h => h) ⟨(Or.inl ⟨by kernel_rfl, ?_⟩), fun _ => by first | rfl | kernel_rfl⟩ ?_
            rotate_left
            · (intro w; go_simp; try with_reducible rfl)
            try simp only [Act.put, List.getElem_toArray, List.getElem_cons_succ, List.getElem_cons_zero, List.setIfInBounds_toArray, List.set_cons_zero, List.set_cons_succ]
            refine wpAnyIn_take (i := 6) (v := ?_) rfl rfl (by kernel_rfl) (by kernel_rfl) (by kernel_rfl) (fun _ _ _ h => h) ⟨(Or.inl ⟨by kernel_rfl, ?_⟩), fun _ => by first | rfl | kernel_rfl⟩ ?_
            rotate_left
            · (intro w; go_simp; try with_reducible rfl)
            try simp only [Act.put, List.getElem_toArray, List.getElem_cons_succ, List.getElem_cons_zero, List.setIfInBounds_toArray, List.set_cons_zero, List.set_cons_succ]
            refine wpAnyIn_take (i := 7) (v := ?_) rfl rfl (by kernel_rfl) (by kernel_rfl) (by kernel_rfl) (fun _ _ _ h => h) ⟨(Or.inl ⟨by kernel_rfl, ?_⟩), fun _ => by first | rfl | kernel_rfl⟩ ?_
            rotate_left
            · (intro w; go_simp; try with_reducible rfl)
            try simp only [Act.put, List.getElem_toArray, List.getElem_cons_succ, List.getElem_cons_zero, List.setIfInBounds_toArray, List.set_cons_zero, List.set_cons_succ]
            refine wpAnyIn_ready (rs := [8]) (by kernel_rfl) (by simp) ?_
            refine (AllReadyIn.cons rfl (fun K hK => ?_) AllReadyIn.nil)
            try rw [if_pos (by kernel_rfl)]
            have pc := bp.cell 1
            simp at pc
            go_simp
            refine hK _ _ ?_
            clear hK K pc
            try simp only [Act.put, List.getElem_toArray, List.getElem_cons_succ, List.getElem_cons_zero, List.setIfInBounds_toArray, List.set_cons_zero, List.set_cons_succ]
            refine wpAnyIn_take (i := 9) (v := ?_) rfl rfl (by kernel_rfl) (by kernel_rfl) (by kernel_rfl) (fun _ _ _ h => h) ⟨(Or.inl ⟨by kernel_rfl, ?_⟩), fun _ => by first | rfl | kernel_rfl⟩ ?_
            rotate_left
            · (intro w; go_simp; try with_reducible rfl)
            try simp only [Act.put, List.getElem_toArray, List.getElem_cons_succ, List.getElem_cons_zero, List.setIfInBounds_toArray, List.set_cons_zero, List.set_cons_succ]
            refine wpAnyIn_take (i := 10) (v := ?_) rfl rfl (by kernel_rfl) (by kernel_rfl) (by kernel_rfl) (fun _ _ _ h => h) ⟨(Or.inl ⟨by kernel_rfl, ?_⟩), fun _ => by first | rfl | kernel_rfl⟩ ?_
            rotate_left
            · (intro w; go_simp; try with_reducible rfl)
            try simp only [Act.put, List.getElem_toArray, List.getElem_cons_succ, List.getElem_cons_zero, List.setIfInBounds_toArray, List.set_cons_zero, List.set_cons_succ]
            refine wpAnyIn_take (i := 11) (v := ?_) rfl rfl (by kernel_rfl) (by kernel_rfl) (by kernel_rfl) (fun _ _ _ h => h) ⟨(Or.inl ⟨by kernel_rfl, ?_⟩), fun _ => by first | rfl | kernel_rfl⟩ ?_
            rotate_left
            · (intro w; go_simp; try with_reducible rfl)
            try simp only [Act.put, List.getElem_toArray, List.getElem_cons_succ, List.getElem_cons_zero, List.setIfInBounds_toArray, List.set_cons_zero, List.set_cons_succ]
            refine wpAnyIn_take (i := 12) (v := ?_) rfl rfl (by kernel_rfl) (by kernel_rfl) (by kernel_rfl) (fun _ _ _ h => h) ⟨(Or.inl ⟨by kernel_rfl, ?_⟩), fun _ => by first | rfl | kernel_rfl⟩ ?_
            rotate_left
            · (intro w; go_simp; try with_reducible rfl)
            try simp only [Act.put, List.getElem_toArray, List.getElem_cons_succ, List.getElem_cons_zero, List.setIfInBounds_toArray, List.set_cons_zero, List.set_cons_succ]
            refine wpAnyIn_take (i := 14) (v := ?_) rfl rfl (by kernel_rfl) (by kernel_rfl) (by kernel_rfl) (fun _ _ _ h => h) ⟨(Or.inl ⟨by kernel_rfl, ?_⟩), fun _ => by first | rfl | kernel_rfl⟩ ?_
            rotate_left
            · (intro w; go_simp; try with_reducible rfl)
            try simp only [Act.put, List.getElem_toArray, List.getElem_cons_succ, List.getElem_cons_zero, List.setIfInBounds_toArray, List.set_cons_zero, List.set_cons_succ]
            refine wpAnyIn_ready (rs := [13, 15]) (by kernel_rfl) (by simp) ?_
            refine (AllReadyIn.cons rfl (fun K hK => ?_) (AllReadyIn.cons rfl (fun K hK => ?_) AllReadyIn.nil))
            · try rw [if_pos (by kernel_rfl)]
              go_simp
              refine ⟨trivial, (callsIn_wide.2 (of_to HSH.out HSL.out _ hR)).mono ?_⟩
              rintro e w3 ⟨rfl, k3⟩
              have hJk := abides_below hJ hJk k3
              have bp := bp.below k3 bp.lt
              have hb := keep_then hb (Nat.le_refl _) k3
              clear k3
              refine hK _ _ ?_
              clear hK K
              try simp only [Act.put, List.getElem_toArray, List.getElem_cons_succ, List.getElem_cons_zero, List.setIfInBounds_toArray, List.set_cons_zero, List.set_cons_succ]
              refine wpAnyIn_ready (rs := [15]) (by kernel_rfl) (by simp) ?_
              refine (AllReadyIn.cons rfl (fun K hK => ?_) AllReadyIn.nil)
              try rw [if_pos (by kernel_rfl)]
              have pc := bp.cell 3
              simp at pc
              go_simp
              refine hK _ _ ?_
              clear hK K pc
              try simp only [Act.put, List.getElem_toArray, List.getElem_cons_succ, List.getElem_cons_zero, List.setIfInBounds_toArray, List.set_cons_zero, List.set_cons_succ]
              refine wpAnyIn_take (i := 16) (v := ?_) rfl rfl (by kernel_rfl) (by kernel_rfl) (by kernel_rfl) (fun _ _ _ h => h) ⟨(Or.inl ⟨by kernel_rfl, ?_⟩), fun _ => by first | rfl | kernel_rfl⟩ ?_
              rotate_left
              · (intro w; go_simp; try with_reducible rfl)
              try simp only [Act.put, List.getElem_toArray, List.getElem_cons_succ, List.getElem_cons_zero, List.setIfInBounds_toArray, List.set_cons_zero, List.set_cons_succ]
              refine wpAnyIn_take (i := 17) (v := ?_) rfl rfl (by kernel_rfl) (by kernel_rfl) (by kernel_rfl) (fun _ _ _ h => h) ⟨(Or.inl ⟨by kernel_rfl, ?_⟩), fun _ => by first | rfl | kernel_rfl⟩ ?_
              rotate_left
              · (intro w; go_simp; try with_reducible rfl)
              try simp only [Act.put, List.getElem_toArray, List.getElem_cons_succ, List.getElem_cons_zero, List.setIfInBounds_toArray, List.set_cons_zero, List.set_cons_succ]
              refine wpAnyIn_ready (rs := [18]) (by kernel_rfl) (by simp) ?_
              refine (AllReadyIn.cons rfl (fun K hK => ?_) AllReadyIn.nil)
              try rw [if_pos (by kernel_rfl)]
              obtain ⟨fn, tmps, assign, body, hy, hRr⟩ := HY.out w3 hJk HLK.out
              rw [HGE.out, hg] at hy
              go_simp
              refine hRr.mono ?_
              rintro e w9 (⟨rfl, hJ3, k9⟩ | ⟨rfl, hJ3⟩)
              · refine hK _ _ ?_
                clear hK K hy hRr
                try simp only [Act.put, List.getElem_toArray, List.getElem_cons_succ, List.getElem_cons_zero, List.setIfInBounds_toArray, List.set_cons_zero, List.set_cons_succ]
                refine wpAnyIn_take (i := 19) (v := ?_) rfl rfl (by kernel_rfl) (by kernel_rfl) (by kernel_rfl) (fun _ _ _ h => h) ⟨(Or.inl ⟨by kernel_rfl, ?_⟩), fun _ => by first | rfl | kernel_rfl⟩ ?_
                rotate_left
                · (intro w; go_simp; try with_reducible rfl)
                try simp only [Act.put, List.getElem_toArray, List.getElem_cons_succ, List.getElem_cons_zero, List.setIfInBounds_toArray, List.set_cons_zero, List.set_cons_succ]
                refine wpAnyIn_done (by kernel_rfl) ?_ _
                gi_wp2
                go_roundw
                case rel => exact ⟨k + 1, by omega, by go_num, hb.trans k9, by rw [← HTK.out]; exact hJ3⟩
                case measure => simp [intOf]; omega
              · refine hK _ _ ?_
                clear hK K hy hRr
                try simp only [Act.put, List.getElem_toArray, List.getElem_cons_succ, List.getElem_cons_zero, List.setIfInBounds_toArray, List.set_cons_zero, List.set_cons_succ]
                refine wpAnyIn_take (i := 19) (v := ?_) rfl rfl (by kernel_rfl) (by kernel_rfl) (by kernel_rfl) (fun _ _ _ h => h) ⟨(Or.inl ⟨by kernel_rfl, ?_⟩), fun _ => by first | rfl | kernel_rfl⟩ ?_
                rotate_left
                · (intro w; go_simp; try with_reducible rfl)
                try simp only [Act.put, List.getElem_toArray, List.getElem_cons_succ, List.getElem_cons_zero, List.setIfInBounds_toArray, List.set_cons_zero, List.set_cons_succ]
                refine wpAnyIn_done (by kernel_rfl) ?_ _
                gi_wp2
                refine bodyPost_ret (results_none rfl _ _ _) rfl ?_
                exact ⟨⟨_, rfl⟩, .inr ⟨_, ⟨k + 1, HTK.out⟩, hJ3⟩⟩
            · try rw [if_pos (by kernel_rfl)]
              have pc := bp.cell 3
              simp at pc
              go_simp
              refine hK _ _ ?_
              clear hK K pc
              try simp only [Act.put, List.getElem_toArray, List.getElem_cons_succ, List.getElem_cons_zero, List.setIfInBounds_toArray, List.set_cons_zero, List.set_cons_succ]
              refine wpAnyIn_ready (rs := [13]) (by kernel_rfl) (by simp) ?_
              refine (AllReadyIn.cons rfl (fun K hK => ?_) AllReadyIn.nil)
              try rw [if_pos (by kernel_rfl)]
              go_simp
              refine ⟨trivial, (callsIn_wide.2 (of_to HSH.out HSL.out _ hR)).mono ?_⟩
              rintro e w3 ⟨rfl, k3⟩
              have hJk := abides_below hJ hJk k3
              have bp := bp.below k3 bp.lt
              have hb := keep_then hb (Nat.le_refl _) k3
              clear k3
              refine hK _ _ ?_
              clear hK K
              try simp only [Act.put, List.getElem_toArray, List.getElem_cons_succ, List.getElem_cons_zero, List.setIfInBounds_toArray, List.set_cons_zero, List.set_cons_succ]
              refine wpAnyIn_take (i := 16) (v := ?_) rfl rfl (by kernel_rfl) (by kernel_rfl) (by kernel_rfl) (fun _ _ _ h => h) ⟨(Or.inl ⟨by kernel_rfl, ?_⟩), fun _ => by first | rfl | kernel_rfl⟩ ?_
              rotate_left
              · (intro w; go_simp; try with_reducible rfl)
              try simp only [Act.put, List.getElem_toArray, List.getElem_cons_succ, List.getElem_cons_zero, List.setIfInBounds_toArray, List.set_cons_zero, List.set_cons_succ]
              refine wpAnyIn_take (i := 17) (v := ?_) rfl rfl (by kernel_rfl) (by kernel_rfl) (by kernel_rfl) (fun _ _ _ h => h) ⟨(Or.inl ⟨by kernel_rfl, ?_⟩), fun _ => by first | rfl | kernel_rfl⟩ ?_
              rotate_left
              · (intro w; go_simp; try with_reducible rfl)
              try simp only [Act.put, List.getElem_toArray, List.getElem_cons_succ, List.getElem_cons_zero, List.setIfInBounds_toArray, List.set_cons_zero, List.set_cons_succ]
              refine wpAnyIn_ready (rs := [18]) (by kernel_rfl) (by simp) ?_
              refine (AllReadyIn.cons rfl (fun K hK => ?_) AllReadyIn.nil)
              try rw [if_pos (by kernel_rfl)]
              obtain ⟨fn, tmps, assign, body, hy, hRr⟩ := HY.out w3 hJk HLK.out
              rw [HGE.out, hg] at hy
              go_simp
              refine hRr.mono ?_
              rintro e w9 (⟨rfl, hJ3, k9⟩ | ⟨rfl, hJ3⟩)
              · refine hK _ _ ?_
                clear hK K hy hRr
                try simp only [Act.put, List.getElem_toArray, List.getElem_cons_succ, List.getElem_cons_zero, List.setIfInBounds_toArray, List.set_cons_zero, List.set_cons_succ]
                refine wpAnyIn_take (i := 19) (v := ?_) rfl rfl (by kernel_rfl) (by kernel_rfl) (by kernel_rfl) (fun _ _ _ h => h) ⟨(Or.inl ⟨by kernel_rfl, ?_⟩), fun _ => by first | rfl | kernel_rfl⟩ ?_
                rotate_left
                · (intro w; go_simp; try with_reducible rfl)
                try simp only [Act.put, List.getElem_toArray, List.getElem_cons_succ, List.getElem_cons_zero, List.setIfInBounds_toArray, List.set_cons_zero, List.set_cons_succ]
                refine wpAnyIn_done (by kernel_rfl) ?_ _
                gi_wp2
                go_roundw
                case rel => exact ⟨k + 1, by omega, by go_num, hb.trans k9, by rw [← HTK.out]; exact hJ3⟩
                case measure => simp [intOf]; omega
              · refine hK _ _ ?_
                clear hK K hy hRr
                try simp only [Act.put, List.getElem_toArray, List.getElem_cons_succ, List.getElem_cons_zero, List.setIfInBounds_toArray, List.set_cons_zero, List.set_cons_succ]
                refine wpAnyIn_take (i := 19) (v := ?_) rfl rfl (by kernel_rfl) (by kernel_rfl) (by kernel_rfl) (fun _ _ _ h => h) ⟨(Or.inl ⟨by kernel_rfl, ?_⟩), fun _ => by first | rfl | kernel_rfl⟩ ?_
                rotate_left
                · (intro w; go_simp; try with_reducible rfl)
                try simp only [Act.put, List.getElem_toArray, List.getElem_cons_succ, List.getElem_cons_zero, List.setIfInBounds_toArray, List.set_cons_zero, List.set_cons_succ]
                refine wpAnyIn_done (by kernel_rfl) ?_ _
                gi_wp2
                refine bodyPost_ret (results_none rfl _ _ _) rfl ?_
                exact ⟨⟨_, rfl⟩, .inr ⟨_, ⟨k + 1, HTK.out⟩, hJ3⟩⟩
          · have qs : (SH == p.sum) = false := by simp [hs]
            have hg : goodAt rd p l = false := by rw [HGD.out, decide_eq_true he, decide_eq_true hln, HSH.out]; simp [hs]
            clear he hln hs
            refine wpIn_region_any (by kernel_rfl) ?_
            try (change wpAnyIn _ _ _ _ _ _ _ _ _ (World.drew _))
            refine wpAnyIn_take (i := 0) (v := ?_) rfl rfl (by kernel_rfl) (by kernel_rfl) (by kernel_rfl) (fun _ _ _ h => h) ⟨(Or.inl ⟨by kernel_rfl, ?_⟩), fun _ => by first | rfl | kernel_rfl⟩ ?_
            rotate_left
            · (intro w; go_simp; try with_reducible rfl)
            try simp only [Act.put, List.getElem_toArray, List.getElem_cons_succ, List.getElem_cons_zero, List.setIfInBounds_toArray, List.set_cons_zero, List.set_cons_succ]
            refine wpAnyIn_take (i := 1) (v := ?_) rfl rfl (by kernel_rfl) (by kernel_rfl) (by kernel_rfl) (fun _ _ _ h => h) ⟨(Or.inl ⟨by kernel_rfl, ?_⟩), fun _ => by first | rfl | kernel_rfl⟩ ?_
            rotate_left
            · (intro w; go_simp; try with_reducible rfl)
            try simp only [Act.put, List.getElem_toArray, List.getElem_cons_succ, List.getElem_cons_zero, List.setIfInBounds_toArray, List.set_cons_zero, List.set_cons_succ]
            refine wpAnyIn_take (i := 2) (v := ?_) rfl rfl (by kernel_rfl) (by kernel_rfl) (by kernel_rfl) (fun _ _ _ h => h) ⟨(Or.inl ⟨by kernel_rfl, ?_⟩), fun _ => by first | rfl | kernel_rfl⟩ ?_
            rotate_left
            · (intro w; go_simp; try with_reducible rfl)
            try simp only [Act.put, List.getElem_toArray, List.getElem_cons_succ, List.getElem_cons_zero, List.setIfInBounds_toArray, List.set_cons_zero, List.set_cons_succ]
            refine wpAnyIn_take (i := 3) (v := ?_) rfl rfl (by kernel_rfl) (by kernel_rfl) (by kernel_rfl) (fun _ _ _ h => h) ⟨(Or.inl ⟨by kernel_rfl, ?_⟩), fun _ => by first | rfl | kernel_rfl⟩ ?_
            rotate_left
            · (intro w; go_simp; try with_reducible rfl)
            try simp only [Act.put, List.getElem_toArray, List.getElem_cons_succ, List.getElem_cons_zero, List.setIfInBounds_toArray, List.set_cons_zero, List.set_cons_succ]
            refine wpAnyIn_take (i := 4) (v := ?_) rfl rfl (by kernel_rfl) (by kernel_rfl) (by kernel_rfl) (fun _ _ _ h => h) ⟨(Or.inl ⟨by kernel_rfl, ?_⟩), fun _ => by first | rfl | kernel_rfl⟩ ?_
            rotate_left
            · (intro w; go_simp; try with_reducible rfl)
            try simp only [Act.put, List.getElem_toArray, List.getElem_cons_succ, List.getElem_cons_zero, List.setIfInBounds_toArray, List.set_cons_zero, List.set_cons_succ]
            refine wpAnyIn_take (i := 5) (v := ?_) rfl rfl (by kernel_rfl) (by kernel_rfl) (by kernel_rfl) (fun _ _ _ h => h) ⟨(Or.inl ⟨by kernel_rfl, ?_⟩), fun _ => by first | rfl | kernel_rfl⟩ ?_
            rotate_left
            · (intro w; go_simp; try with_reducible rfl)
            try simp only [Act.put, List.getElem_toArray, List.getElem_cons_succ, List.getElem_cons_zero, List.setIfInBounds_toArray, List.set_cons_zero, List.set_cons_succ]
            refine wpAnyIn_take (i := 6) (v := ?_) rfl rfl (by kernel_rfl) (by kernel_rfl) (by kernel_rfl) (fun _ _ _ h => h) ⟨(Or.inl ⟨by kernel_rfl, ?_⟩), fun _ => by first | rfl | kernel_rfl⟩ ?_
            rotate_left
            · (intro w; go_simp; try with_reducible rfl)
            try simp only [Act.put, List.getElem_toArray, List.getElem_cons_succ, List.getElem_cons_zero, List.setIfInBounds_toArray, List.set_cons_zero, List.set_cons_succ]
            refine wpAnyIn_take (i := 7) (v := ?_) rfl rfl (by kernel_rfl) (by kernel_rfl) (by kernel_rfl) (fun _ _ _ h => h) ⟨(Or.inl ⟨by kernel_rfl, ?_⟩), fun _ => by first | rfl | kernel_rfl⟩ ?_
            rotate_left
            · (intro w; go_simp; try with_reducible rfl)
            try simp only [Act.put, List.getElem_toArray, List.getElem_cons_succ, List.getElem_cons_zero, List.setIfInBounds_toArray, List.set_cons_zero, List.set_cons_succ]
            refine wpAnyIn_ready (rs := [8]) (by kernel_rfl) (by simp) ?_
            refine (AllReadyIn.cons rfl (fun K hK => ?_) AllReadyIn.nil)
            try rw [if_pos (by kernel_rfl)]
            have pc := bp.cell 1
            simp at pc
            go_simp
            refine hK _ _ ?_
            clear hK K pc
            try simp only [Act.put, List.getElem_toArray, List.getElem_cons_succ, List.getElem_cons_zero, List.setIfInBounds_toArray, List.set_cons_zero, List.set_cons_succ]
            refine wpAnyIn_take (i := 9) (v := ?_) rfl rfl (by kernel_rfl) (by kernel_rfl) (by kernel_rfl) (fun _ _ _ h => h) ⟨(Or.inl ⟨by kernel_rfl, ?_⟩), fun _ => by first | rfl | kernel_rfl⟩ ?_
            rotate_left
            · (intro w; go_simp; try with_reducible rfl)
            try simp only [Act.put, List.getElem_toArray, List.getElem_cons_succ, List.getElem_cons_zero, List.setIfInBounds_toArray, List.set_cons_zero, List.set_cons_succ]
            refine wpAnyIn_take (i := 10) (v := ?_) rfl rfl (by kernel_rfl) (by kernel_rfl) (by kernel_rfl) (fun _ _ _ h => h) ⟨(Or.inl ⟨by kernel_rfl, ?_⟩), fun _ => by first | rfl | kernel_rfl⟩ ?_
            rotate_left
            · (intro w; go_simp; try with_reducible rfl)
            try simp only [Act.put, List.getElem_toArray, List.getElem_cons_succ, List.getElem_cons_zero, List.setIfInBounds_toArray, List.set_cons_zero, List.set_cons_succ]
            refine wpAnyIn_take (i := 11) (v := ?_) rfl rfl (by kernel_rfl) (by kernel_rfl) (by kernel_rfl) (fun _ _ _ h => h) ⟨(Or.inl ⟨by kernel_rfl, ?_⟩), fun _ => by first | rfl | kernel_rfl⟩ ?_
            rotate_left
            · (intro w; go_simp; try with_reducible rfl)
            try simp only [Act.put, List.getElem_toArray, List.getElem_cons_succ, List.getElem_cons_zero, List.setIfInBounds_toArray, List.set_cons_zero, List.set_cons_succ]
            refine wpAnyIn_take (i := 12) (v := ?_) rfl rfl (by kernel_rfl) (by kernel_rfl) (by kernel_rfl) (fun _ _ _ h => h) ⟨(Or.inl ⟨by kernel_rfl, ?_⟩), fun _ => by first | rfl | kernel_rfl⟩ ?_
            rotate_left
            · (intro w; go_simp; try with_reducible rfl)
            try simp only [Act.put, List.getElem_toArray, List.getElem_cons_succ, List.getElem_cons_zero, List.setIfInBounds_toArray, List.set_cons_zero, List.set_cons_succ]
            refine wpAnyIn_take (i := 14) (v := ?_) rfl rfl (by kernel_rfl) (by kernel_rfl) (by kernel_rfl) (fun _ _ _ h => h) ⟨(Or.inl ⟨by kernel_rfl, ?_⟩), fun _ => by first | rfl | kernel_rfl⟩ ?_
            rotate_left
            · (intro w; go_simp; try with_reducible rfl)
            try simp only [Act.put, List.getElem_toArray, List.getElem_cons_succ, List.getElem_cons_zero, List.setIfInBounds_toArray, List.set_cons_zero, List.set_cons_succ]
            refine wpAnyIn_ready (rs := [13, 15]) (by kernel_rfl) (by simp) ?_
            refine (AllReadyIn.cons rfl (fun K hK => ?_) (AllReadyIn.cons rfl (fun K hK => ?_) AllReadyIn.nil))
            · try rw [if_pos (by kernel_rfl)]
              go_simp
              refine ⟨trivial, (callsIn_wide.2 (of_to HSH.out HSL.out _ hR)).mono ?_⟩
              rintro e w3 ⟨rfl, k3⟩
              have hJk := abides_below hJ hJk k3
              have bp := bp.below k3 bp.lt
              have hb := keep_then hb (Nat.le_refl _) k3
              clear k3
              refine hK _ _ ?_
              clear hK K
              try simp only [Act.put, List.getElem_toArray, List.getElem_cons_succ, List.getElem_cons_zero, List.setIfInBounds_toArray, List.set_cons_zero, List.set_cons_succ]
              refine wpAnyIn_ready (rs := [15]) (by kernel_rfl) (by simp) ?_
              refine (AllReadyIn.cons rfl (fun K hK => ?_) AllReadyIn.nil)
              try rw [if_pos (by kernel_rfl)]
              have pc := bp.cell 3
              simp at pc
              go_simp
              refine hK _ _ ?_
              clear hK K pc
              try simp only [Act.put, List.getElem_toArray, List.getElem_cons_succ, List.getElem_cons_zero, List.setIfInBounds_toArray, List.set_cons_zero, List.set_cons_succ]
              refine wpAnyIn_take (i := 16) (v := ?_) rfl rfl (by kernel_rfl) (by kernel_rfl) (by kernel_rfl) (fun _ _ _ h => h) ⟨(Or.inl ⟨by kernel_rfl, ?_⟩), fun _ => by first | rfl | kernel_rfl⟩ ?_
              rotate_left
              · (intro w; go_simp; try with_reducible rfl)
              try simp only [Act.put, List.getElem_toArray, List.getElem_cons_succ, List.getElem_cons_zero, List.setIfInBounds_toArray, List.set_cons_zero, List.set_cons_succ]
              refine wpAnyIn_take (i := 17) (v := ?_) rfl rfl (by kernel_rfl) (by kernel_rfl) (by kernel_rfl) (fun _ _ _ h => h) ⟨(Or.inl ⟨by kernel_rfl, ?_⟩), fun _ => by first | rfl | kernel_rfl⟩ ?_
              rotate_left
              · (intro w; go_simp; try with_reducible rfl)
              try simp only [Act.put, List.getElem_toArray, List.getElem_cons_succ, List.getElem_cons_zero, List.setIfInBounds_toArray, List.set_cons_zero, List.set_cons_succ]
              refine wpAnyIn_ready (rs := [18]) (by kernel_rfl) (by simp) ?_
              refine (AllReadyIn.cons rfl (fun K hK => ?_) AllReadyIn.nil)
              try rw [if_pos (by kernel_rfl)]
              obtain ⟨fn, tmps, assign, body, hy, hRr⟩ := HY.out w3 hJk HLK.out
              rw [HGE.out, hg] at hy
              go_simp
              refine hRr.mono ?_
              rintro e w9 (⟨rfl, hJ3, k9⟩ | ⟨rfl, hJ3⟩)
              · refine hK _ _ ?_
                clear hK K hy hRr
                try simp only [Act.put, List.getElem_toArray, List.getElem_cons_succ, List.getElem_cons_zero, List.setIfInBounds_toArray, List.set_cons_zero, List.set_cons_succ]
                refine wpAnyIn_take (i := 19) (v := ?_) rfl rfl (by kernel_rfl) (by kernel_rfl) (by kernel_rfl) (fun _ _ _ h => h) ⟨(Or.inl ⟨by kernel_rfl, ?_⟩), fun _ => by first | rfl | kernel_rfl⟩ ?_
                rotate_left
                · (intro w; go_simp; try with_reducible rfl)
                try simp only [Act.put, List.getElem_toArray, List.getElem_cons_succ, List.getElem_cons_zero, List.setIfInBounds_toArray, List.set_cons_zero, List.set_cons_succ]
                refine wpAnyIn_done (by kernel_rfl) ?_ _
                gi_wp2
                go_roundw
                case rel => exact ⟨k + 1, by omega, by go_num, hb.trans k9, by rw [← HTK.out]; exact hJ3⟩
                case measure => simp [intOf]; omega
              · refine hK _ _ ?_
                clear hK K hy hRr
                try simp only [Act.put, List.getElem_toArray, List.getElem_cons_succ, List.getElem_cons_zero, List.setIfInBounds_toArray, List.set_cons_zero, List.set_cons_succ]
                refine wpAnyIn_take (i := 19) (v := ?_) rfl rfl (by kernel_rfl) (by kernel_rfl) (by kernel_rfl) (fun _ _ _ h => h) ⟨(Or.inl ⟨by kernel_rfl, ?_⟩), fun _ => by first | rfl | kernel_rfl⟩ ?_
                rotate_left
                · (intro w; go_simp; try with_reducible rfl)
                try simp only [Act.put, List.getElem_toArray, List.getElem_cons_succ, List.getElem_cons_zero, List.setIfInBounds_toArray, List.set_cons_zero, List.set_cons_succ]
                refine wpAnyIn_done (by kernel_rfl) ?_ _
                gi_wp2
                refine bodyPost_ret (results_none rfl _ _ _) rfl ?_
                exact ⟨⟨_, rfl⟩, .inr ⟨_, ⟨k + 1, HTK.out⟩, hJ3⟩⟩
            · try rw [if_pos (by kernel_rfl)]
              have pc := bp.cell 3
              simp at pc
              go_simp
              refine hK _ _ ?_
              clear hK K pc
              try simp only [Act.put, List.getElem_toArray, List.getElem_cons_succ, List.getElem_cons_zero, List.setIfInBounds_toArray, List.set_cons_zero, List.set_cons_succ]
              refine wpAnyIn_ready (rs := [13]) (by kernel_rfl) (by simp) ?_
              refine (AllReadyIn.cons rfl (fun K hK => ?_) AllReadyIn.nil)
              try rw [if_pos (by kernel_rfl)]
              go_simp
              refine ⟨trivial, (callsIn_wide.2 (of_to HSH.out HSL.out _ hR)).mono ?_⟩
              rintro e w3 ⟨rfl, k3⟩
              have hJk := abides_below hJ hJk k3
              have bp := bp.below k3 bp.lt
              have hb := keep_then hb (Nat.le_refl _) k3
              clear k3
              refine hK _ _ ?_
              clear hK K
              try simp only [Act.put, List.getElem_toArray, List.getElem_cons_succ, List.getElem_cons_zero, List.setIfInBounds_toArray, List.set_cons_zero, List.set_cons_succ]
              refine wpAnyIn_take (i := 16) (v := ?_) rfl rfl (by kernel_rfl) (by kernel_rfl) (by kernel_rfl) (fun _ _ _ h => h) ⟨(Or.inl ⟨by kernel_rfl, ?_⟩), fun _ => by first | rfl | kernel_rfl⟩ ?_
              rotate_left
              · (intro w; go_simp; try with_reducible rfl)
              try simp only [Act.put, List.getElem_toArray, List.getElem_cons_succ, List.getElem_cons_zero, List.setIfInBounds_toArray, List.set_cons_zero, List.set_cons_succ]
              refine wpAnyIn_take (i := 17) (v := ?_) rfl rfl (by kernel_rfl) (by kernel_rfl) (by kernel_rfl) (fun _ _ _ h => h) ⟨(Or.inl ⟨by kernel_rfl, ?_⟩), fun _ => by first | rfl | kernel_rfl⟩ ?_
              rotate_left
              · (intro w; go_simp; try with_reducible rfl)
              try simp only [Act.put, List.getElem_toArray, List.getElem_cons_succ, List.getElem_cons_zero, List.setIfInBounds_toArray, List.set_cons_zero, List.set_cons_succ]
              refine wpAnyIn_ready (rs := [18]) (by kernel_rfl) (by simp) ?_
              refine (AllReadyIn.cons rfl (fun K hK => ?_) AllReadyIn.nil)
              try rw [if_pos (by kernel_rfl)]
              obtain ⟨fn, tmps, assign, body, hy, hRr⟩ := HY.out w3 hJk HLK.out
              rw [HGE.out, hg] at hy
              go_simp
              refine hRr.mono ?_
              rintro e w9 (⟨rfl, hJ3, k9⟩ | ⟨rfl, hJ3⟩)
              · refine hK _ _ ?_
                clear hK K hy hRr
                try simp only [Act.put, List.getElem_toArray, List.getElem_cons_succ, List.getElem_cons_zero, List.setIfInBounds_toArray, List.set_cons_zero, List.set_cons_succ]
                refine wpAnyIn_take (i := 19) (v := ?_) rfl rfl (by kernel_rfl) (by kernel_rfl) (by kernel_rfl) (fun _ _ _ h => h) ⟨(Or.inl ⟨by kernel_rfl, ?_⟩), fun _ => by first | rfl | kernel_rfl⟩ ?_
                rotate_left
                · (intro w; go_simp; try with_reducible rfl)
                try simp only [Act.put, List.getElem_toArray, List.getElem_cons_succ, List.getElem_cons_zero, List.setIfInBounds_toArray, List.set_cons_zero, List.set_cons_succ]
                refine wpAnyIn_done (by kernel_rfl) ?_ _
                gi_wp2
                go_roundw
                case rel => exact ⟨k + 1, by omega, by go_num, hb.trans k9, by rw [← HTK.out]; exact hJ3⟩
                case measure => simp [intOf]; omega
              · refine hK _ _ ?_
                clear hK K hy hRr
                try simp only [Act.put, List.getElem_toArray, List.getElem_cons_succ, List.getElem_cons_zero, List.setIfInBounds_toArray, List.set_cons_zero, List.set_cons_succ]
                refine wpAnyIn_take (i := 19) (v := ?_) rfl rfl (by kernel_rfl) (by kernel_rfl) (by kernel_rfl) (fun _ _ _ h => h) ⟨(Or.inl ⟨by kernel_rfl, ?_⟩), fun _ => by first | rfl | kernel_rfl⟩ ?_
                rotate_left
                · (intro w; go_simp; try with_reducible rfl)
                try simp only [Act.put, List.getElem_toArray, List.getElem_cons_succ, List.getElem_cons_zero, List.setIfInBounds_toArray, List.set_cons_zero, List.set_cons_succ]
                refine wpAnyIn_done (by kernel_rfl) ?_ _
                gi_wp2
                refine bodyPost_ret (results_none rfl _ _ _) rfl ?_
                exact ⟨⟨_, rfl⟩, .inr ⟨_, ⟨k + 1, HTK.out⟩, hJ3⟩⟩
        · have qn : ((s.length : Int) == p.len) = false := beq_eq_false_iff_ne.2 hln
          have hg : goodAt rd p l = false := by rw [HGD.out, decide_eq_false hln, Bool.false_and, Bool.and_false]
          clear hln
          refine wpIn_region_any (by kernel_rfl) ?_
          try (change wpAnyIn _ _ _ _ _ _ _ _ _ (World.drew _))
          refine wpAnyIn_take (i := 0) (v := ?_) rfl rfl (by kernel_rfl) (by kernel_rfl) (by kernel_rfl) (fun _ _ _ h => h) ⟨(Or.inl ⟨by kernel_rfl, ?_⟩), fun _ => by first | rfl | kernel_rfl⟩ ?_
          rotate_left
          · (intro w; go_simp; try with_reducible rfl)
          try simp only [Act.put, List.getElem_toArray, List.getElem_cons_succ, List.getElem_cons_zero, List.setIfInBounds_toArray, List.set_cons_zero, List.set_cons_succ]
          refine wpAnyIn_take (i := 1) (v := ?_) rfl rfl (by kernel_rfl) (by kernel_rfl) (by kernel_rfl) (fun _ _ _ h => h) ⟨(Or.inl ⟨by kernel_rfl, ?_⟩), fun _ => by first | rfl | kernel_rfl⟩ ?_
          rotate_left
          · (intro w; go_simp; try with_reducible rfl)
          try simp only [Act.put, List.getElem_toArray, List.getElem_cons_succ, List.getElem_cons_zero, List.setIfInBounds_toArray, List.set_cons_zero, List.set_cons_succ]
          refine wpAnyIn_take (i := 2) (v := ?_) rfl rfl (by kernel_rfl) (by kernel_rfl) (by kernel_rfl) (fun _ _ _ h => h) ⟨(Or.inl ⟨by kernel_rfl, ?_⟩), fun _ => by first | rfl | kernel_rfl⟩ ?_
          rotate_left
          · (intro w; go_simp; try with_reducible rfl)
          try simp only [Act.put, List.getElem_toArray, List.getElem_cons_succ, List.getElem_cons_zero, List.setIfInBounds_toArray, List.set_cons_zero, List.set_cons_succ]
          refine wpAnyIn_take (i := 3) (v := ?_) rfl rfl (by kernel_rfl) (by kernel_rfl) (by kernel_rfl) (fun _ _ _ h => h) ⟨(Or.inl ⟨by kernel_rfl, ?_⟩), fun _ => by first | rfl | kernel_rfl⟩ ?_
          rotate_left
          · (intro w; go_simp; try with_reducible rfl)
          try simp only [Act.put, List.getElem_toArray, List.getElem_cons_succ, List.getElem_cons_zero, List.setIfInBounds_toArray, List.set_cons_zero, List.set_cons_succ]
          refine wpAnyIn_take (i := 4) (v := ?_) rfl rfl (by kernel_rfl) (by kernel_rfl) (by kernel_rfl) (fun _ _ _ h => h) ⟨(Or.inl ⟨by kernel_rfl, ?_⟩), fun _ => by first | rfl | kernel_rfl⟩ ?_
          rotate_left
          · (intro w; go_simp; try with_reducible rfl)
          try simp only [Act.put, List.getElem_toArray, List.getElem_cons_succ, List.getElem_cons_zero, List.setIfInBounds_toArray, List.set_cons_zero, List.set_cons_succ]
          refine wpAnyIn_take (i := 5) (v := ?_) rfl rfl (by kernel_rfl) (by kernel_rfl) (by kernel_rfl) (fun _ _ _ h => h) ⟨(Or.inl ⟨by kernel_rfl, ?_⟩), fun _ => by first | rfl | kernel_rfl⟩ ?_
          rotate_left
          · (intro w; go_simp; try with_reducible rfl)
          try simp only [Act.put, List.getElem_toArray, List.getElem_cons_succ, List.getElem_cons_zero, List.setIfInBounds_toArray, List.set_cons_zero, List.set_cons_succ]
          refine wpAnyIn_take (i := 6) (v := ?_) rfl rfl (by kernel_rfl) (by kernel_rfl) (by kernel_rfl) (fun _ _ _ h => h) ⟨(Or.inl ⟨by kernel_rfl, ?_⟩), fun _ => by first | rfl | kernel_rfl⟩ ?_
          rotate_left
          · (intro w; go_simp; try with_reducible rfl)
          try simp only [Act.put, List.getElem_toArray, List.getElem_cons_succ, List.getElem_cons_zero, List.setIfInBounds_toArray, List.set_cons_zero, List.set_cons_succ]
          refine wpAnyIn_take (i := 7) (v := ?_) rfl rfl (by kernel_rfl) (by kernel_rfl) (by kernel_rfl) (fun _ _ _ h => h) ⟨(Or.inl ⟨by kernel_rfl, ?_⟩), fun _ => by first | rfl | kernel_rfl⟩ ?_
          rotate_left
          · (intro w; go_simp; try with_reducible rfl)
          try simp only [Act.put, List.getElem_toArray, List.getElem_cons_succ, List.getElem_cons_zero, List.setIfInBounds_toArray, List.set_cons_zero, List.set_cons_succ]
          refine wpAnyIn_ready (rs := [8]) (by kernel_rfl) (by simp) ?_
          refine (AllReadyIn.cons rfl (fun K hK => ?_) AllReadyIn.nil)
          try rw [if_pos (by kernel_rfl)]
          have pc := bp.cell 1
          simp at pc
          go_simp
          refine hK _ _ ?_
          clear hK K pc
          try simp only [Act.put, List.getElem_toArray, List.getElem_cons_succ, List.getElem_cons_zero, List.setIfInBounds_toArray, List.set_cons_zero, List.set_cons_succ]
          refine wpAnyIn_take (i := 9) (v := ?_) rfl rfl (by kernel_rfl) (by kernel_rfl) (by kernel_rfl) (fun _ _ _ h => h) ⟨(Or.inl ⟨by kernel_rfl, ?_⟩), fun _ => by first | rfl | kernel_rfl⟩ ?_
          rotate_left
          · (intro w; go_simp; try with_reducible rfl)
          try simp only [Act.put, List.getElem_toArray, List.getElem_cons_succ, List.getElem_cons_zero, List.setIfInBounds_toArray, List.set_cons_zero, List.set_cons_succ]
          refine wpAnyIn_take (i := 10) (v := ?_) rfl rfl (by kernel_rfl) (by kernel_rfl) (by kernel_rfl) (fun _ _ _ h => h) ⟨(Or.inl ⟨by kernel_rfl, ?_⟩), fun _ => by first | rfl | kernel_rfl⟩ ?_
          rotate_left
          · (intro w; go_simp; try with_reducible rfl)
          try simp only [Act.put, List.getElem_toArray, List.getElem_cons_succ, List.getElem_cons_zero, List.setIfInBounds_toArray, List.set_cons_zero, List.set_cons_succ]
          refine wpAnyIn_take (i := 11) (v := ?_) rfl rfl (by kernel_rfl) (by kernel_rfl) (by kernel_rfl) (fun _ _ _ h => h) ⟨(Or.inl ⟨by kernel_rfl, ?_⟩), fun _ => by first | rfl | kernel_rfl⟩ ?_
          rotate_left
          · (intro w; go_simp; try with_reducible rfl)
          try simp only [Act.put, List.getElem_toArray, List.getElem_cons_succ, List.getElem_cons_zero, List.setIfInBounds_toArray, List.set_cons_zero, List.set_cons_succ]
          refine wpAnyIn_take (i := 12) (v := undef) rfl rfl (by kernel_rfl) (by kernel_rfl) (by kernel_rfl) (fun _ _ _ h => h) ⟨(Or.inr ⟨by kernel_rfl, rfl⟩), fun _ => by first | rfl | kernel_rfl⟩ ?_
          try simp only [Act.put, List.getElem_toArray, List.getElem_cons_succ, List.getElem_cons_zero, List.setIfInBounds_toArray, List.set_cons_zero, List.set_cons_succ]
          refine wpAnyIn_take (i := 14) (v := undef) rfl rfl (by kernel_rfl) (by kernel_rfl) (by kernel_rfl) (fun _ _ _ h => h) ⟨(Or.inr ⟨by kernel_rfl, rfl⟩), fun _ => by first | rfl | kernel_rfl⟩ ?_
          try simp only [Act.put, List.getElem_toArray, List.getElem_cons_succ, List.getElem_cons_zero, List.setIfInBounds_toArray, List.set_cons_zero, List.set_cons_succ]
          refine wpAnyIn_take (i := 15) (v := undef) rfl rfl (by kernel_rfl) (by kernel_rfl) (by kernel_rfl) (fun _ _ _ h => h) ⟨(Or.inr ⟨by kernel_rfl, rfl⟩), fun _ => by first | rfl | kernel_rfl⟩ ?_
          try simp only [Act.put, List.getElem_toArray, List.getElem_cons_succ, List.getElem_cons_zero, List.setIfInBounds_toArray, List.set_cons_zero, List.set_cons_succ]
          refine wpAnyIn_ready (rs := [13]) (by kernel_rfl) (by simp) ?_
          refine (AllReadyIn.cons rfl (fun K hK => ?_) AllReadyIn.nil)
          try rw [if_neg (by rw [show Region.wanted _ _ = false by kernel_rfl]; exact Bool.false_ne_true)]
          try go_simp
          first | refine ⟨trivial, hK _ _ ?_⟩ | refine ⟨fun _ _ => trivial, hK _ _ ?_⟩ | refine hK _ _ ?_
          clear hK K
          try simp only [Act.put, List.getElem_toArray, List.getElem_cons_succ, List.getElem_cons_zero, List.setIfInBounds_toArray, List.set_cons_zero, List.set_cons_succ]
          refine wpAnyIn_take (i := 16) (v := undef) rfl rfl (by kernel_rfl) (by kernel_rfl) (by kernel_rfl) (fun _ _ _ h => h) ⟨(Or.inr ⟨by kernel_rfl, rfl⟩), fun _ => by first | rfl | kernel_rfl⟩ ?_
          try simp only [Act.put, List.getElem_toArray, List.getElem_cons_succ, List.getElem_cons_zero, List.setIfInBounds_toArray, List.set_cons_zero, List.set_cons_succ]
          refine wpAnyIn_take (i := 17) (v := ?_) rfl rfl (by kernel_rfl) (by kernel_rfl) (by kernel_rfl) (fun _ _ _ h => h) ⟨(Or.inl ⟨by kernel_rfl, ?_⟩), fun _ => by first | rfl | kernel_rfl⟩ ?_
          rotate_left
          · (intro w; go_simp; try with_reducible rfl)
          try simp only [Act.put, List.getElem_toArray, List.getElem_cons_succ, List.getElem_cons_zero, List.setIfInBounds_toArray, List.set_cons_zero, List.set_cons_succ]
          refine wpAnyIn_ready (rs := [18]) (by kernel_rfl) (by simp) ?_
          refine (AllReadyIn.cons rfl (fun K hK => ?_) AllReadyIn.nil)
          try rw [if_pos (by kernel_rfl)]
          obtain ⟨fn, tmps, assign, body, hy, hRr⟩ := HY.out (World.drew w2) hJk HLK.out
          rw [HGE.out, hg] at hy
          go_simp
          refine hRr.mono ?_
          rintro e w9 (⟨rfl, hJ3, k9⟩ | ⟨rfl, hJ3⟩)
          · refine hK _ _ ?_
            clear hK K hy hRr
            try simp only [Act.put, List.getElem_toArray, List.getElem_cons_succ, List.getElem_cons_zero, List.setIfInBounds_toArray, List.set_cons_zero, List.set_cons_succ]
            refine wpAnyIn_take (i := 19) (v := ?_) rfl rfl (by kernel_rfl) (by kernel_rfl) (by kernel_rfl) (fun _ _ _ h => h) ⟨(Or.inl ⟨by kernel_rfl, ?_⟩), fun _ => by first | rfl | kernel_rfl⟩ ?_
            rotate_left
            · (intro w; go_simp; try with_reducible rfl)
            try simp only [Act.put, List.getElem_toArray, List.getElem_cons_succ, List.getElem_cons_zero, List.setIfInBounds_toArray, List.set_cons_zero, List.set_cons_succ]
            refine wpAnyIn_done (by kernel_rfl) ?_ _
            gi_wp2
            go_roundw
            case rel => exact ⟨k + 1, by omega, by go_num, hb.trans k9, by rw [← HTK.out]; exact hJ3⟩
            case measure => simp [intOf]; omega
          · refine hK _ _ ?_
            clear hK K hy hRr
            try simp only [Act.put, List.getElem_toArray, List.getElem_cons_succ, List.getElem_cons_zero, List.setIfInBounds_toArray, List.set_cons_zero, List.set_cons_succ]
            refine wpAnyIn_take (i := 19) (v := ?_) rfl rfl (by kernel_rfl) (by kernel_rfl) (by kernel_rfl) (fun _ _ _ h => h) ⟨(Or.inl ⟨by kernel_rfl, ?_⟩), fun _ => by first | rfl | kernel_rfl⟩ ?_
            rotate_left
            · (intro w; go_simp; try with_reducible rfl)
            try simp only [Act.put, List.getElem_toArray, List.getElem_cons_succ, List.getElem_cons_zero, List.setIfInBounds_toArray, List.set_cons_zero, List.set_cons_succ]
            refine wpAnyIn_done (by kernel_rfl) ?_ _
            gi_wp2
            refine bodyPost_ret (results_none rfl _ _ _) rfl ?_
            exact ⟨⟨_, rfl⟩, .inr ⟨_, ⟨k + 1, HTK.out⟩, hJ3⟩⟩
      · have qe : (e0 == 0) = false := beq_eq_false_iff_ne.2 he
        have hg : goodAt rd p l = false := by rw [HGD.out, decide_eq_false he, Bool.false_and]
        refine wpIn_region_any (by kernel_rfl) ?_
        try (change wpAnyIn _ _ _ _ _ _ _ _ _ (World.drew _))
        refine wpAnyIn_take (i := 0) (v := ?_) rfl rfl (by kernel_rfl) (by kernel_rfl) (by kernel_rfl) (fun _ _ _ h => h) ⟨(Or.inl ⟨by kernel_rfl, ?_⟩), fun _ => by first | rfl | kernel_rfl⟩ ?_
        rotate_left
        · (intro w; go_simp; try with_reducible rfl)
        try simp only [Act.put, List.getElem_toArray, List.getElem_cons_succ, List.getElem_cons_zero, List.setIfInBounds_toArray, List.set_cons_zero, List.set_cons_succ]
        refine wpAnyIn_take (i := 1) (v := ?_) rfl rfl (by kernel_rfl) (by kernel_rfl) (by kernel_rfl) (fun _ _ _ h => h) ⟨(Or.inl ⟨by kernel_rfl, ?_⟩), fun _ => by first | rfl | kernel_rfl⟩ ?_
        rotate_left
        · (intro w; go_simp; try with_reducible rfl)
        try simp only [Act.put, List.getElem_toArray, List.getElem_cons_succ, List.getElem_cons_zero, List.setIfInBounds_toArray, List.set_cons_zero, List.set_cons_succ]
        refine wpAnyIn_take (i := 2) (v := ?_) rfl rfl (by kernel_rfl) (by kernel_rfl) (by kernel_rfl) (fun _ _ _ h => h) ⟨(Or.inl ⟨by kernel_rfl, ?_⟩), fun _ => by first | rfl | kernel_rfl⟩ ?_
        rotate_left
        · (intro w; go_simp; try with_reducible rfl)
        try simp only [Act.put, List.getElem_toArray, List.getElem_cons_succ, List.getElem_cons_zero, List.setIfInBounds_toArray, List.set_cons_zero, List.set_cons_succ]
        refine wpAnyIn_take (i := 3) (v := ?_) rfl rfl (by kernel_rfl) (by kernel_rfl) (by kernel_rfl) (fun _ _ _ h => h) ⟨(Or.inl ⟨by kernel_rfl, ?_⟩), fun _ => by first | rfl | kernel_rfl⟩ ?_
        rotate_left
        · (intro w; go_simp; try with_reducible rfl)
        try simp only [Act.put, List.getElem_toArray, List.getElem_cons_succ, List.getElem_cons_zero, List.setIfInBounds_toArray, List.set_cons_zero, List.set_cons_succ]
        refine wpAnyIn_take (i := 4) (v := ?_) rfl rfl (by kernel_rfl) (by kernel_rfl) (by kernel_rfl) (fun _ _ _ h => h) ⟨(Or.inl ⟨by kernel_rfl, ?_⟩), fun _ => by first | rfl | kernel_rfl⟩ ?_
        rotate_left
        · (intro w; go_simp; try with_reducible rfl)
        try simp only [Act.put, List.getElem_toArray, List.getElem_cons_succ, List.getElem_cons_zero, List.setIfInBounds_toArray, List.set_cons_zero, List.set_cons_succ]
        refine wpAnyIn_take (i := 5) (v := undef) rfl rfl (by kernel_rfl) (by kernel_rfl) (by kernel_rfl) (fun _ _ _ h => h) ⟨(Or.inr ⟨by kernel_rfl, rfl⟩), fun _ => by first | rfl | kernel_rfl⟩ ?_
        try simp only [Act.put, List.getElem_toArray, List.getElem_cons_succ, List.getElem_cons_zero, List.setIfInBounds_toArray, List.set_cons_zero, List.set_cons_succ]
        refine wpAnyIn_take (i := 6) (v := undef) rfl rfl (by kernel_rfl) (by kernel_rfl) (by kernel_rfl) (fun _ _ _ h => h) ⟨(Or.inr ⟨by kernel_rfl, rfl⟩), fun _ => by first | rfl | kernel_rfl⟩ ?_
        try simp only [Act.put, List.getElem_toArray, List.getElem_cons_succ, List.getElem_cons_zero, List.setIfInBounds_toArray, List.set_cons_zero, List.set_cons_succ]
        refine wpAnyIn_take (i := 7) (v := undef) rfl rfl (by kernel_rfl) (by kernel_rfl) (by kernel_rfl) (fun _ _ _ h => h) ⟨(Or.inr ⟨by kernel_rfl, rfl⟩), fun _ => by first | rfl | kernel_rfl⟩ ?_
        try simp only [Act.put, List.getElem_toArray, List.getElem_cons_succ, List.getElem_cons_zero, List.setIfInBounds_toArray, List.set_cons_zero, List.set_cons_succ]
        refine wpAnyIn_take (i := 8) (v := undef) rfl rfl (by kernel_rfl) (by kernel_rfl) (by kernel_rfl) (fun _ _ _ h => h) ⟨(Or.inr ⟨by kernel_rfl, rfl⟩), fun _ => by first | rfl | kernel_rfl⟩ ?_
        try simp only [Act.put, List.getElem_toArray, List.getElem_cons_succ, List.getElem_cons_zero, List.setIfInBounds_toArray, List.set_cons_zero, List.set_cons_succ]
        refine wpAnyIn_take (i := 9) (v := undef) rfl rfl (by kernel_rfl) (by kernel_rfl) (by kernel_rfl) (fun _ _ _ h => h) ⟨(Or.inr ⟨by kernel_rfl, rfl⟩), fun _ => by first | rfl | kernel_rfl⟩ ?_
        try simp only [Act.put, List.getElem_toArray, List.getElem_cons_succ, List.getElem_cons_zero, List.setIfInBounds_toArray, List.set_cons_zero, List.set_cons_succ]
        refine wpAnyIn_take (i := 10) (v := ?_) rfl rfl (by kernel_rfl) (by kernel_rfl) (by kernel_rfl) (fun _ _ _ h => h) ⟨(Or.inl ⟨by kernel_rfl, ?_⟩), fun _ => by first | rfl | kernel_rfl⟩ ?_
        rotate_left
        · (intro w; go_simp; try with_reducible rfl)
        try simp only [Act.put, List.getElem_toArray, List.getElem_cons_succ, List.getElem_cons_zero, List.setIfInBounds_toArray, List.set_cons_zero, List.set_cons_succ]
        refine wpAnyIn_take (i := 11) (v := ?_) rfl rfl (by kernel_rfl) (by kernel_rfl) (by kernel_rfl) (fun _ _ _ h => h) ⟨(Or.inl ⟨by kernel_rfl, ?_⟩), fun _ => by first | rfl | kernel_rfl⟩ ?_
        rotate_left
        · (intro w; go_simp; try with_reducible rfl)
        try simp only [Act.put, List.getElem_toArray, List.getElem_cons_succ, List.getElem_cons_zero, List.setIfInBounds_toArray, List.set_cons_zero, List.set_cons_succ]
        refine wpAnyIn_take (i := 12) (v := undef) rfl rfl (by kernel_rfl) (by kernel_rfl) (by kernel_rfl) (fun _ _ _ h => h) ⟨(Or.inr ⟨by kernel_rfl, rfl⟩), fun _ => by first | rfl | kernel_rfl⟩ ?_
        try simp only [Act.put, List.getElem_toArray, List.getElem_cons_succ, List.getElem_cons_zero, List.setIfInBounds_toArray, List.set_cons_zero, List.set_cons_succ]
        refine wpAnyIn_take (i := 14) (v := undef) rfl rfl (by kernel_rfl) (by kernel_rfl) (by kernel_rfl) (fun _ _ _ h => h) ⟨(Or.inr ⟨by kernel_rfl, rfl⟩), fun _ => by first | rfl | kernel_rfl⟩ ?_
        try simp only [Act.put, List.getElem_toArray, List.getElem_cons_succ, List.getElem_cons_zero, List.setIfInBounds_toArray, List.set_cons_zero, List.set_cons_succ]
        refine wpAnyIn_take (i := 15) (v := undef) rfl rfl (by kernel_rfl) (by kernel_rfl) (by kernel_rfl) (fun _ _ _ h => h) ⟨(Or.inr ⟨by kernel_rfl, rfl⟩), fun _ => by first | rfl | kernel_rfl⟩ ?_
        try simp only [Act.put, List.getElem_toArray, List.getElem_cons_succ, List.getElem_cons_zero, List.setIfInBounds_toArray, List.set_cons_zero, List.set_cons_succ]
        refine wpAnyIn_ready (rs := [13]) (by kernel_rfl) (by simp) ?_
        refine (AllReadyIn.cons rfl (fun K hK => ?_) AllReadyIn.nil)
        try rw [if_neg (by rw [show Region.wanted _ _ = false by kernel_rfl]; exact Bool.false_ne_true)]
        try go_simp
        first | refine ⟨trivial, hK _ _ ?_⟩ | refine ⟨fun _ _ => trivial, hK _ _ ?_⟩ | refine hK _ _ ?_
        clear hK K
        try simp only [Act.put, List.getElem_toArray, List.getElem_cons_succ, List.getElem_cons_zero, List.setIfInBounds_toArray, List.set_cons_zero, List.set_cons_succ]
        refine wpAnyIn_take (i := 16) (v := undef) rfl rfl (by kernel_rfl) (by kernel_rfl) (by kernel_rfl) (fun _ _ _ h => h) ⟨(Or.inr ⟨by kernel_rfl, rfl⟩), fun _ => by first | rfl | kernel_rfl⟩ ?_
        try simp only [Act.put, List.getElem_toArray, List.getElem_cons_succ, List.getElem_cons_zero, List.setIfInBounds_toArray, List.set_cons_zero, List.set_cons_succ]
        refine wpAnyIn_take (i := 17) (v := ?_) rfl rfl (by kernel_rfl) (by kernel_rfl) (by kernel_rfl) (fun _ _ _ h => h) ⟨(Or.inl ⟨by kernel_rfl, ?_⟩), fun _ => by first | rfl | kernel_rfl⟩ ?_
        rotate_left
        · (intro w; go_simp; try with_reducible rfl)
        try simp only [Act.put, List.getElem_toArray, List.getElem_cons_succ, List.getElem_cons_zero, List.setIfInBounds_toArray, List.set_cons_zero, List.set_cons_succ]
        refine wpAnyIn_ready (rs := [18]) (by kernel_rfl) (by simp) ?_
        refine (AllReadyIn.cons rfl (fun K hK => ?_) AllReadyIn.nil)
        try rw [if_pos (by kernel_rfl)]
        obtain ⟨fn, tmps, assign, body, hy, hRr⟩ := HY.out (World.drew w2) hJk HLK.out
        rw [HGE.out, hg] at hy
        go_simp
        refine hRr.mono ?_
        rintro e w9 (⟨rfl, hJ3, k9⟩ | ⟨rfl, hJ3⟩)
        · refine hK _ _ ?_
          clear hK K hy hRr
          try simp only [Act.put, List.getElem_toArray, List.getElem_cons_succ, List.getElem_cons_zero, List.setIfInBounds_toArray, List.set_cons_zero, List.set_cons_succ]
          refine wpAnyIn_take (i := 19) (v := ?_) rfl rfl (by kernel_rfl) (by kernel_rfl) (by kernel_rfl) (fun _ _ _ h => h) ⟨(Or.inl ⟨by kernel_rfl, ?_⟩), fun _ => by first | rfl | kernel_rfl⟩ ?_
          rotate_left
          · (intro w; go_simp; try with_reducible rfl)
          try simp only [Act.put, List.getElem_toArray, List.getElem_cons_succ, List.getElem_cons_zero, List.setIfInBounds_toArray, List.set_cons_zero, List.set_cons_succ]
          refine wpAnyIn_done (by kernel_rfl) ?_ _
          gi_wp2
          go_roundw
          case rel => exact ⟨k + 1, by omega, by go_num, hb.trans k9, by rw [← HTK.out]; exact hJ3⟩
          case measure => simp [intOf]; omega
        · refine hK _ _ ?_
          clear hK K hy hRr
          try simp only [Act.put, List.getElem_toArray, List.getElem_cons_succ, List.getElem_cons_zero, List.setIfInBounds_toArray, List.set_cons_zero, List.set_cons_succ]
          refine wpAnyIn_take (i := 19) (v := ?_) rfl rfl (by kernel_rfl) (by kernel_rfl) (by kernel_rfl) (fun _ _ _ h => h) ⟨(Or.inl ⟨by kernel_rfl, ?_⟩), fun _ => by first | rfl | kernel_rfl⟩ ?_
          rotate_left
          · (intro w; go_simp; try with_reducible rfl)
          try simp only [Act.put, List.getElem_toArray, List.getElem_cons_succ, List.getElem_cons_zero, List.setIfInBounds_toArray, List.set_cons_zero, List.set_cons_succ]
          refine wpAnyIn_done (by kernel_rfl) ?_ _
          gi_wp2
          refine bodyPost_ret (results_none rfl _ _ _) rfl ?_
          exact ⟨⟨_, rfl⟩, .inr ⟨_, ⟨k + 1, HTK.out⟩, hJ3⟩⟩
    · obtain rfl : k = p.locs.length := by omega
      have q1 : decide (((p.locs.length : Nat) : Int) < (p.locs.length : Int)) = false := by simp
      rw [List.take_length] at hJk
      gi_wp2
      go_end0
      exact ⟨⟨_, rfl⟩, .inl ⟨_, rfl, hJk⟩⟩
end Go.Proofs.YtmdjbmhjnajpgaaDoor
