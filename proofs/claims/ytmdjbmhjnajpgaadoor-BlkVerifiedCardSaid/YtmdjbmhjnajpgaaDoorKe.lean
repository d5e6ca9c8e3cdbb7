/- Package blk: Write: contracts. -/
import Derived.Test.YtmdjbmhjnajpgaaDoorKd
import Derived.Deep.Upon
namespace Go.Proofs.YtmdjbmhjnajpgaaDoor
open Go Go.RowKit
set_option linter.unusedSimpArgs false
set_option linter.unnecessarySimpa false
set_option linter.unusedVariables false

theorem orow_form {w : World} {base n size : Nat} {e : TypeId} {v : Value} {xs : List Value} (h : w.ownsRow base e size v n xs) : ∃ A c, v = .slice A n c := by
  rcases h.2 with ⟨rfl, rfl⟩ | ⟨g, cap, cur, rfl, _⟩
  · exact ⟨_, _, rfl⟩
  · exact ⟨_, _, rfl⟩
/-- a row, or nothing, spread behind a row -/
theorem wpList_spread {P : Program} {ops : Array Oper} {rest : List Oper} {o : Oper} {a : Act} {Q : Exit → Act → World → Prop} (w : World) (hg : o.guard = none) (s x : Operand) (t : TypeId)
    (hop : o.op = .call { callee := .builtin .append, args := #[s, x], argTypes := #[t, t] })
    (B : Nat) (e : TypeId) (z : Value) (size bytes : Nat) (hu : P.underlying t = some (.slice e)) (hi : (P.info? e).map (fun i => (i.zero, i.size, i.bytes)) = some (some z, size, bytes))
    (hzs : z.cells.size = size) (hsz : 0 < size) (v : Value) (n : Nat) (xs : List Value) (hs : a.eval s = v) (hown : w.ownsRow B e size v n xs)
    (A : Option Addr) (m c : Nat) (us : List Value) (hx : a.eval x = .slice A m c) (hl : us.length = m * size) (hus : 0 < m → ∃ ad, A = some ad ∧ ∀ j u, us[j]? = some u → w.cell? (ad.add j) = some u) (h1 : ∀ u ∈ us, u.oneCell' = true)
    (h63 : n + m ≤ maxLen) (hbytes : (n + m) * bytes ≤ 140737488355328) (hB : B ≤ w.heap.size)
    (h : ∀ v' w', w'.ownsRow B e size v' (n + m) (xs ++ us) → (∀ k, k < w.heap.size → v.ownBlock ≠ some k → w'.heap[k]? = w.heap[k]?) → Below B w w' → w.heap.size ≤ w'.heap.size → wpList P ops Q rest (a.put o.dst v') w') :
    wpList P ops Q (o :: rest) a w := by
  obtain ⟨i0, hi0, hz0, hz1, hz2⟩ := info_parts hi
  by_cases hm : 0 < m
  · obtain ⟨ad, rfl, hcell⟩ := hus hm
    refine wpList_append_lies (P := P) w hg s x t hop B e i0 z size bytes hu hi0 hz0 hz1 hz2 hzs hsz v n xs hs hown ad m c us hx hl hcell h1 hm h63 hbytes hB w.heap.size rfl ?_
    intro g cap w' hown' hgrow _ _
    refine h _ w' hown' (fun k hk hne => hgrow.block k hk (fun e => hne e.symm)) ?_ hgrow.size
    exact (Below.refl B w).grown hgrow hB (fun k e => (hown.lt k e).1)
  · obtain rfl : m = 0 := by omega
    obtain rfl : us = [] := by rw [Nat.zero_mul] at hl; exact List.length_eq_zero_iff.1 hl
    obtain ⟨A', c', rfl⟩ := orow_form hown
    have hnc : n ≤ c' := by
      rcases hown.2 with ⟨h', h0⟩ | ⟨g, cap, cur, h', _, _, h3, _⟩
      · simp at h'; omega
      · simp at h'; omega
    have hsrc : Src P i0.size t (.slice A 0 c) 0 [] w := by
      rcases A with _ | ad
      · exact Src.ofNil w hu c
      · exact Src.ofSlice w hu ad 0 c [] (by simp) (by simp) (by simp)
    refine wpList_plain hg fun K hK => ?_
    have hr := run_append_nothing (P := P) w t t o.type e i0 hu hi0 A' n c' hnc (.slice A 0 c) hsrc
    unfold Oper.wp execOp
    simp only [hop, resolve, invoke, builtin, Sem.run_bind, Sem.run_pure, Result.andThen_ok, List.map_toArray, List.map_cons, List.map_nil, hs, hx, hr]
    exact hK _ _ (h _ w (by simpa using hown) (fun _ _ _ => rfl) (Below.refl _ _) (Nat.le_refl _))
theorem lcsV_get : ∀ (l : List Lc) (i : Nat) (h : i < l.length), (lcsV l)[i * 2]? = some (.int .i64 l[i].dev) ∧ (lcsV l)[i * 2 + 1]? = some (.int .i64 l[i].pos)
  | a :: l, 0, _ => by simp [lcsV, lcV]
  | a :: l, i + 1, h => by
    have := lcsV_get l i (by simpa using h)
    have e : lcsV (a :: l) = .int .i64 a.dev :: .int .i64 a.pos :: lcsV l := rfl
    rw [e, show (i + 1) * 2 = i * 2 + 1 + 1 by omega]
    simpa using this
abbrev OwnL (B : Nat) (w : World) (v : Value) (l : List Lc) : Prop := w.ownsRow B 33 2 v l.length (lcsV l)
theorem OwnL.locs {B : Nat} {w : World} {v : Value} {l : List Lc} (h : OwnL B w v l) : LocsAt w.heap.size w v l := by
  rcases h.2 with ⟨rfl, h0⟩ | ⟨g, cap, cur, rfl, hg, hc, hle, hmax, hsz, htake⟩
  · refine ⟨none, 0, by rw [h0], by omega, by omega, fun h1 => by omega⟩
  · refine ⟨_, cap, rfl, hle, by unfold maxLen at hmax; omega, fun _ => ⟨_, rfl, Blk.lt hc, fun i hi => ?_⟩⟩
    obtain ⟨e1, e2⟩ := lcsV_get l i hi
    exact ⟨h.cells (g := g) rfl _ _ e1, h.cells (g := g) rfl _ _ e2⟩
theorem lcsV_len (l : List Lc) : (lcsV l).length = l.length * 2 := by
  induction l with
  | nil => rfl
  | cons a l ih => rw [show lcsV (a :: l) = .int .i64 a.dev :: .int .i64 a.pos :: lcsV l from rfl]; simp only [List.length_cons, ih]; omega
theorem lcsV_cell {l : List Lc} {ad : Addr} {w : World} (h : ∀ i (h : i < l.length), w.cell? (ad.add (i * 2)) = some (.int .i64 l[i].dev) ∧ w.cell? (ad.add (i * 2 + 1)) = some (.int .i64 l[i].pos)) : ∀ j u, (lcsV l)[j]? = some u → w.cell? (ad.add j) = some u := by
  intro j u hj
  have hjl : j < (lcsV l).length := (List.getElem?_eq_some_iff.1 hj).1
  rw [lcsV_len] at hjl
  have hi : j / 2 < l.length := by omega
  obtain ⟨e1, e2⟩ := lcsV_get l (j / 2) hi
  obtain ⟨c1, c2⟩ := h (j / 2) hi
  rcases (show j = j / 2 * 2 ∨ j = j / 2 * 2 + 1 by omega) with e | e
  · rw [e, c1]
    rw [e, e1] at hj
    exact hj
  · rw [e, c2]
    rw [e, e2] at hj
    exact hj
theorem lcsV_one (l : List Lc) : ∀ u ∈ lcsV l, u.oneCell' = true := by
  intro u hu
  obtain ⟨x, _, hx⟩ := List.mem_flatMap.1 hu
  simp [lcV] at hx
  rcases hx with rfl | rfl <;> rfl
theorem _root_.Go.World.ownsRow.below {w w' : World} {base n size : Nat} {e : TypeId} {v : Value} {xs : List Value} (h : w.ownsRow base e size v n xs) (hb : Below w.heap.size w w') : w'.ownsRow base e size v n xs := row_below h hb
theorem OwnL.on {B : Nat} {w : World} {A : Option Addr} {n c : Nat} {l : List Lc} {Q : Nat → Prop} (h : OwnL B w (.slice A n c) l) (hQ : ∀ g, A = some g → Q g.block) : LocsOn Q w (.slice A n c) l := by
  obtain ⟨A', c', e, h1, h2, h3⟩ := h.locs
  refine ⟨A', c', e, h1, h2, fun h0 => ?_⟩
  obtain ⟨ad, rfl, _, hx⟩ := h3 h0
  cases e
  exact ⟨ad, rfl, hQ _ rfl, hx⟩
theorem sizeB {n0 : Int} (S : Nat → Prop) (g : Nat) (d : Dv) (dev : Int) (he : (if isB dev then ((d.sec dev).length : Int) else 0) = n0) (w wi : World) (h : Lv w wi S g d) :
    Calls Tryd.prog 24 #[.pointer (some ⟨g, 0, none⟩), .int .i64 dev] wi fun e wj => e = .returned (.int .i64 n0) ∧ Below wi.heap.size wi wj :=
  (sizeL S g d dev he w wi h).mono fun e wj ⟨h1, h2⟩ => ⟨h1, by subst h2; exact Below.refl _ _⟩
theorem lostB {b0 : Bool} (S : Nat → Prop) (g : Nat) (d : Dv) (dev : Int) (he : (isB dev && d.gone dev) = b0) (w wi : World) (h : Lv w wi S g d) :
    Calls Tryd.prog 25 #[.pointer (some ⟨g, 0, none⟩), .int .i64 dev] wi fun e wj => e = .returned (.bool b0) ∧ Below wi.heap.size wi wj :=
  (lostL S g d dev he w wi h).mono fun e wj ⟨h1, h2⟩ => ⟨h1, by subst h2; exact Below.refl _ _⟩
/-- writes, one behind the other -/
def wrK (ls : List Lc) (load : List UInt8) (d : Dv) : Nat → Dv
  | 0 => d
  | k + 1 => match ls[k]? with | some l => (wrK ls load d k).write l load | none => wrK ls load d k
theorem wrK_succ {ls : List Lc} {load : List UInt8} {d : Dv} {k : Nat} (hk : k < ls.length) : wrK ls load d (k + 1) = (wrK ls load d k).write ls[k] load := by
  rw [wrK, List.getElem?_eq_getElem hk]
theorem wrK_len {ls : List Lc} {load : List UInt8} {d : Dv} : ∀ k, (wrK ls load d k).ws.length ≤ d.ws.length + k
  | 0 => Nat.le_refl _
  | k + 1 => by
    have ih := wrK_len (ls := ls) (load := load) (d := d) k
    rw [wrK]
    split
    · rename_i l _
      have := write_ws (wrK ls load d k) l load
      omega
    · omega
def goneL (d : Dv) (l : Lc) : Bool := isB l.dev && d.gone l.dev

section
attribute [local go_sem] undef
set_option maxRecDepth 100000 in
set_option maxHeartbeats 8000000 in
theorem write_dev (S : Nat → Prop) (g : Nat) (d : Dv) (v : Value) (locs : List Lc) (load : List UInt8) (birth : Int) (hck : ckE ⟨locs, load.length, birth, shaL load⟩ = 0) (hsz : ∀ l ∈ locs, l.pos < if isB l.dev then ((d.sec l.dev).length : Int) else 0) (hn : d.ws.length ≤ 90000) (w wi : World) (hb : Below w.heap.size w wi) (hR : RootsAt wi) (hv : LocsOn (fun j => j < wi.heap.size ∧ ¬ S j) wi v locs) (h : Lv w wi S g d) :
    Calls Tryd.prog 10 #[.pointer (some ⟨g, 0, none⟩), v, .string (bstr load), .int .i64 birth] wi fun e wj =>
      (locs.any (goneL d) = true → e = .returned (.tuple #[.agg #[.slice none 0 0, .int .i64 0, .int .i64 0, .string ⟨#[]⟩], .int .i64 5]) ∧ Below wi.heap.size wi wj) ∧
      (locs.any (goneL d) = false → ∃ u S', e = .returned (.tuple #[.agg #[u, .int .i64 load.length, .int .i64 birth, .string (bstr (shaL load))], .int .i64 0]) ∧ Lv w wj S' g (wrK locs load d locs.length) ∧ (∀ j, S' j → S j ∨ wi.heap.size ≤ j) ∧ Keep wi.heap.size S wi wj ∧ Below w.heap.size w wj ∧ LocsOn (fun j => wi.heap.size ≤ j ∧ j < wj.heap.size ∧ ¬ S' j) wj u locs) := by
  obtain ⟨SH, hSH⟩ : ∃ x, shaL load = x := ⟨_, rfl⟩
  rw [hSH] at hck ⊢
  have hl := ok_facts hck
  have hl1 : 1 ≤ locs.length := hl.2.1
  have hl2 : locs.length ≤ 2 := hl.1
  have hll : load.length ≤ 960 := by have := hl.2.2.2.2.2.1; simp [inI] at this; omega
  have hva : LocsAt wi.heap.size wi v locs := hv.at_ (fun j e => e.1)
  obtain ⟨A, c, rfl, hc, hm⟩ := hva.form
  have hsrc : 0 < locs.length → ∃ ad, A = some ad ∧ ∀ j u, (lcsV locs)[j]? = some u → wi.cell? (ad.add j) = some u := fun h0 => by
    obtain ⟨A', c', e, _, _, hx⟩ := hva
    obtain ⟨ad, rfl, _, hx⟩ := hx h0
    cases e
    exact ⟨ad, rfl, lcsV_cell hx⟩
  have bel : Below wi.heap.size wi wi := Below.refl _ _
  have HSH := Lib.hid hSH
  have HCK := Lib.hid hck
  have HV := Lib.hid hv
  have HSZ := Lib.hid hsz
  have HLD : Hid (load.length < 288230376151711744) := Lib.hid (by omega)
  have HSRC := Lib.hid hsrc
  have szl : (bstr load).size = load.length := by simp [bstr, ByteArray.size]
  have hadB : ∀ ad : Addr, A = some ad → 0 < locs.length → ad.block < wi.heap.size := fun ad e h0 => by
    obtain ⟨A', c', e', _, _, hx⟩ := hva
    obtain ⟨ad', rfl, hb', hx⟩ := hx h0
    cases e'
    cases e
    exact hb'
  have HAD := Lib.hid hadB
  clear hSH hck hl hv hsz hsrc hadB
  go_enter Tryd.func10, Tryd.ntmps10
  go_upto_region 1 with fail
  obtain ⟨w1, hw1⟩ : ∃ x, wi.alloc (.cells #[.slice none 0 0, .int .i64 0, .int .i64 0, .string ⟨#[]⟩] 25) = x := ⟨_, rfl⟩
  obtain ⟨ir0, hir0⟩ : ∃ i, wi.heap.size = i := ⟨_, rfl⟩
  have r0 : Blk w1 ir0 25 #[.slice none 0 0, .int .i64 0, .int .i64 0, .string ⟨#[]⟩] := by rw [← hw1, ← hir0]; exact Blk.new _ _ _
  have k1 : Below wi.heap.size wi w1 := by rw [← hw1]; exact (Below.refl _ _).alloc (Nat.le_refl _) _
  have zr0 : w1.heap.size = ir0 + 1 := by rw [← hw1, ← hir0]; simp
  rw [hw1, hir0]
  have or0 : wi.heap.size ≤ ir0 := by rw [← hir0]; exact bel.size
  have hR := hR.moved k1
  have bel := hthen bel k1
  clear k1
  clear hw1 hir0
  have r0c0 := r0.cell 0
  have r0c1 := r0.cell 1
  have r0c2 := r0.cell 2
  have r0c3 := r0.cell 3
  simp at r0c0 r0c1 r0c2 r0c3
  have r0lt := r0.lt
  clear zr0
  obtain ⟨i0, hi0, hz0, hz1, hz2⟩ := info_parts loc_info
  have F1 := Lib.hid (show 0 + locs.length ≤ maxLen by unfold maxLen; omega)
  have F2 := Lib.hid (show (0 + locs.length) * 16 ≤ 140737488355328 by omega)
  have belN := bel
  go_wp2_with (at_builtin; refine wpList_spread (P := Tryd.prog) _ rfl _ _ 23 rfl wi.heap.size 33 (.agg #[.int .i64 0, .int .i64 0]) 2 16 Tryd.underlying23 loc_info rfl (by decide) _ 0 _ rfl (World.ownsRow_nil _ _ _ _) A locs.length c (lcsV locs) rfl (lcsV_len _) (fun h0 => by obtain ⟨ad, e, hx⟩ := HSRC.out h0; exact ⟨ad, e, fun j u hj => by rw [belN.cell (by have hh := HAD.out ad e h0; unfold Addr.add; split <;> exact hh)]; exact hx j u hj⟩) (lcsV_one _) F1.out F2.out bel.size ?_)
  intro u wu hown hsame hbu hsu
  clear r0c0 r0c1 r0c2 r0c3 r0lt
  obtain ⟨gu, cu, rfl, _, _⟩ := hown.form (by omega)
  have kU : Below w1.heap.size w1 wu := ⟨hbu.os, hbu.tape, hbu.output, hsu, fun k hk => hsame k hk (by simp [Value.ownBlock])⟩
  have row : wu.ownsRow wi.heap.size 33 2 (.slice (some ⟨gu, 0, none⟩) locs.length cu) locs.length (lcsV locs) := hown
  have hgu := (row.lt gu rfl).1
  clear hown hbu hsame hsu belN
  have r0 := r0.below kU r0.lt
  have hR := hR.moved kU
  have bel := hthen bel kU
  clear kU
  have r0c0 := r0.cell 0
  have r0c1 := r0.cell 1
  have r0c2 := r0.cell 2
  have r0c3 := r0.cell 3
  simp at r0c0 r0c1 r0c2 r0c3
  have r0lt := r0.lt
  go_wp2_with fail
  refine (of_to HSH.out HLD.out _ hR).mono ?_
  rintro e w2 ⟨rfl, k2⟩
  clear r0c0 r0c1 r0c2 r0c3 r0lt
  have r0 := r0.below k2 r0.lt
  have hR := hR.moved k2
  have row := row.below k2
  have bel := hthen bel k2
  clear k2
  have r0c0 := r0.cell 0
  have r0c1 := r0.cell 1
  have r0c2 := r0.cell 2
  have r0c3 := r0.cell 3
  simp at r0c0 r0c1 r0c2 r0c3
  have r0lt := r0.lt
  go_upto_region 2 with fail
  clear r0c0 r0c1 r0c2 r0c3 r0lt
  obtain ⟨w3, hw3⟩ : ∃ x, w2.alloc (.cells #[.slice (some ⟨gu, 0, none⟩) locs.length cu, .int .i64 load.length, .int .i64 birth, .string (bstr SH)] 25) = x := ⟨_, rfl⟩
  obtain ⟨ibp, hibp⟩ : ∃ i, w2.heap.size = i := ⟨_, rfl⟩
  have bp : Blk w3 ibp 25 #[.slice (some ⟨gu, 0, none⟩) locs.length cu, .int .i64 load.length, .int .i64 birth, .string (bstr SH)] := by rw [← hw3, ← hibp]; exact Blk.new _ _ _
  have k3 : Below w2.heap.size w2 w3 := by rw [← hw3]; exact (Below.refl _ _).alloc (Nat.le_refl _) _
  have zbp : w3.heap.size = ibp + 1 := by rw [← hw3, ← hibp]; simp
  rw [hw3, hibp]
  have obp : wi.heap.size ≤ ibp := by rw [← hibp]; exact bel.size
  have nr0bp : ir0 ≠ ibp := by have := r0.lt; omega
  have r0 := r0.below k3 r0.lt
  have hR := hR.moved k3
  have row := row.below k3
  have bel := hthen bel k3
  clear k3
  clear hw3 hibp
  have r0c0 := r0.cell 0
  have r0c1 := r0.cell 1
  have r0c2 := r0.cell 2
  have r0c3 := r0.cell 3
  simp at r0c0 r0c1 r0c2 r0c3
  have r0lt := r0.lt
  have bpc0 := bp.cell 0
  have bpc1 := bp.cell 1
  have bpc2 := bp.cell 2
  have bpc3 := bp.cell 3
  simp at bpc0 bpc1 bpc2 bpc3
  have bplt := bp.lt
  go_wp2_with fail
  refine (check_to (p := ⟨locs, load.length, birth, SH⟩) HCK.out _ _ (OwnL.locs row) (Nat.le_refl _)).mono ?_
  rintro e w4 ⟨rfl, k4⟩
  clear r0c0 r0c1 r0c2 r0c3 r0lt bpc0 bpc1 bpc2 bpc3 bplt
  have r0 := r0.below k4 r0.lt
  have bp := bp.below k4 bp.lt
  have hR := hR.moved k4
  have row := row.below k4
  have bel := hthen bel k4
  clear k4
  have r0c0 := r0.cell 0
  have r0c1 := r0.cell 1
  have r0c2 := r0.cell 2
  have r0c3 := r0.cell 3
  simp at r0c0 r0c1 r0c2 r0c3
  have r0lt := r0.lt
  have bpc0 := bp.cell 0
  have bpc1 := bp.cell 1
  have bpc2 := bp.cell 2
  have bpc3 := bp.cell 3
  simp at bpc0 bpc1 bpc2 bpc3
  have bplt := bp.lt
  go_wp2_with fail
  clear r0c0 r0c1 r0c2 r0c3 r0lt bpc0 bpc1 bpc2 bpc3 bplt
  go_loopw [11, 30] (fun gv i wr => ∃ k : Nat, k ≤ locs.length ∧ i = .int .i64 k ∧ gv = .bool ((locs.take k).any (goneL d)) ∧ RootsAt wr ∧ Below wi.heap.size wi wr ∧ Blk wr ir0 25 #[.slice none 0 0, .int .i64 0, .int .i64 0, .string ⟨#[]⟩] ∧ Blk wr ibp 25 #[.slice (some ⟨gu, 0, none⟩) locs.length cu, .int .i64 load.length, .int .i64 birth, .string (bstr SH)] ∧ wr.ownsRow wi.heap.size 33 2 (.slice (some ⟨gu, 0, none⟩) locs.length cu) locs.length (lcsV locs)) (fun _ i _ => locs.length - (intOf i).toNat)
  case atStart => exact ⟨0, by omega, rfl, rfl, hR, bel, r0, bp, row⟩
  case round =>
    clear bel r0 bp row hR
    obtain ⟨k, hk, rfl, rfl, hR, bel, r0, bp, row⟩ := hrel
    by_cases hlt : k < locs.length
    · have q1 : decide ((k : Int) < locs.length) = true := decide_eq_true (by omega)
      have lv := h.below bel
      have hva2 : LocsAt wi.heap.size wr (.slice A locs.length c) locs := (HV.out.at_ (fun j e => e.1)).keep bel (Nat.le_refl _)
      obtain ⟨ad, hadA, had, hx0, hy0⟩ := hva2.get k hlt
      have hany : (locs.take (k + 1)).any (goneL d) = ((locs.take k).any (goneL d) || goneL d locs[k]) := by rw [List.take_succ_eq_append_getElem hlt, List.any_append]; simp
      have hsz := HSZ.out locs[k] (List.getElem_mem hlt)
      obtain ⟨l, hl⟩ : ∃ l, locs[k] = l := ⟨_, rfl⟩
      rw [hl] at hx0 hy0 hany hsz
      obtain ⟨n0, hn0⟩ : ∃ x, (if isB l.dev then ((d.sec l.dev).length : Int) else 0) = x := ⟨_, rfl⟩
      rw [hn0] at hsz
      obtain ⟨fl, hfl⟩ : ∃ x, (locs.take k).any (goneL d) = x := ⟨_, rfl⟩
      obtain ⟨gl, hgl⟩ : ∃ x, goneL d l = x := ⟨_, rfl⟩
      rw [hfl, hgl] at hany
      try rw [hfl]
      have HANY := Lib.hid hany
      have HN0 := Lib.hid hn0
      have HGL := Lib.hid hgl
      have q2 : decide (l.pos ≥ n0) = false := decide_eq_false (by omega)
      cases hadA
      clear hany hn0 hgl hl hfl
      have r0c0 := r0.cell 0
      have r0c1 := r0.cell 1
      have r0c2 := r0.cell 2
      have r0c3 := r0.cell 3
      simp at r0c0 r0c1 r0c2 r0c3
      have r0lt := r0.lt
      have bpc0 := bp.cell 0
      have bpc1 := bp.cell 1
      have bpc2 := bp.cell 2
      have bpc3 := bp.cell 3
      simp at bpc0 bpc1 bpc2 bpc3
      have bplt := bp.lt
      go_upto_region 8 with fail
      clear r0c0 r0c1 r0c2 r0c3 r0lt bpc0 bpc1 bpc2 bpc3 bplt
      obtain ⟨w41, hw41⟩ : ∃ x, wr.alloc (.cells #[.int .i64 l.dev, .int .i64 l.pos] 33) = x := ⟨_, rfl⟩
      obtain ⟨ibl, hibl⟩ : ∃ i, wr.heap.size = i := ⟨_, rfl⟩
      have bl : Blk w41 ibl 33 #[.int .i64 l.dev, .int .i64 l.pos] := by rw [← hw41, ← hibl]; exact Blk.new _ _ _
      have k41 : Below wr.heap.size wr w41 := by rw [← hw41]; exact (Below.refl _ _).alloc (Nat.le_refl _) _
      have zbl : w41.heap.size = ibl + 1 := by rw [← hw41, ← hibl]; simp
      rw [hw41, hibl]
      have obl : wi.heap.size ≤ ibl := by rw [← hibl]; exact bel.size
      have nr0bl : ir0 ≠ ibl := by have := r0.lt; omega
      have nbpbl : ibp ≠ ibl := by have := bp.lt; omega
      have r0 := r0.below k41 r0.lt
      have bp := bp.below k41 bp.lt
      have hR := hR.moved k41
      have row := row.below k41
      have lv := lv.below k41
      have bel := hthen bel k41
      clear k41
      clear hw41 hibl
      have r0c0 := r0.cell 0
      have r0c1 := r0.cell 1
      have r0c2 := r0.cell 2
      have r0c3 := r0.cell 3
      simp at r0c0 r0c1 r0c2 r0c3
      have r0lt := r0.lt
      have bpc0 := bp.cell 0
      have bpc1 := bp.cell 1
      have bpc2 := bp.cell 2
      have bpc3 := bp.cell 3
      simp at bpc0 bpc1 bpc2 bpc3
      have bplt := bp.lt
      have blc0 := bl.cell 0
      have blc1 := bl.cell 1
      simp at blc0 blc1
      have bllt := bl.lt
      clear r0c0 r0c1 r0c2 r0c3 r0lt bpc0 bpc1 bpc2 bpc3 bplt blc0 blc1 bllt
      clear hx0 hy0 hva2
      have hR := hR.moved (Below.refl _ _).drew
      have row := row.below (Below.refl _ _).drew
      have lv := lv.below (Below.refl _ _).drew
      have bel := bel.drew
      have r0 := r0.drew
      have bp := bp.drew
      have bl := bl.drew
      refine wp_region_noPanic ?_
      refine wp_region_held_drew (S := (fun w' => w'.cell? ⟨ibl, 0, none⟩ = some (.int .i64 l.dev) ∧ w'.cell? ⟨ibl, 1, none⟩ = some (.int .i64 l.pos))) (by kernel_rfl) ?hS0 (fun hHeld => ?_)
      case hS0 => (have q0 := bl.cell 0; have q1 := bl.cell 1; simp at q0 q1; exact ⟨q0, q1⟩)
      generalize hZ : w41.drew = wd42 at *
      clear hZ
      refine wpAnyH_take (i := 0) (oi := ⟨some 34, _, _, _, _, _⟩) (v := ?_) rfl (by kernel_rfl) (by kernel_rfl) (by kernel_rfl) (fun _ _ _ h => h) (Or.inl ⟨by kernel_rfl, ?_⟩) hHeld ?_
      rotate_left
      · (intro w hSw; (try dsimp only at hSw); go_simp; try with_reducible rfl)
      try simp only [Act.put, List.getElem_toArray, List.getElem_cons_succ, List.getElem_cons_zero, List.setIfInBounds_toArray, List.set_cons_zero, List.set_cons_succ]
      refine wpAnyH_take (i := 1) (oi := ⟨some 35, _, _, _, _, _⟩) (v := ?_) rfl (by kernel_rfl) (by kernel_rfl) (by kernel_rfl) (fun _ _ _ h => h) (Or.inl ⟨by kernel_rfl, ?_⟩) hHeld ?_
      rotate_left
      · (intro w hSw; (try dsimp only at hSw); go_simp; try with_reducible rfl)
      try simp only [Act.put, List.getElem_toArray, List.getElem_cons_succ, List.getElem_cons_zero, List.setIfInBounds_toArray, List.set_cons_zero, List.set_cons_succ]
      refine wpAnyH_take (i := 2) (oi := ⟨some 36, _, _, _, _, _⟩) (v := ?_) rfl (by kernel_rfl) (by kernel_rfl) (by kernel_rfl) (fun _ _ _ h => h) (Or.inl ⟨by kernel_rfl, ?_⟩) hHeld ?_
      rotate_left
      · (intro w hSw; (try dsimp only at hSw); go_simp; try with_reducible rfl)
      try simp only [Act.put, List.getElem_toArray, List.getElem_cons_succ, List.getElem_cons_zero, List.setIfInBounds_toArray, List.set_cons_zero, List.set_cons_succ]
      refine wpAnyH_take (i := 3) (oi := ⟨some 37, _, _, _, _, _⟩) (v := ?_) rfl (by kernel_rfl) (by kernel_rfl) (by kernel_rfl) (fun _ _ _ h => h) (Or.inl ⟨by kernel_rfl, ?_⟩) hHeld ?_
      rotate_left
      · (intro w hSw; (try dsimp only at hSw); go_simp; try with_reducible rfl)
      try simp only [Act.put, List.getElem_toArray, List.getElem_cons_succ, List.getElem_cons_zero, List.setIfInBounds_toArray, List.set_cons_zero, List.set_cons_succ]
      refine wpAnyH_take (i := 4) (oi := ⟨some 38, _, _, _, _, _⟩) (v := ?_) rfl (by kernel_rfl) (by kernel_rfl) (by kernel_rfl) (fun _ _ _ h => h) (Or.inl ⟨by kernel_rfl, ?_⟩) hHeld ?_
      rotate_left
      · (intro w hSw; (try dsimp only at hSw); go_simp; try with_reducible rfl)
      try simp only [Act.put, List.getElem_toArray, List.getElem_cons_succ, List.getElem_cons_zero, List.setIfInBounds_toArray, List.set_cons_zero, List.set_cons_succ]
      refine wpAnyH_ready (rs := [5]) (by kernel_rfl) (by simp) ?_
      refine (AllReadyH.cons rfl (fun K hK => ?_) AllReadyH.nil)
      try rw [if_pos (by kernel_rfl)]
      go_simp
      go_at_call 24
      refine (sizeB S g d l.dev HN0.out w _ lv).mono ?_
      rintro e w43 ⟨rfl, k43⟩
      have r0 := r0.below k43 r0.lt
      have bp := bp.below k43 bp.lt
      have bl := bl.below k43 bl.lt
      have hR := hR.moved k43
      have row := row.below k43
      have lv := lv.below k43
      have bel := hthen bel k43
      clear k43
      try dsimp only
      refine hK.out _ _ (by have q0 := bl.cell 0; have q1 := bl.cell 1; simp at q0 q1; exact ⟨q0, q1⟩) (fun hHeld => ?_)
      clear hK K
      try simp only [Act.put, List.getElem_toArray, List.getElem_cons_succ, List.getElem_cons_zero, List.setIfInBounds_toArray, List.set_cons_zero, List.set_cons_succ]
      refine wpAnyH_take (i := 6) (oi := ⟨some 40, _, _, _, _, _⟩) (v := ?_) rfl (by kernel_rfl) (by kernel_rfl) (by kernel_rfl) (fun _ _ _ h => h) (Or.inl ⟨by kernel_rfl, ?_⟩) hHeld ?_
      rotate_left
      · (intro w hSw; (try dsimp only at hSw); go_simp; try with_reducible rfl)
      try simp only [Act.put, List.getElem_toArray, List.getElem_cons_succ, List.getElem_cons_zero, List.setIfInBounds_toArray, List.set_cons_zero, List.set_cons_succ]
      refine wpAnyH_done (by kernel_rfl) ?_ _
      refine NoPanic.normal ?_
      cases fl
      · have r0c0 := r0.cell 0
        have r0c1 := r0.cell 1
        have r0c2 := r0.cell 2
        have r0c3 := r0.cell 3
        simp at r0c0 r0c1 r0c2 r0c3
        have r0lt := r0.lt
        have bpc0 := bp.cell 0
        have bpc1 := bp.cell 1
        have bpc2 := bp.cell 2
        have bpc3 := bp.cell 3
        simp at bpc0 bpc1 bpc2 bpc3
        have bplt := bp.lt
        have blc0 := bl.cell 0
        have blc1 := bl.cell 1
        simp at blc0 blc1
        have bllt := bl.lt
        go_wp2_with fail
        refine (lostB S g d l.dev HGL.out w _ lv).mono ?_
        rintro e w44 ⟨rfl, k44⟩
        clear r0c0 r0c1 r0c2 r0c3 r0lt bpc0 bpc1 bpc2 bpc3 bplt blc0 blc1 bllt
        have r0 := r0.below k44 r0.lt
        have bp := bp.below k44 bp.lt
        have bl := bl.below k44 bl.lt
        have hR := hR.moved k44
        have row := row.below k44
        have lv := lv.below k44
        have bel := hthen bel k44
        clear k44
        go_wp2
        go_roundw
        case rel => exact ⟨k + 1, by omega, by go_num, by rw [HANY.out]; simp, hR, bel, r0, bp, row⟩
        case measure => simp [intOf]; omega
      · have r0c0 := r0.cell 0
        have r0c1 := r0.cell 1
        have r0c2 := r0.cell 2
        have r0c3 := r0.cell 3
        simp at r0c0 r0c1 r0c2 r0c3
        have r0lt := r0.lt
        have bpc0 := bp.cell 0
        have bpc1 := bp.cell 1
        have bpc2 := bp.cell 2
        have bpc3 := bp.cell 3
        simp at bpc0 bpc1 bpc2 bpc3
        have bplt := bp.lt
        have blc0 := bl.cell 0
        have blc1 := bl.cell 1
        simp at blc0 blc1
        have bllt := bl.lt
        go_wp2_with fail
        go_roundw
        case rel => exact ⟨k + 1, by omega, by go_num, by rw [HANY.out]; simp, hR, bel, r0, bp, row⟩
        case measure => simp [intOf]; omega
    · obtain rfl : k = locs.length := by omega
      have q1 : decide (((locs.length : Nat) : Int) < (locs.length : Int)) = false := by simp
      rw [List.take_length]
      obtain ⟨fl, hfl⟩ : ∃ x, locs.any (goneL d) = x := ⟨_, rfl⟩
      rw [hfl]
      have HFL := Lib.hid hfl
      clear hfl
      cases fl
      · have nSr : ¬ S ir0 := fun e => by have := h.o.lt _ e; omega
        have nSp : ¬ S ibp := fun e => by have := h.o.lt _ e; omega
        have nSu : ¬ S gu := fun e => by have := h.o.lt _ e; omega
        have lv : Lv w wr S g (wrK locs load d 0) := h.below bel
        have hkp : Keep wi.heap.size S wi wr := Keep.of_below bel
        have bw := hthen hb bel
        have row := row.at0
        go_wp2_with fail
        go_loopw [54] (fun i wr => ∃ (k : Nat) (S' : Nat → Prop), k ≤ locs.length ∧ i = .int .i64 k ∧ Lv w wr S' g (wrK locs load d k) ∧ (∀ j, S' j → S j ∨ wi.heap.size ≤ j) ∧ Keep wi.heap.size S wi wr ∧ Below w.heap.size w wr ∧ Blk wr ir0 25 #[.slice none 0 0, .int .i64 0, .int .i64 0, .string ⟨#[]⟩] ∧ ¬ S' ir0 ∧ Blk wr ibp 25 #[.slice (some ⟨gu, 0, none⟩) locs.length cu, .int .i64 load.length, .int .i64 birth, .string (bstr SH)] ∧ ¬ S' ibp ∧ wr.ownsRow 0 33 2 (.slice (some ⟨gu, 0, none⟩) locs.length cu) locs.length (lcsV locs) ∧ ¬ S' gu) (fun i _ => locs.length - (intOf i).toNat)
        case atStart => exact ⟨0, S, by omega, rfl, lv, fun j e => .inl e, hkp, bw, r0, nSr, bp, nSp, row, nSu⟩
        case round =>
          clear lv hkp bw r0 nSr bp nSp row nSu bel hR
          obtain ⟨k, S', hk, rfl, lv, gW, hkp, bw, r0, nSr, bp, nSp, row, nSu⟩ := hrel
          by_cases hlt : k < locs.length
          · have q1 : decide ((k : Int) < locs.length) = true := decide_eq_true (by omega)
            have hwk := wrK_len (ls := locs) (load := load) (d := d) k
            have hsu := wrK_succ (load := load) (d := d) hlt
            have hva2 : LocsAt wi.heap.size wr (.slice A locs.length c) locs := (HV.out.keep (fun j e => hkp.block j e.1 e.2)).at_ (fun j e => e.1)
            obtain ⟨ad, hadA, had, hx0, hy0⟩ := hva2.get k hlt
            obtain ⟨l, hl⟩ : ∃ l, locs[k] = l := ⟨_, rfl⟩
            rw [hl] at hx0 hy0 hsu
            obtain ⟨dk, hdk⟩ : ∃ y, wrK locs load d k = y := ⟨_, rfl⟩
            rw [hdk] at lv hwk hsu
            obtain ⟨er, her⟩ : ∃ y, mayE dk l load = y := ⟨_, rfl⟩
            have HSU := Lib.hid hsu
            have HER := Lib.hid her
            have HWK : Hid (dk.ws.length ≤ 100000) := Lib.hid (by omega)
            cases hadA
            clear hsu her hdk hl
            have r0c0 := r0.cell 0
            have r0c1 := r0.cell 1
            have r0c2 := r0.cell 2
            have r0c3 := r0.cell 3
            simp at r0c0 r0c1 r0c2 r0c3
            have r0lt := r0.lt
            have bpc0 := bp.cell 0
            have bpc1 := bp.cell 1
            have bpc2 := bp.cell 2
            have bpc3 := bp.cell 3
            simp at bpc0 bpc1 bpc2 bpc3
            have bplt := bp.lt
            go_upto_region 17 with fail
            clear r0c0 r0c1 r0c2 r0c3 r0lt bpc0 bpc1 bpc2 bpc3 bplt
            obtain ⟨w121, hw121⟩ : ∃ x, wr.alloc (.cells #[.int .i64 l.dev, .int .i64 l.pos] 33) = x := ⟨_, rfl⟩
            obtain ⟨ibl, hibl⟩ : ∃ i, wr.heap.size = i := ⟨_, rfl⟩
            have bl : Blk w121 ibl 33 #[.int .i64 l.dev, .int .i64 l.pos] := by rw [← hw121, ← hibl]; exact Blk.new _ _ _
            have k121 : Below wr.heap.size wr w121 := by rw [← hw121]; exact (Below.refl _ _).alloc (Nat.le_refl _) _
            have hkpN := hkp.then (Keep.of_below (S := fun _ => False) k121) hkp.size (fun _ _ e => e.elim)
            have zbl : w121.heap.size = ibl + 1 := by rw [← hw121, ← hibl]; simp
            rw [hw121, hibl]
            have r0 := r0.below k121 r0.lt
            have bp := bp.below k121 bp.lt
            have lv := lv.below k121
            have row := row.below k121
            have bw := hthen bw k121
            clear k121
            clear hw121 hibl
            have r0c0 := r0.cell 0
            have r0c1 := r0.cell 1
            have r0c2 := r0.cell 2
            have r0c3 := r0.cell 3
            simp at r0c0 r0c1 r0c2 r0c3
            have r0lt := r0.lt
            have bpc0 := bp.cell 0
            have bpc1 := bp.cell 1
            have bpc2 := bp.cell 2
            have bpc3 := bp.cell 3
            simp at bpc0 bpc1 bpc2 bpc3
            have bplt := bp.lt
            have blc0 := bl.cell 0
            have blc1 := bl.cell 1
            simp at blc0 blc1
            have bllt := bl.lt
            clear r0c0 r0c1 r0c2 r0c3 r0lt bpc0 bpc1 bpc2 bpc3 bplt blc0 blc1 bllt
            clear hx0 hy0 hva2
            have r0c0 := r0.cell 0
            have r0c1 := r0.cell 1
            have r0c2 := r0.cell 2
            have r0c3 := r0.cell 3
            simp at r0c0 r0c1 r0c2 r0c3
            have r0lt := r0.lt
            have bpc0 := bp.cell 0
            have bpc1 := bp.cell 1
            have bpc2 := bp.cell 2
            have bpc3 := bp.cell 3
            simp at bpc0 bpc1 bpc2 bpc3
            have bplt := bp.lt
            have blc0 := bl.cell 0
            have blc1 := bl.cell 1
            simp at blc0 blc1
            have bllt := bl.lt
            go_wp2_with fail
            clear r0c0 r0c1 r0c2 r0c3 r0lt bpc0 bpc1 bpc2 bpc3 bplt blc0 blc1 bllt
            refine (writeL (e0 := er) S' g dk l load HER.out HWK.out w _ bw lv).mono ?_
            rintro e wj ⟨rfl, S2, lv2, gS, kS, bw2⟩
            have hs0 := r0.lt
            have hs1 := bp.lt
            have hs2 := (row.lt gu rfl).2
            have c0 : ¬ S2 ir0 := fun e => (gS _ e).elim nSr (fun e => by omega)
            have c1 : ¬ S2 ibp := fun e => (gS _ e).elim nSp (fun e => by omega)
            have c2 : ¬ S2 gu := fun e => (gS _ e).elim nSu (fun e => by omega)
            have r02 := r0.keep kS r0.lt nSr
            have bp2 := bp.keep kS bp.lt nSp
            have row2 := row_keep row kS (fun j e => by cases e; exact ⟨hs2, nSu⟩)
            have hkp2 := hkpN.then kS hkpN.size (fun j hj e => (gW j e).elim (fun e => e) (fun e => absurd e (by omega)))
            have gW2 : ∀ j, S2 j → S j ∨ wi.heap.size ≤ j := fun j e => (gS j e).elim (gW j) (fun e => .inr (Nat.le_trans hkpN.size e))
            clear kS gS lv r0 bp row hkp hkpN gW hs0 hs1 hs2
            go_wp2
            go_roundw
            case rel => exact ⟨k + 1, S2, by omega, by go_num, by rw [HSU.out]; exact lv2, gW2, hkp2, bw2, r02, c0, bp2, c1, row2, c2⟩
            case measure => simp [intOf]; omega
          · obtain rfl : k = locs.length := by omega
            have q1 : decide (((locs.length : Nat) : Int) < (locs.length : Int)) = false := by simp
            have r0c0 := r0.cell 0
            have r0c1 := r0.cell 1
            have r0c2 := r0.cell 2
            have r0c3 := r0.cell 3
            simp at r0c0 r0c1 r0c2 r0c3
            have r0lt := r0.lt
            have bpc0 := bp.cell 0
            have bpc1 := bp.cell 1
            have bpc2 := bp.cell 2
            have bpc3 := bp.cell 3
            simp at bpc0 bpc1 bpc2 bpc3
            have bplt := bp.lt
            have rf0 := r0.frozen 0
            have rf1 := r0.frozen 1
            have rf2 := r0.frozen 2
            have rf3 := r0.frozen 3
            go_wp2
            have hgl := (row.lt gu rfl).2
            have hne : (Value.slice (some ⟨gu, 0, none⟩) locs.length cu).ownBlock ≠ some ir0 := row_ne row r0 (by decide)
            have row9 := row_set (i := 3) (row_set (i := 2) (row_set (i := 1) (row_set (i := 0) row hne (.slice (some ⟨gu, 0, none⟩) locs.length cu)) hne (.int .i64 load.length)) hne (.int .i64 birth)) hne (.string (bstr SH))
            have lv9 := lv.keep (((((Keep.refl wr.heap.size (· = ir0) wr).set1 0 (.slice (some ⟨gu, 0, none⟩) locs.length cu)).set1 1 (.int .i64 load.length)).set1 2 (.int .i64 birth)).set1 3 (.string (bstr SH))) (fun j hj e => nSr (e ▸ hj))
            have hk9 := ((((hkp.setCell (p := ⟨ir0, 0, none⟩) (.inl or0) (.slice (some ⟨gu, 0, none⟩) locs.length cu)).setCell (p := ⟨ir0, 1, none⟩) (.inl or0) (.int .i64 load.length)).setCell (p := ⟨ir0, 2, none⟩) (.inl or0) (.int .i64 birth)).setCell (p := ⟨ir0, 3, none⟩) (.inl or0) (.string (bstr SH)))
            have bw9 := (below_at (below_at (below_at (below_at bw (show w.heap.size ≤ ir0 by have := hb.size; omega) 0 (.slice (some ⟨gu, 0, none⟩) locs.length cu)) (show w.heap.size ≤ ir0 by have := hb.size; omega) 1 (.int .i64 load.length)) (show w.heap.size ≤ ir0 by have := hb.size; omega) 2 (.int .i64 birth)) (show w.heap.size ≤ ir0 by have := hb.size; omega) 3 (.string (bstr SH)))
            have szr := hb.size
            have xx := ((((r0.set_ 0 (.slice (some ⟨gu, 0, none⟩) locs.length cu)).set_ 1 (.int .i64 load.length)).set_ 2 (.int .i64 birth)).set_ 3 (.string (bstr SH)))
            simp at xx
            have xx0 := xx.cell 0
            have xx1 := xx.cell 1
            have xx2 := xx.cell 2
            have xx3 := xx.cell 3
            simp at xx0 xx1 xx2 xx3
            refine bodyPost_ret (v := .tuple #[.agg #[.slice (some ⟨gu, 0, none⟩) locs.length cu, .int .i64 load.length, .int .i64 birth, .string (bstr SH)], .int .i64 0]) ?h1 rfl ?h2
            case h1 => simp [results, Tryd.results10, go_sem, xx0, xx1, xx2, xx3]
            case h2 => exact ⟨fun e => absurd (HFL.out.symm.trans e) (by decide), fun _ => ⟨_, S', rfl, lv9, gW, hk9, bw9, OwnL.on row9 (fun g e => by cases e; exact ⟨hgu, by simpa using hgl, nSu⟩)⟩⟩
      · have r0c0 := r0.cell 0
        have r0c1 := r0.cell 1
        have r0c2 := r0.cell 2
        have r0c3 := r0.cell 3
        simp at r0c0 r0c1 r0c2 r0c3
        have r0lt := r0.lt
        have bpc0 := bp.cell 0
        have bpc1 := bp.cell 1
        have bpc2 := bp.cell 2
        have bpc3 := bp.cell 3
        simp at bpc0 bpc1 bpc2 bpc3
        have bplt := bp.lt
        have rf0 := r0.frozen 0
        have rf1 := r0.frozen 1
        have rf2 := r0.frozen 2
        have rf3 := r0.frozen 3
        go_wp2
        have xx := ((((r0.set_ 0 (.slice none 0 0)).set_ 1 (.int .i64 0)).set_ 2 (.int .i64 0)).set_ 3 (.string ⟨#[]⟩))
        simp at xx
        have xx0 := xx.cell 0
        have xx1 := xx.cell 1
        have xx2 := xx.cell 2
        have xx3 := xx.cell 3
        simp at xx0 xx1 xx2 xx3
        refine bodyPost_ret (v := .tuple #[.agg #[.slice none 0 0, .int .i64 0, .int .i64 0, .string ⟨#[]⟩], .int .i64 5]) ?h1 rfl ?h2
        case h1 => simp [results, Tryd.results10, go_sem, xx0, xx1, xx2, xx3]
        case h2 => exact ⟨fun _ => ⟨rfl, (below_at (below_at (below_at (below_at bel or0 0 (.slice none 0 0)) or0 1 (.int .i64 0)) or0 2 (.int .i64 0)) or0 3 (.string ⟨#[]⟩))⟩, fun e => absurd (HFL.out.symm.trans e) (by decide)⟩
end
end Go.Proofs.YtmdjbmhjnajpgaaDoor
