/- Package dev: Waits: its contract. -/
import Derived.Test.YtmlakbdigbpmaaaDv9
namespace Go.Proofs.Ytmlakbdigbpmaaa
open Go.RowKit
set_option linter.unusedSimpArgs false
set_option linter.unnecessarySimpa false
set_option linter.unusedVariables false

def lcV (l : Lc) : List Value := [.int .i64 l.dev, .int .i64 l.pos]
def lcsV (l : List Lc) : List Value := l.flatMap lcV
theorem loc_info : (Try.prog.info? 29).map (fun i => (i.zero, i.size, i.bytes)) = some (some (.agg #[.int .i64 0, .int .i64 0]), 2, 16) := by kernel_rfl

theorem wpList_app2 {P : Program} {ops : Array Oper} {rest : List Oper} {o : Oper} {a : Act} {Q : Exit → Act → World → Prop} (w : World) (hg : o.guard = none) (s x : Operand) (t : TypeId)
    (hop : o.op = .call { callee := .builtin .append, args := #[s, x], argTypes := #[t, t] })
    (B : Nat) (e : TypeId) (z : Value) (size bytes : Nat) (hu : P.underlying t = some (.slice e)) (hi : (P.info? e).map (fun i => (i.zero, i.size, i.bytes)) = some (some z, size, bytes))
    (hzs : z.cells.size = size) (hsz : 0 < size) (v : Value) (n : Nat) (xs : List Value) (hs : a.eval s = v) (hown : w.ownsRow B e size v n xs)
    (us : List Value) {g : Nat} (hgw : w.heap.size = g) (hx : a.eval x = .slice (some ⟨g, 0, none⟩) 1 1) (hl : us.length = size) (h1 : ∀ u ∈ us, u.oneCell' = true)
    (h63 : n + 1 ≤ maxLen) (hbytes : (n + 1) * bytes ≤ 140737488355328) (hB : B ≤ w.heap.size)
    (h : ∀ v' w', w'.ownsRow B e size v' (n + 1) (xs ++ us) → (w.alloc (.cells us.toArray e)).grownBy w' v.ownBlock → Below B w w' → wpList P ops Q rest (a.put o.dst v') w') :
    wpList P ops Q (o :: rest) a (w.alloc (.cells us.toArray e)) := by
  subst hgw
  exact wpList_app w hg s x t hop B e z size bytes hu hi hzs hsz v n xs hs hown us hx hl h1 h63 hbytes hB h
theorem lcsV_snoc (l : List Lc) (x : Lc) : lcsV (l ++ [x]) = lcsV l ++ lcV x := by simp [lcsV]
set_option maxHeartbeats 2000000 in
theorem waits_any (g b0 b1 : Nat) (v : Value) (d : Dv) (hn : d.ws.length ≤ 100000) (w : World) (h : DvAt w g b0 b1 v d) :
    Calls Try.prog 14 #[.pointer (some ⟨g, 0, none⟩)] w fun e w' => ∃ u, e = .returned u ∧ w'.ownsRow w.heap.size 29 2 u d.ws.length (lcsV (d.ws.map Wr.loc)) ∧ Below w.heap.size w w' := by
  obtain ⟨A, c, rfl, _, _⟩ := h.form
  have y4 := h.cell4.1
  go_enter Try.func14, Try.ntmps14
  go_wp2_with fail
  go_loopw [3, 13] (fun u i wr => ∃ k : Nat, k ≤ d.ws.length ∧ i = .int .i64 k ∧ wr.ownsRow w.heap.size 29 2 u k (lcsV ((d.ws.take k).map Wr.loc)) ∧ Below w.heap.size w wr) (fun _ i _ => d.ws.length - (intOf i).toNat)
  case atStart => exact ⟨0, by omega, rfl, World.ownsRow_nil _ _ _ _, Below.refl _ _⟩
  case round =>
    obtain ⟨k, hk, rfl, hu, hbel⟩ := hrel
    by_cases hlt : k < d.ws.length
    · have hd := h.below hbel
      have hown := hd.hw.row (by omega)
      obtain ⟨gr, rfl⟩ : ∃ gr, A = some ⟨gr, 0, none⟩ := by
        rcases hown.2 with ⟨_, h0⟩ | ⟨gr, cap, cur, e, _⟩
        · omega
        · simp at e; exact ⟨gr, e.1⟩
      obtain ⟨g1, g2, g3⟩ := wrsV_get d.ws k hlt
      have y0 := hown.cellAt (k * 3) (by omega)
      have y1 := hown.cellAt (k * 3 + 1) (by omega)
      have y2 := hown.cellAt (k * 3 + 2) (by omega)
      rw [g1] at y0
      rw [g2] at y1
      rw [g3] at y2
      have hsz := hbel.size
      have htk : (d.ws.take (k + 1)).map Wr.loc = (d.ws.take k).map Wr.loc ++ [d.ws[k].loc] := by rw [List.take_succ_eq_append_getElem hlt, List.map_append]; rfl
      have HTK := Lib.hid htk
      have F1 : k + 1 ≤ maxLen := by unfold maxLen; omega
      have F2 : (k + 1) * 16 ≤ 140737488355328 := by omega
      have F1 := Lib.hid F1
      have F2 := Lib.hid F2
      clear htk g1 g2 g3 hown hd
      go_wp2_with (at_builtin; refine wpList_app2 (P := Try.prog) _ rfl _ _ 35 rfl w.heap.size 29 (.agg #[.int .i64 0, .int .i64 0]) 2 16 Try.underlying35 loc_info rfl (by decide) _ k (lcsV ((d.ws.take k).map Wr.loc)) rfl (hu.alloc _) _ (g := wr.heap.size + 1) (by simp) rfl rfl ?c1 F1.out F2.out (by simp; omega) ?_)
      case c1 => intro u hu; simp at hu; rcases hu with rfl | rfl <;> rfl
      intro v' w10 hown10 hgrow10 hb10
      have hb11 : Below w.heap.size w w10 := (hbel.alloc hsz _).trans hb10
      go_wp2
      go_round
      case rel => exact ⟨k + 1, by omega, by go_num, by rw [HTK.out, lcsV_snoc]; simpa [lcV, List.map_take] using hown10, hb11⟩
      case measure => simp [intOf]; omega
    · obtain rfl : k = d.ws.length := by omega
      rw [List.take_length] at hu
      go_wp2
      go_ret
      exact ⟨_, rfl, hu, hbel⟩

end Go.Proofs.Ytmlakbdigbpmaaa
