/- Blocks of memory that are known whole, frames of calls, strings as lists of bytes, and the plain functions that the walks speak of: definitions and their laws, no condition. -/
import Derived.Test.YtmdjbmhjnajpgaaDoorRows
import Derived.WalkKit
import Derived.WalkSpells
import Derived.WalkLawsBesides
import Derived.Deep.QuietTactic
import Derived.BigQuiet
import Derived.Lib.Hide
import Derived.Deep.LoopGhost
import Derived.Deep.DeepCutAuto
import Derived.Deep.RegionWith
import Derived.BigRegion
import Derived.Deep.RegionHeld3
import Derived.Lib.ConvBytes
namespace Go.Proofs.YtmdjbmhjnajpgaaDoor
open Go.RowKit
set_option linter.unusedSimpArgs false
set_option linter.unnecessarySimpa false
set_option linter.unusedVariables false

/-! A block that is known whole, and what a call leaves as it was. -/

def Blk (w : World) (g : Nat) (t : TypeId) (cs : Array Value) : Prop := w.heap[g]? = some (.cells cs t (0, 0))

/-- below block B nothing has turned but the blocks of S -/
structure Keep (B : Nat) (S : Nat → Prop) (w w' : World) : Prop where
  os : w'.os = w.os
  tape : w'.tape = w.tape
  output : w'.output = w.output
  size : w.heap.size ≤ w'.heap.size
  block : ∀ k, k < B → ¬ S k → w'.heap[k]? = w.heap[k]?

section
variable {w w' w2 : World} {g B B' : Nat} {t : TypeId} {cs : Array Value} {S S' : Nat → Prop}
theorem Blk.lt (h : Blk w g t cs) : g < w.heap.size := by
  rcases Nat.lt_or_ge g w.heap.size with hlt | hge
  · exact hlt
  · unfold Blk at h; rw [Array.getElem?_eq_none hge] at h; cases h
theorem Blk.cell (h : Blk w g t cs) (i : Nat) : w.cell? ⟨g, i, none⟩ = cs[i]? := cell_of_row w g i cs t (0, 0) h
theorem Blk.frozen (h : Blk w g t cs) (i : Nat) : w.frozen? ⟨g, i, none⟩ = false := by
  unfold Blk at h
  simp [World.frozen?, h]
theorem Blk.new (w : World) (t : TypeId) (cs : Array Value) : Blk (w.alloc (.cells cs t)) w.heap.size t cs := heap_alloc_new w _
theorem Blk.drew (h : Blk w g t cs) : Blk w.drew g t cs := h
theorem Blk.drewN (h : Blk w g t cs) (n : Nat) : Blk (w.drewN n) g t cs := h
theorem Blk.alloc (h : Blk w g t cs) (o : Obj) : Blk (w.alloc o) g t cs := (Below.heap_alloc w o g h.lt).trans h
theorem Blk.set_ (h : Blk w g t cs) (i : Nat) (u : Value) : Blk (w.setCell ⟨g, i, none⟩ u) g t (cs.setIfInBounds i u) := by
  unfold Blk at h ⊢
  simp [World.setCell, Array.getElem?_modify, h]
theorem Blk.far (h : Blk w g t cs) {p : Addr} (hp : g ≠ p.block) (u : Value) : Blk (w.setCell p u) g t cs := (Below.heap_setCell w p u g hp).trans h
theorem Blk.keep (h : Blk w g t cs) (hk : Keep B S w w') (hg : g < B) (hs : ¬ S g) : Blk w' g t cs := (hk.block g hg hs).trans h
theorem Blk.below {B : Nat} (h : Blk w g t cs) (hb : Below B w w') (hg : g < B) : Blk w' g t cs := (hb.block g hg).trans h
theorem Blk.grown {row : Option Nat} (h : Blk w g t cs) (hb : w.grownBy w' row) (hg : some g ≠ row) : Blk w' g t cs := (hb.block g h.lt hg).trans h

theorem Keep.refl (B : Nat) (S : Nat → Prop) (w : World) : Keep B S w w := ⟨rfl, rfl, rfl, Nat.le_refl _, fun _ _ _ => rfl⟩
theorem Keep.cell (h : Keep B S w w') {p : Addr} (hp : p.block < B) (hs : ¬ S p.block) : w'.cell? p = w.cell? p := World.cell?_of_block (w := w) (h.block p.block hp hs)
theorem Keep.trans (h : Keep B S w w') (k : Keep B S w' w2) : Keep B S w w2 :=
  ⟨k.os.trans h.os, k.tape.trans h.tape, k.output.trans h.output, Nat.le_trans h.size k.size, fun i hi hs => (k.block i hi hs).trans (h.block i hi hs)⟩
theorem Keep.mono (h : Keep B S w w') (hB : B' ≤ B) (hS : ∀ k, k < B' → S k → S' k) : Keep B' S' w w' :=
  ⟨h.os, h.tape, h.output, h.size, fun k hk hs => h.block k (Nat.lt_of_lt_of_le hk hB) (fun x => hs (hS k hk x))⟩
theorem Keep.drew (h : Keep B S w w') : Keep B S w w'.drew := ⟨h.os, h.tape, h.output, h.size, h.block⟩
theorem Keep.drewN (h : Keep B S w w') (n : Nat) : Keep B S w (w'.drewN n) := ⟨h.os, h.tape, h.output, h.size, h.block⟩
theorem Keep.alloc (h : Keep B S w w') (hB : B ≤ w'.heap.size) (o : Obj) : Keep B S w (w'.alloc o) :=
  h.trans ⟨rfl, rfl, rfl, by simp, fun k hk _ => Below.heap_alloc _ _ _ (by omega)⟩
theorem Keep.setCell (h : Keep B S w w') {p : Addr} (hp : B ≤ p.block ∨ S p.block) (u : Value) : Keep B S w (w'.setCell p u) :=
  h.trans ⟨rfl, rfl, rfl, by simp [World.setCell], fun k hk hs => Below.heap_setCell _ _ _ _ (by
    intro e; subst e
    rcases hp with hp | hp
    · omega
    · exact hs hp)⟩
theorem Keep.set1 (h : Keep B (· = g) w w') (i : Nat) (u : Value) : Keep B (· = g) w (w'.setCell ⟨g, i, none⟩ u) := h.setCell (p := ⟨g, i, none⟩) (.inr rfl) u
theorem Keep.below (h : Keep B (fun _ => False) w w') : Below B w w' := ⟨h.os, h.tape, h.output, h.size, fun k hk => h.block k hk (fun x => x)⟩
theorem Keep.of_below (h : Below B w w') : Keep B S w w' := ⟨h.os, h.tape, h.output, h.size, fun k hk _ => h.block k hk⟩
end

theorem _root_.Go.RowKit.Below.dN {B : Nat} {a w : World} (h : Below B a w) (n : Nat) : Below B a (w.drewN n) := ⟨h.os, h.tape, h.output, h.size, h.block⟩
theorem _root_.Go.RowKit.Below.fromN {B : Nat} {a w : World} {n : Nat} (h : Below B (a.drewN n) w) : Below B a w := ⟨h.os, h.tape, h.output, h.size, h.block⟩
theorem below_at {B g : Nat} {a w : World} (h : Below B a w) (hg : B ≤ g) (i : Nat) (u : Value) : Below B a (w.setCell ⟨g, i, none⟩ u) := h.setCell (p := ⟨g, i, none⟩) hg u
theorem Keep.fromN {B : Nat} {S : Nat → Prop} {a w : World} {n : Nat} (h : Keep B S (a.drewN n) w) : Keep B S a w := ⟨h.os, h.tape, h.output, h.size, h.block⟩
theorem Keep.fromDrew {B : Nat} {S : Nat → Prop} {a w : World} (h : Keep B S a.drew w) : Keep B S a w := ⟨h.os, h.tape, h.output, h.size, h.block⟩
theorem _root_.Go.RowKit.Below.fromDrew {B : Nat} {a w : World} (h : Below B a.drew w) : Below B a w := ⟨h.os, h.tape, h.output, h.size, h.block⟩
theorem quiet_same {P : Program} {f : FuncId} {args : Array Value} {w : World} {n : Nat} {v : Value}
    (h : Calls P f args (w.drewN n) fun e w' => e = .returned v ∧ w.drewN n = w') : Calls P f args (w.drewN n) fun e w'' => e = .returned v ∧ ∃ m, w'' = w.drewN m :=
  h.mono fun _ _ ⟨he, hm⟩ => ⟨he, n, hm.symm⟩
theorem ret_str {a b : ByteArray} (h : a = b) : Ending.returned (.string a) = .returned (.string b) := by rw [h]
theorem ret_int {k : IntKind} {a b : Int} (h : a = b) : Ending.returned (.int k a) = .returned (.int k b) := by rw [h]
theorem ret_bool {a b : Bool} (h : a = b) : Ending.returned (.bool a) = .returned (.bool b) := by rw [h]

/-- a string of a list of bytes -/
abbrev bstr (l : List UInt8) : ByteArray := ⟨l.toArray⟩
theorem bstr_extract (l : List UInt8) (a b : Nat) : (bstr l).extract a b = bstr ((l.take b).drop a) := by
  apply ByteArray.ext
  apply Array.ext'
  simp [ByteArray.extract, ByteArray.copySlice, bstr]
  rw [← List.drop_take]
theorem bstr_append (a b : List UInt8) : bstr a ++ bstr b = bstr (a ++ b) := rfl
theorem bstr_nil : bstr [] = ByteArray.empty := rfl
theorem bstr_get (l : List UInt8) (i : Nat) (h : i < (bstr l).size) : (bstr l)[i]'h = l[i]'h := rfl
attribute [go_sem] bstr_extract bstr_append bstr_get
/-- the cells of bytes -/
def bcells (l : List UInt8) : Array Value := (l.map fun b => Value.int .u8 b.toNat).toArray

theorem size_bcells (l : List UInt8) : (bcells l).size = l.length := by simp [bcells]
theorem get_bcells (l : List UInt8) (i : Nat) : (bcells l)[i]? = l[i]?.map fun b => Value.int .u8 b.toNat := by simp [bcells]
theorem set_bcells (l : List UInt8) (i : Nat) (b : UInt8) : (bcells l).setIfInBounds i (.int .u8 b.toNat) = bcells (l.set i b) := by
  simp [bcells, List.map_set]

theorem bcells_zero (n : Nat) : madeCells #[Value.int .u8 0] n = bcells (List.replicate n 0) := by
  apply Array.ext'
  have h := toList_madeCells_one (.int .u8 0) n
  rw [h]
  simp [bcells]
theorem run_make_bytes {P : Program} (t e : TypeId) (hi : (P.info? e).map (fun i => (i.zero, i.size, i.bytes)) = some (some (.int .u8 0), 1, 1)) (ht : P.underlying t = some (.slice e)) (n : Nat) (hn : n ≤ 281474976710656) (w : World) :
    (Instr.makeSlice t (.int .i64 n) (.int .i64 n)).run P w = .ok (.slice (some ⟨w.heap.size, 0, none⟩) n n) (w.alloc (.cells (bcells (List.replicate n 0)) e)) := by
  obtain ⟨i0, h1, h2, h3, h4⟩ := info_parts hi
  have hr := run_make (P := P) w t e i0 _ ht h1 h2 .i64 .i64 n n (by omega) (Int.le_refl _) (by rw [h4]; omega) (by omega)
  rw [hr]
  simp only [Int.toNat_natCast, h3, Nat.mul_one]
  rw [show (Value.int IntKind.u8 0).cells = #[Value.int IntKind.u8 0] from rfl, bcells_zero]

theorem strOfNums_bytes (l : List UInt8) : strOfNums (l.map fun b => (b.toNat : Int)) = bstr l := by
  simp [strOfNums, Function.comp_def]
theorem run_convert_bcells {P : Program} {w : World} {g : Nat} {t : TypeId} {l rest : List UInt8} (h : Blk w g t (bcells (l ++ rest))) {src e dst : TypeId} (hs : P.underlying src = some (.slice e)) (he : P.underlying e = some (.int .u8)) (hd : P.underlying dst = some .string) (n c : Nat) (hn : l.length = n) :
    (convert src dst (.slice (some ⟨g, 0, none⟩) n c)).run P w = .ok (.string (bstr l)) w := by
  rw [← strOfNums_bytes l]
  refine run_convert_bytes_arg w src e hs he g 0 n c _ (by simpa using hn) (fun i hi => ?_) dst hd
  have hi' : i < l.length := by omega
  rw [Nat.zero_add, h.cell, get_bcells, List.getElem?_append_left hi']
  simp [hi', List.getD_eq_getElem?_getD]

/-- 'string(b)' of four bytes -/
theorem run_bytes_four {P : Program} {w : World} {g : Nat} {src e dst : TypeId} (hs : P.underlying src = some (.slice e)) (he : P.underlying e = some (.int .u8)) (hd : P.underlying dst = some .string) (x0 x1 x2 x3 : UInt8) (c : Nat)
    (h0 : w.cell? ⟨g, 0, none⟩ = some (.int .u8 x0.toNat)) (h1 : w.cell? ⟨g, 1, none⟩ = some (.int .u8 x1.toNat)) (h2 : w.cell? ⟨g, 2, none⟩ = some (.int .u8 x2.toNat)) (h3 : w.cell? ⟨g, 3, none⟩ = some (.int .u8 x3.toNat)) :
    (convert src dst (.slice (some ⟨g, 0, none⟩) 4 c)).run P w = .ok (.string (bstr [x0, x1, x2, x3])) w :=
  run_convert_bytes_back w src dst e ⟨g, 0, none⟩ c [x0, x1, x2, x3] hs he hd (fun j hj => by
    match j, hj with
    | 0, _ => simpa [Addr.add] using h0
    | 1, _ => simpa [Addr.add] using h1
    | 2, _ => simpa [Addr.add] using h2
    | 3, _ => simpa [Addr.add] using h3)

theorem run_bytes_four_new {P : Program} (w : World) {src e dst : TypeId} (hs : P.underlying src = some (.slice e)) (he : P.underlying e = some (.int .u8)) (hd : P.underlying dst = some .string) (v0 v1 v2 v3 : Int) (x0 x1 x2 x3 : UInt8)
    (e0 : (x0.toNat : Int) = v0) (e1 : (x1.toNat : Int) = v1) (e2 : (x2.toNat : Int) = v2) (e3 : (x3.toNat : Int) = v3) :
    (convert src dst (.slice (some ⟨w.heap.size, 0, none⟩) 4 4)).run P (w.alloc (.cells #[.int .u8 v0, .int .u8 v1, .int .u8 v2, .int .u8 v3] e)) =
      .ok (.string (bstr [x0, x1, x2, x3])) (w.alloc (.cells #[.int .u8 v0, .int .u8 v1, .int .u8 v2, .int .u8 v3] e)) := by
  subst e0 e1 e2 e3
  have hb := Blk.new w e #[.int .u8 x0.toNat, .int .u8 x1.toNat, .int .u8 x2.toNat, .int .u8 x3.toNat]
  exact run_bytes_four hs he hd x0 x1 x2 x3 4 (by simp) (by simp) (by simp) (by simp)

/-- '[]byte(s)': a new block of the string's bytes -/
theorem run_str_bytes {P : Program} (w : World) (src dst e : TypeId) (l : List UInt8) (hs : P.underlying src = some .string) (hd : P.underlying dst = some (.slice e)) (he : P.underlying e = some (.int .u8)) :
    ∃ c w', (convert src dst (.string (bstr l))).run P w = .ok (.slice (some ⟨w.heap.size, 0, none⟩) l.length c) w' ∧ l.length ≤ c ∧ w'.heap.size = w.heap.size + 1 ∧ Below w.heap.size w w' ∧
      (∀ j (hj : j < l.length), w'.cell? ⟨w.heap.size, j, none⟩ = some (.int .u8 l[j].toNat)) ∧ (∀ j, j < l.length → w'.frozen? ⟨w.heap.size, j, none⟩ = false) := by
  have h := run_bytes_of_string (P := P) w src dst e (bstr l) hs hd he
  have hsz : (bstr l).size = l.length := by simp [bstr, ByteArray.size]
  rw [hsz] at h
  have hcap : l.length ≤ grownCap w l.length 0 e := by simp only [grownCap, Question.cut]; omega
  refine ⟨_, _, h, hcap, by simp, ((Below.refl _ _).drew).alloc (Nat.le_refl _) _, fun j hj => ?_, fun j hj => ?_⟩
  · have hq := fun o => cell_of_row (w.drew.alloc (.cells (bytesRow (bstr l) (grownCap w l.length 0 e)) e o)) w.heap.size j _ _ _ (heap_alloc_new w.drew _)
    rw [hq]
    have h3 : j < (bytesRow (bstr l) (grownCap w l.length 0 e)).size := by simp [bytesRow]; omega
    rw [Array.getElem?_eq_getElem h3]
    simp [bytesRow, Array.getElem_append, hj]
  · have := heap_alloc_new w.drew (.cells (bytesRow (bstr l) (grownCap w l.length 0 e)) e ((bytesRow (bstr l) (grownCap w l.length 0 e)).size, (bytesRow (bstr l) (grownCap w l.length 0 e)).size + 1))
    have h2 : w.drew.heap.size = w.heap.size := rfl
    rw [h2] at this
    have h3 : j < (bytesRow (bstr l) (grownCap w l.length 0 e)).size := by simp [bytesRow]; omega
    unfold World.frozen?
    rw [this]
    simp
    omega

/-! append of one element to a row of the call's own -/
theorem wpList_app {P : Program} {ops : Array Oper} {rest : List Oper} {o : Oper} {a : Act} {Q : Exit → Act → World → Prop} (w : World) (hg : o.guard = none) (s x : Operand) (t : TypeId)
    (hop : o.op = .call { callee := .builtin .append, args := #[s, x], argTypes := #[t, t] })
    (B : Nat) (e : TypeId) (z : Value) (size bytes : Nat) (hu : P.underlying t = some (.slice e)) (hi : (P.info? e).map (fun i => (i.zero, i.size, i.bytes)) = some (some z, size, bytes))
    (hzs : z.cells.size = size) (hsz : 0 < size) (v : Value) (n : Nat) (xs : List Value) (hs : a.eval s = v) (hown : w.ownsRow B e size v n xs)
    (us : List Value) (hx : a.eval x = .slice (some ⟨w.heap.size, 0, none⟩) 1 1) (hl : us.length = size) (h1 : ∀ u ∈ us, u.oneCell' = true)
    (h63 : n + 1 ≤ maxLen) (hbytes : (n + 1) * bytes ≤ 140737488355328) (hB : B ≤ w.heap.size)
    (h : ∀ v' w', w'.ownsRow B e size v' (n + 1) (xs ++ us) → (w.alloc (.cells us.toArray e)).grownBy w' v.ownBlock → Below B w w' → wpList P ops Q rest (a.put o.dst v') w') :
    wpList P ops Q (o :: rest) a (w.alloc (.cells us.toArray e)) := by
  obtain ⟨i0, hi0, hz0, hz1, hz2⟩ := info_parts hi
  have hb := Blk.new w e us.toArray
  refine wpList_append_own (P := P) _ hg s x t hop B e i0 z size bytes hu hi0 hz0 hz1 hz2 hzs hsz v n xs hs (hown.alloc _) ⟨w.heap.size, 0, none⟩ 1 1 us hx (by omega) ?_ h1 h63 hbytes (by simp; omega) ?_
  · intro j u hj
    have : (⟨w.heap.size, 0, none⟩ : Addr).add j = ⟨w.heap.size, j, none⟩ := by unfold Addr.add; split <;> simp_all
    rw [this, hb.cell]
    simpa using hj
  · intro v' w' hown' hgrow _
    refine h v' w' hown' hgrow ?_
    refine ((Below.refl B w).alloc hB _).grown hgrow (by simp; omega) ?_
    intro k hk
    exact (hown.lt k hk).1

def bvals (l : List UInt8) : List Value := l.map fun b => Value.int .u8 b.toNat
theorem own_string {P : Program} {w : World} {base n : Nat} {e' src dst e : TypeId} {v : Value} {l : List UInt8} (hs : P.underlying src = some (.slice e)) (he : P.underlying e = some (.int .u8)) (hd : P.underlying dst = some .string)
    (h : w.ownsRow base e' 1 v n (bvals l)) : (convert src dst v).run P w = .ok (.string (bstr l)) w := by
  have hl : l.length = n := by have := h.1; simp [bvals] at this; exact this
  rcases h.2 with ⟨rfl, h0⟩ | ⟨g, cap, cur, rfl, _⟩
  · obtain rfl : l = [] := List.eq_nil_of_length_eq_zero (by omega)
    exact run_convert_bytes_nil w src e hs he 0 0 dst hd
  · rw [← strOfNums_bytes l]
    refine run_convert_bytes_arg w src e hs he g 0 n cap _ (by simpa using hl) (fun i hi => ?_) dst hd
    have hi' : i < l.length := by omega
    have hc := h.cells (g := g) rfl i (.int .u8 l[i].toNat) (by simp [bvals, hi'])
    have ha : (⟨g, 0, none⟩ : Addr).add i = ⟨g, 0 + i, none⟩ := by unfold Addr.add; split <;> simp_all
    rw [ha] at hc
    rw [hc]
    simp [hi', List.getD_eq_getElem?_getD]

/-! numbers in bytes, the lowest one first -/
def leB : Nat → Nat → List UInt8
  | _, 0 => []
  | n, k + 1 => UInt8.ofNat (n % 256) :: leB (n / 256) k
theorem length_leB (n k : Nat) : (leB n k).length = k := by
  induction k generalizing n with
  | zero => rfl
  | succ k ih => simp [leB, ih]
theorem leB_snoc (n k : Nat) : leB n (k + 1) = leB n k ++ [UInt8.ofNat (n / 256 ^ k % 256)] := by
  induction k generalizing n with
  | zero => simp [leB]
  | succ k ih =>
    rw [leB, ih (n / 256)]
    simp only [leB, List.cons_append, Nat.div_div_eq_div_mul, Nat.pow_succ, Nat.mul_comm]
theorem leB_set (n : Int) (h : 0 ≤ n) (k m : Nat) (hk : k < m) (w : World) (g : Nat) (t : TypeId) (hb : Blk w g t (bcells (leB n.toNat k ++ List.replicate (m - k) 0))) :
    Blk (w.setCell ⟨g, k, none⟩ (.int .u8 (n / 2 ^ (8 * k) % 256))) g t (bcells (leB n.toNat (k + 1) ++ List.replicate (m - (k + 1)) 0)) := by
  have e : (n / 2 ^ (8 * k) % 256 : Int) = ((UInt8.ofNat (n.toNat / 256 ^ k % 256)).toNat : Int) := by
    obtain ⟨q, rfl⟩ : ∃ q : Nat, n = q := ⟨n.toNat, by omega⟩
    have e1 : (2 : Int) ^ (8 * k) = ((256 ^ k : Nat) : Int) := by
      rw [show (256 : Nat) = 2 ^ 8 from rfl, ← Nat.pow_mul]
      simp
    rw [e1]
    simp
  have h := hb.set_ k (.int .u8 (n / 2 ^ (8 * k) % 256))
  rw [e, set_bcells] at h
  rw [e]
  have e2 : (leB n.toNat k ++ List.replicate (m - k) 0).set k (UInt8.ofNat (n.toNat / 256 ^ k % 256)) = leB n.toNat (k + 1) ++ List.replicate (m - (k + 1)) 0 := by
    rw [leB_snoc, List.set_append_right _ _ (by simp [length_leB]), length_leB, Nat.sub_self]
    obtain ⟨j, hj⟩ : ∃ j, m - k = j + 1 := ⟨m - k - 1, by omega⟩
    rw [hj, show m - (k + 1) = j by omega]
    simp [List.replicate_succ]
  rwa [e2] at h
def leN : List UInt8 → Nat
  | [] => 0
  | b :: l => b.toNat + 256 * leN l
theorem leN_lt (l : List UInt8) : leN l < 256 ^ l.length := by
  induction l with
  | nil => simp [leN]
  | cons b l ih =>
    have := b.toNat_lt
    simp only [leN, List.length_cons, Nat.pow_succ]
    omega
theorem leN_append (l m : List UInt8) : leN (l ++ m) = leN l + 256 ^ l.length * leN m := by
  induction l with
  | nil => simp [leN]
  | cons b l ih =>
    simp only [leN, List.cons_append, List.length_cons, Nat.pow_succ, ih, Nat.mul_add]
    rw [Nat.mul_comm (256 ^ l.length) 256, Nat.mul_assoc]
    omega
theorem leN_leB (n k : Nat) (h : n < 256 ^ k) : leN (leB n k) = n := by
  induction k generalizing n with
  | zero => simp at h; subst h; rfl
  | succ k ih =>
    have h2 : n / 256 < 256 ^ k := by
      rw [Nat.pow_succ] at h
      exact Nat.div_lt_of_lt_mul (by rw [Nat.mul_comm]; exact h)
    simp only [leB, leN, ih _ h2]
    simp
    omega

def mostI (n : Int) : Int := if n < 1 then -1 else if 7 < n then -1 else 256 ^ n.toNat - 1
theorem leN_step (q : List UInt8) (k : Nat) (hk : k < q.length) (h7 : q.length ≤ 7) :
    bits .or .i64 (leN (q.take k) : Nat) (wrap64 (wrap64 (q[k]'hk).toNat * 2 ^ (8 * k))) = ((leN (q.take (k + 1)) : Nat) : Int) := by
  have hc := q[k].toNat_lt
  have hlt := leN_lt (q.take k)
  have hl : (q.take k).length = k := by simp; omega
  rw [hl] at hlt
  have e2 : (256 : Nat) ^ k = 2 ^ (8 * k) := by rw [show (256 : Nat) = 2 ^ 8 from rfl, ← Nat.pow_mul]
  have e4 : leN (q.take (k + 1)) = leN (q.take k) + 256 ^ k * q[k].toNat := by
    rw [List.take_succ_eq_append_getElem hk, leN_append, hl]; simp [leN]
  have hp : (2 : Nat) ^ (8 * k) ≤ 2 ^ 48 := Nat.pow_le_pow_right (by decide) (by omega)
  have e5 : wrap64 (q[k].toNat : Int) = (q[k].toNat : Int) := Go.IntWalk.wrap64_in _ (by omega)
  have hb : q[k].toNat * 2 ^ (8 * k) < 2 ^ 56 := by
    have h1 : q[k].toNat * 2 ^ (8 * k) ≤ q[k].toNat * 2 ^ 48 := Nat.mul_le_mul_left _ hp
    omega
  have e6 : ((q[k].toNat : Int) * 2 ^ (8 * k)) = ((q[k].toNat * 2 ^ (8 * k) : Nat) : Int) := by simp
  rw [e5, e6, Go.IntWalk.wrap64_in _ (by omega)]
  have ha : leN (q.take k) < 2 ^ 62 := by rw [e2] at hlt; omega
  rw [(bits_nat .i64 62 (by decide) (fun n h0 h1 => by rw [IntKind.wrap_i64]; omega) _ _ ha (by omega)).2, e4, Nat.or_comm, Nat.mul_comm (q[k].toNat),
    ← Nat.two_pow_add_eq_or_of_lt (by rw [← e2]; exact hlt) (q[k].toNat), e2, Nat.add_comm]
theorem mostI_ok {n wd : Int} (h1 : ¬ n < 0) (h : ¬ mostI wd < n) : 1 ≤ wd ∧ wd ≤ 7 := by
  unfold mostI at h
  by_cases a : wd < 1
  · rw [if_pos a] at h; omega
  · rw [if_neg a] at h
    by_cases b : 7 < wd
    · rw [if_pos b] at h; omega
    · omega
/-- a number's bytes; nothing where it does not fit -/
def putL (n wd : Int) : List UInt8 := if n < 0 then [] else if mostI wd < n then [] else leB n.toNat wd.toNat
theorem putL_len (n wd : Int) : (putL n wd).length ≤ 7 := by
  unfold putL
  by_cases a : n < 0
  · simp [a]
  · by_cases b : mostI wd < n
    · simp [a, b]
    · have := mostI_ok a b
      rw [if_neg a, if_neg b, length_leB]; omega
def textL (s : List UInt8) (wd : Int) : List UInt8 := if mostI wd < s.length then [] else putL s.length wd ++ s


theorem leN_drop (q : List UInt8) (j : Nat) (hj : j < q.length) : leN (q.drop j) = q[j].toNat + 256 * leN (q.drop (j + 1)) := by
  rw [List.drop_eq_getElem_cons hj]; rfl

/-! numbers of four bytes, the highest one first -/
def be4 (n : Nat) : List UInt8 := (leB n 4).reverse
def beN (l : List UInt8) : Nat := l.foldl (fun n b => 256 * n + b.toNat) 0

theorem beN_append (l : List UInt8) (b : UInt8) : beN (l ++ [b]) = 256 * beN l + b.toNat := by simp [beN]
theorem beN_take (l : List UInt8) (k : Nat) (hk : k < l.length) : beN (l.take (k + 1)) = 256 * beN (l.take k) + l[k].toNat := by
  rw [List.take_succ_eq_append_getElem hk, beN_append]
theorem beN_lt (l : List UInt8) : ∀ k, k ≤ l.length → beN (l.take k) < 256 ^ k := by
  intro k
  induction k with
  | zero => intro _; simp [beN]
  | succ k ih =>
    intro h
    have h1 := ih (by omega)
    have := l[k].toNat_lt
    rw [beN_take l k (by omega), Nat.pow_succ]
    omega
theorem beN_step (q : List UInt8) (k : Nat) (hk : k < q.length) (h7 : q.length ≤ 6) :
    bits .or .i64 (wrap64 ((beN (q.take k) : Nat) * 256)) (wrap64 (q[k]'hk).toNat) = ((beN (q.take (k + 1)) : Nat) : Int) := by
  rw [beN_take q k hk]
  have hc := q[k].toNat_lt
  have hlt := beN_lt q k (by omega)
  have hp : (256 : Nat) ^ k ≤ 256 ^ 5 := Nat.pow_le_pow_right (by decide) (by omega)
  generalize beN (q.take k) = p at *
  have e5 : wrap64 (q[k].toNat : Int) = (q[k].toNat : Int) := Go.IntWalk.wrap64_in _ (by omega)
  have e6 : wrap64 ((p : Int) * 256) = ((2 ^ 8 * p : Nat) : Int) := by rw [Go.IntWalk.wrap64_in _ (by omega)]; omega
  rw [e5, e6, (bits_nat .i64 62 (by decide) (fun n h0 h1 => by rw [IntKind.wrap_i64]; omega) _ _ (by omega) (by omega)).2,
    ← Nat.two_pow_add_eq_or_of_lt (by omega) p]

theorem beN_step2 (q : List UInt8) (k : Nat) (hk : k < q.length) (h7 : q.length ≤ 6) :
    wrap64 (256 * (beN (q.take k) : Nat) + wrap64 (q[k]'hk).toNat) = ((beN (q.take (k + 1)) : Nat) : Int) := by
  rw [beN_take q k hk]
  have hc := q[k].toNat_lt
  have hlt := beN_lt q k (by omega)
  have hp : (256 : Nat) ^ k ≤ 256 ^ 5 := Nat.pow_le_pow_right (by decide) (by omega)
  generalize beN (q.take k) = p at *
  rw [Go.IntWalk.wrap64_in (q[k].toNat : Int) (by omega), Go.IntWalk.wrap64_in _ (by omega)]
  omega

theorem be4_eq (n : Nat) : be4 n = [UInt8.ofNat (n / 16777216 % 256), UInt8.ofNat (n / 65536 % 256), UInt8.ofNat (n / 256 % 256), UInt8.ofNat (n % 256)] := by
  simp [be4, leB, Nat.div_div_eq_div_mul]

/-! the keys and texts of inodes -/
def inB (n : Int) : Bool := decide (0 ≤ n) && decide (n ≤ 2147483648)
def keyL (n : Int) : List UInt8 := if inB n then 105 :: be4 n.toNat else []
def entryL (d : Int) (name : List UInt8) : List UInt8 := if inB d && (!name.isEmpty && decide (name.length ≤ 255)) then 100 :: (be4 d.toNat ++ name) else []
def chunkL (n k : Int) : List UInt8 := if inB n && inB k then 99 :: (be4 n.toNat ++ be4 k.toNat) else []
structure Wh where
  kind : Int
  n : Int
  rest : List UInt8
  is : Bool
def Wh.none : Wh := ⟨0, 0, [], false⟩
def whichL : List UInt8 → Wh
  | c :: x1 :: x2 :: x3 :: x4 :: rest =>
    if 2147483648 < beN [x1, x2, x3, x4] then Wh.none
    else if c = 105 ∧ rest = [] then ⟨0, beN [x1, x2, x3, x4], [], true⟩
    else if c = 100 ∧ rest ≠ [] ∧ rest.length ≤ 255 then ⟨1, beN [x1, x2, x3, x4], rest, true⟩
    else if c = 99 ∧ rest.length = 4 ∧ beN rest ≤ 2147483648 then ⟨2, beN [x1, x2, x3, x4], rest, true⟩
    else Wh.none
  | _ => Wh.none

/-- an inode's text, or why there is none -/
def encL (d : Bool) (s l : Int) : List UInt8 := (if d then 1 else 0) :: (leB s.toNat 4 ++ leB l.toNat 4)

/-- the inode of a text: is it a directory, its size, its links; or why there is none -/
structure Ino where
  d : Bool
  s : Int
  l : Int
  e : Int
def decL : List UInt8 → Ino
  | k :: a0 :: a1 :: a2 :: a3 :: b0 :: b1 :: b2 :: b3 :: rest =>
    if rest = [] ∧ k.toNat ≤ 1 ∧ leN [a0, a1, a2, a3] ≤ 2147483648 ∧ leN [b0, b1, b2, b3] ≤ 2147483648 then ⟨decide (k.toNat = 1), leN [a0, a1, a2, a3], leN [b0, b1, b2, b3], 0⟩ else ⟨false, 0, 0, 3⟩
  | _ => ⟨false, 0, 0, 2⟩
theorem decL_long (k a0 a1 a2 a3 b0 b1 b2 b3 : UInt8) (rest : List UInt8) : decL (k :: a0 :: a1 :: a2 :: a3 :: b0 :: b1 :: b2 :: b3 :: rest) =
    if rest = [] ∧ k.toNat ≤ 1 ∧ leN [a0, a1, a2, a3] ≤ 2147483648 ∧ leN [b0, b1, b2, b3] ≤ 2147483648 then ⟨decide (k.toNat = 1), leN [a0, a1, a2, a3], leN [b0, b1, b2, b3], 0⟩ else ⟨false, 0, 0, 3⟩ := rfl
theorem decL_short {s : List UInt8} (h : s.length < 9) : decL s = ⟨false, 0, 0, 2⟩ := by
  unfold decL
  split
  · simp at h; omega
  · rfl
theorem nine {s : List UInt8} (h : ¬ s.length < 9) : ∃ k a0 a1 a2 a3 b0 b1 b2 b3 rest, s = k :: a0 :: a1 :: a2 :: a3 :: b0 :: b1 :: b2 :: b3 :: rest := by
  rcases s with _ | ⟨k, _ | ⟨a0, _ | ⟨a1, _ | ⟨a2, _ | ⟨a3, _ | ⟨b0, _ | ⟨b1, _ | ⟨b2, _ | ⟨b3, rest⟩⟩⟩⟩⟩⟩⟩⟩⟩ <;> simp at h
  exact ⟨k, a0, a1, a2, a3, b0, b1, b2, b3, rest, rfl⟩

/-! the reader -/
structure Rd where
  s : List UInt8
  e : Int
def Rd.take (r : Rd) (n e : Int) : List UInt8 × Rd :=
  if r.e ≠ 0 then ([], r) else if e ≠ 0 then ([], ⟨r.s, e⟩) else if (r.s.length : Int) < n then ([], ⟨r.s, 2⟩) else (r.s.take n.toNat, ⟨r.s.drop n.toNat, 0⟩)
def Rd.bytes (r : Rd) (n : Int) : List UInt8 × Rd := r.take n (if n < 0 then 1 else 0)
def Rd.number (r : Rd) (wd : Int) : Int × Rd := ((leN (r.take wd (if mostI wd < 0 then 1 else 0)).1 : Int), (r.take wd (if mostI wd < 0 then 1 else 0)).2)
def Rd.text (r : Rd) (wd : Int) : List UInt8 × Rd := (r.number wd).2.bytes (r.number wd).1
def Rd.left (r : Rd) : Int := if r.e ≠ 0 then 0 else r.s.length
def Rd.fin (r : Rd) : Int := if r.e = 0 ∧ r.s ≠ [] then 3 else r.e

theorem bstr_toList (s : ByteArray) : ∃ l, s = bstr l := ⟨s.data.toList, by simp [bstr]⟩

theorem mostI_nat {m : Nat} (h1 : 1 ≤ m) (h7 : m ≤ 7) : mostI m = (256 ^ m - 1 : Nat) := by
  unfold mostI
  have : 0 < 256 ^ m := Nat.pow_pos (by decide)
  rw [if_neg (by omega), if_neg (by omega), Int.toNat_natCast, Int.natCast_sub this]
  simp
theorem Rd.number_app (q rest : List UInt8) (wd : Int) (hq : (q.length : Int) = wd) (h1 : 1 ≤ wd) (h7 : wd ≤ 7) : Rd.number ⟨q ++ rest, 0⟩ wd = (((leN q : Nat) : Int), ⟨rest, 0⟩) := by
  obtain ⟨m, rfl⟩ : ∃ m : Nat, wd = m := ⟨wd.toNat, by omega⟩
  have hm : ¬ mostI (m : Int) < 0 := by rw [mostI_nat (by omega) (by omega)]; omega
  unfold Rd.number Rd.take
  rw [if_neg hm]
  simp only [ne_eq, not_true_eq_false, if_false]
  have hle : ¬ (((q ++ rest).length : Nat) : Int) < (m : Int) := by rw [List.length_append]; omega
  rw [if_neg hle]
  have hl : q.length = m := by omega
  simp only [Int.toNat_natCast]
  rw [List.take_append_of_le_length (by omega), List.take_of_length_le (by omega), List.drop_append_of_le_length (by omega), List.drop_of_length_le (by omega)]
  rfl
theorem Rd.number_short (q : List UInt8) (wd : Int) (hq : (q.length : Int) < wd) (h1 : 1 ≤ wd) (h7 : wd ≤ 7) : Rd.number ⟨q, 0⟩ wd = (0, ⟨q, 2⟩) := by
  obtain ⟨m, rfl⟩ : ∃ m : Nat, wd = m := ⟨wd.toNat, by omega⟩
  have hm : ¬ mostI (m : Int) < 0 := by rw [mostI_nat (by omega) (by omega)]; omega
  unfold Rd.number Rd.take
  rw [if_neg hm]
  simp only [ne_eq, not_true_eq_false, if_false]
  rw [if_pos hq]
  rfl
theorem Rd.number_err (q : List UInt8) (e wd : Int) (he : e ≠ 0) : Rd.number ⟨q, e⟩ wd = (0, ⟨q, e⟩) := by
  unfold Rd.number Rd.take
  simp only [ne_eq, he, not_false_eq_true, if_true]
  rfl

end Go.Proofs.YtmdjbmhjnajpgaaDoor
