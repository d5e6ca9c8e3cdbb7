/- The reference of package sum: Of: plain part. Written by a line of Python: the list of primes. -/
import Derived.Test.YtppckmfaidpliaaDoorRs8a
import Derived.Test.YtppckmfaidpliaaDoorRs8b
import Derived.Test.YtppckmfaidpliaaDoorRs8c
import Derived.Test.YtppckmfaidpliaaDoorRs9b
import Derived.Test.YtppckmfaidpliaaDoorRt
import Derived.Test.YtppckmfaidpliaaDoorOh
import Derived.Test.YtppckmfaidpliaaDoorRu
import Derived.Test.YtppckmfaidpliaaDoorLaws02c
namespace Go.Proofs.YtppckmfaidpliaaDoor
open Go.RowKit
set_option linter.unusedSimpArgs false
set_option linter.unnecessarySimpa false
set_option linter.unusedVariables false

theorem primes_list : prL 310 = [2, 3, 5, 7, 11, 13, 17, 19, 23, 29, 31, 37, 41, 43, 47, 53, 59, 61, 67, 71, 73, 79, 83, 89, 97, 101, 103, 107, 109, 113, 127, 131, 137, 139, 149, 151, 157, 163, 167, 173, 179, 181, 191, 193, 197, 199, 211, 223, 227, 229, 233, 239, 241, 251, 257, 263, 269, 271, 277, 281, 283, 293, 307, 311] := by decide +kernel
theorem cubes : (prL 310).map (fun p => rootN p 3 41 % 4294967296) = rootsW.map BitVec.toNat := by
  rw [primes_list]
  simp only [List.map_cons, List.map_nil, cube_2, cube_3, cube_5, cube_7, cube_11, cube_13, cube_17, cube_19, cube_23, cube_29, cube_31, cube_37, cube_41, cube_43, cube_47, cube_53, cube_59, cube_61, cube_67, cube_71, cube_73, cube_79, cube_83, cube_89, cube_97, cube_101, cube_103, cube_107, cube_109, cube_113, cube_127, cube_131, cube_137, cube_139, cube_149, cube_151, cube_157, cube_163, cube_167, cube_173, cube_179, cube_181, cube_191, cube_193, cube_197, cube_199, cube_211, cube_223, cube_227, cube_229, cube_233, cube_239, cube_241, cube_251, cube_257, cube_263, cube_269, cube_271, cube_277, cube_281, cube_283, cube_293, cube_307, cube_311]
  decide +kernel
theorem map_getD {α β : Type} (f : α → β) (l : List α) (i : Nat) (d : α) (d' : β) (h : i < l.length) : (l.map f).getD i d' = f (l.getD i d) := by simp [List.getD, h]
theorem cube_at (i : Nat) (h : i < 64) : rootN ((prL 310).getD i 0) 3 41 % 4294967296 = (rootsW.getD i 0).toNat := by
  have h1 : i < (prL 310).length := by rw [pr310]; exact h
  have h2 : i < rootsW.length := h
  have := congrArg (fun l => l.getD i 0) cubes
  have a := map_getD (fun p => rootN p 3 41 % 4294967296) _ i 0 0 h1
  have b := map_getD BitVec.toNat _ i 0 0 h2
  exact a.symm.trans (this.trans b)
theorem square_at (i : Nat) (h : i < 8) : rootN ((prL 310).getD i 0) 2 41 % 4294967296 = (H8.begin0.l.getD i 0).toNat := by
  have h1 : i < ((prL 310).take 8).length := by rw [List.length_take, pr310]; omega
  have h2 : i < H8.begin0.l.length := h
  have := congrArg (fun l => l.getD i 0) roots_two
  have a := map_getD (fun p => rootN p 2 41 % 4294967296) _ i 0 0 h1
  have b := map_getD BitVec.toNat _ i 0 0 h2
  have e : ((prL 310).take 8).getD i 0 = (prL 310).getD i 0 := by simp [List.getD, List.getElem?_take, h]
  rw [e] at a
  exact a.symm.trans (this.trans b)
theorem prime_le (i : Nat) (h : i < 64) : (prL 310).getD i 0 ≤ 1000 := by
  have h1 : i < (prL 310).length := by rw [pr310]; exact h
  have := prL_pos 310 (prL 310)[i] (List.getElem_mem h1)
  simp [List.getD, h1]
  omega
theorem root3_to (i : Nat) (h : i < 64) (w : World) :
    Calls Tryd.prog 19 #[.int .i64 ((prL 310).getD i 0 : Nat), .int .i64 3] w fun e w' => e = .returned (.int .i64 (u (rootsW.getD i 0))) ∧ Below w.heap.size w w' := by
  have := root3_any ((prL 310).getD i 0) (prime_le i h) w
  rw [cube_at i h] at this
  exact this
theorem root2_to (i : Nat) (h : i < 8) (w : World) :
    Calls Tryd.prog 19 #[.int .i64 ((prL 310).getD i 0 : Nat), .int .i64 2] w fun e w' => e = .returned (.int .i64 (u (H8.begin0.l.getD i 0))) ∧ Below w.heap.size w w' := by
  have := root2_any ((prL 310).getD i 0) (prime_le i (by omega)) w
  rw [square_at i h] at this
  exact this
theorem pad_len (s : List UInt8) : (padL s).length % 64 = 0 ∧ (padL s).length ≤ s.length + 72 := by
  rw [padL]
  simp only [List.length_append, List.length_cons, List.length_replicate, lenB_len]
  omega
theorem sha_feed (s : List UInt8) : shaL s = (H8.feed ((padL s).length / 64) H8.begin0 (padL s)).bytes := by
  have hr : (Sw.new.write s).rest.length = s.length % 64 := by
    simp only [Sw.write, Sw.new, List.nil_append, List.length_drop]
    omega
  have hn : (Sw.new.write s).n = s.length := by simp [Sw.write, Sw.new]
  have ht : s ++ (Sw.new.write s).tail = padL s := by rw [Sw.tail, hr, hn, padL]
  rw [shaL, Sw.digest, write_write, ht]
  simp only [Sw.write, Sw.new, List.nil_append]
theorem feed_step (q : Nat) (P : List UInt8) : H8.feed (q + 1) H8.begin0 P = (H8.feed q H8.begin0 P).behind ((P.drop (64 * q)).take 64) := by
  rw [feed_app q 1, H8.feed, H8.feed]
theorem bytes_step (h : H8) (j : Nat) (hj : j < 8) : (h.l.take (j + 1)).flatMap wordB = (h.l.take j).flatMap wordB ++ wordB (h.l.getD j 0) := by
  have hl : j < h.l.length := hj
  rw [List.take_succ_eq_append_getElem hl, List.flatMap_append]
  simp [List.getD, hl]
theorem roots_step (i : Nat) (h : i < 64) : xv (rootsW.take i) ++ [Value.int .i64 (u (rootsW.getD i 0))] = xv (rootsW.take (i + 1)) := by
  have hl : i < rootsW.length := h
  rw [xv_append, List.take_succ_eq_append_getElem hl]
  simp [List.getD, hl]
theorem begin_step (i : Nat) (h : i < 8) : xv (H8.begin0.l.take i) ++ [Value.int .i64 (u (H8.begin0.l.getD i 0))] = xv (H8.begin0.l.take (i + 1)) := by
  have hl : i < H8.begin0.l.length := h
  rw [xv_append, List.take_succ_eq_append_getElem hl]
  simp [List.getD, hl]
/-- the two lists that Of fills -/
structure OfSt (B : Nat) (w : World) (kv hv : Value) (i j : Nat) : Prop where
  k : Owns w 3 1 kv i (xv (rootsW.take i))
  h : Owns w 3 1 hv j (xv (H8.begin0.l.take j))
  kB : ∀ b, zblock kv = some b → B ≤ b
  hB : ∀ b, zblock hv = some b → B ≤ b
  ne : ∀ b, zblock kv = some b → zblock hv ≠ some b
theorem OfSt.below {B : Nat} {w w' : World} {kv hv : Value} {i j : Nat} (s : OfSt B w kv hv i j) (hb : Below w.heap.size w w') : OfSt B w' kv hv i j := ⟨s.k.below hb, s.h.below hb, s.kB, s.hB, s.ne⟩
theorem OfSt.addK {B : Nat} {w w' : World} {kv hv : Value} {i j g cap : Nat} (s : OfSt B w kv hv i j) (hB : B ≤ w.heap.size) (hi : i < 64)
    (hown : Owns w' 3 1 (.slice (some ⟨g, 0, none⟩) (i + 1) cap) (i + 1) (xv (rootsW.take i) ++ [Value.int .i64 (u (rootsW.getD i 0))])) (hg : w.grownBy w' (zblock kv)) (hat : zblock kv = some g ∨ w.heap.size ≤ g) (hc : 0 < cap) :
    OfSt B w' (.slice (some ⟨g, 0, none⟩) (i + 1) cap) hv (i + 1) j := by
  refine ⟨by rw [← roots_step i hi]; exact hown, s.h.grown hg (fun b e e' => s.ne b e' e), ?_, s.hB, ?_⟩
  · intro b e
    rw [zblock_some hc] at e
    obtain rfl : g = b := by simpa using e
    rcases hat with e | e
    · exact s.kB _ e
    · omega
  · intro b e e'
    rw [zblock_some hc] at e
    obtain rfl : g = b := by simpa using e
    rcases hat with e | e
    · exact s.ne _ e e'
    · have := s.h.lt e'
      omega
theorem OfSt.addH {B : Nat} {w w' : World} {kv hv : Value} {i j g cap : Nat} (s : OfSt B w kv hv i j) (hB : B ≤ w.heap.size) (hj : j < 8)
    (hown : Owns w' 3 1 (.slice (some ⟨g, 0, none⟩) (j + 1) cap) (j + 1) (xv (H8.begin0.l.take j) ++ [Value.int .i64 (u (H8.begin0.l.getD j 0))])) (hg : w.grownBy w' (zblock hv)) (hat : zblock hv = some g ∨ w.heap.size ≤ g) (hc : 0 < cap) :
    OfSt B w' kv (.slice (some ⟨g, 0, none⟩) (j + 1) cap) i (j + 1) := by
  refine ⟨s.k.grown hg (fun b e e' => s.ne b e e'), by rw [← begin_step j hj]; exact hown, s.kB, ?_, ?_⟩
  · intro b e
    rw [zblock_some hc] at e
    obtain rfl : g = b := by simpa using e
    rcases hat with e | e
    · exact s.hB _ e
    · omega
  · intro b e e'
    rw [zblock_some hc] at e'
    obtain rfl : g = b := by simpa using e'
    rcases hat with e2 | e2
    · exact s.ne _ e e2
    · have := s.k.lt e
      omega
end Go.Proofs.YtppckmfaidpliaaDoor
