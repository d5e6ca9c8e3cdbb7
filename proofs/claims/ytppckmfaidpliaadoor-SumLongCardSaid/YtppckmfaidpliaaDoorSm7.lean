/- The laws' live. -/
import Derived.Test.YtppckmfaidpliaaDoorSm6
namespace Go.Proofs.YtppckmfaidpliaaDoor
open Go.RowKit
set_option linter.unusedSimpArgs false
set_option linter.unnecessarySimpa false
set_option linter.unusedVariables false

def abcS : List UInt8 := shaL [97, 98, 99]
def nilS : List UInt8 := shaL []
theorem abc_hex : bstr (hexL abcS) = ⟨#[98, 97, 55, 56, 49, 54, 98, 102, 56, 102, 48, 49, 99, 102, 101, 97, 52, 49, 52, 49, 52, 48, 100, 101, 53, 100, 97, 101, 50, 50, 50, 51, 98, 48, 48, 51, 54, 49, 97, 51, 57, 54, 49, 55, 55, 97, 57, 99, 98, 52, 49, 48, 102, 102, 54, 49, 102, 50, 48, 48, 49, 53, 97, 100]⟩ := by
  have : hexL abcS = [98, 97, 55, 56, 49, 54, 98, 102, 56, 102, 48, 49, 99, 102, 101, 97, 52, 49, 52, 49, 52, 48, 100, 101, 53, 100, 97, 101, 50, 50, 50, 51, 98, 48, 48, 51, 54, 49, 97, 51, 57, 54, 49, 55, 55, 97, 57, 99, 98, 52, 49, 48, 102, 102, 54, 49, 102, 50, 48, 48, 49, 53, 97, 100] := by decide +kernel
  rw [this]
theorem nil_hex : bstr (hexL nilS) = ⟨#[101, 51, 98, 48, 99, 52, 52, 50, 57, 56, 102, 99, 49, 99, 49, 52, 57, 97, 102, 98, 102, 52, 99, 56, 57, 57, 54, 102, 98, 57, 50, 52, 50, 55, 97, 101, 52, 49, 101, 52, 54, 52, 57, 98, 57, 51, 52, 99, 97, 52, 57, 53, 57, 57, 49, 98, 55, 56, 53, 50, 98, 56, 53, 53]⟩ := by
  have : hexL nilS = [101, 51, 98, 48, 99, 52, 52, 50, 57, 56, 102, 99, 49, 99, 49, 52, 57, 97, 102, 98, 102, 52, 99, 56, 57, 57, 54, 102, 98, 57, 50, 52, 50, 55, 97, 101, 52, 49, 101, 52, 54, 52, 57, 98, 57, 51, 52, 99, 97, 52, 57, 53, 57, 57, 49, 98, 55, 56, 53, 50, 98, 56, 53, 53] := by decide +kernel
  rw [this]
theorem abc_parts : ((Sw.new.write [97]).write [98, 99]).digest = abcS := by decide +kernel
theorem abc_len : abcS.length < 1000000 := by decide +kernel
theorem nil_len : nilS.length < 1000000 := by decide +kernel

theorem below_then {w w1 w2 : World} (h : Below w.heap.size w w1) (k : Below w1.heap.size w1 w2) : Below w.heap.size w w2 :=
  h.trans ((Keep.of_below (S := fun _ => False) k).mono (S' := fun _ => False) h.size (fun _ _ h => h)).below
theorem below_keep {w w1 w2 : World} {g : Nat} (h : Below w.heap.size w w1) (hg : w.heap.size ≤ g) (k : Keep w1.heap.size (· = g) w1 w2) : Below w.heap.size w w2 :=
  h.trans (k.mono (S' := fun _ => False) h.size (fun _ h1 h2 => by omega)).below

set_option maxRecDepth 100000 in
set_option maxHeartbeats 2000000 in
theorem live_ok (w : World) (hR : RootsAt w) : Calls Tryd.prog 9 #[] w fun e w' => e = .returned (.bool true) ∧ Below w.heap.size w w' := by
  go_enter Tryd.func9, Tryd.ntmps9
  go_wp2_with fail
  refine (new_sum _).mono ?_
  rintro e w1 ⟨g, rfl, hg, hb1, hgw⟩
  have hg0 : g ≠ 0 := by have := hR.1; omega
  go_wp2_with fail
  refine (write_sum g Sw.new [97] w1 (hR.below hb1 hR.1) hg hg0 (by decide) (by decide)).mono ?_
  rintro e w2 ⟨rfl, hg2, hk2⟩
  have hb2 := below_keep hb1 hgw hk2
  go_wp2_with fail
  refine (sum_sum g _ w2 (hR.below hb2 hR.1) hg2 hg0 (by decide) (write_rest _ _)).mono ?_
  rintro e w3 ⟨rfl, hb3⟩
  have hg3 := hg2.below hb3 hg2.lt
  have hb3' := below_then hb2 hb3
  generalize bstr (Sw.write Sw.new [97]).digest = junk
  go_wp2_with fail
  refine (write_sum g (Sw.new.write [97]) [98, 99] w3 (hR.below hb3' hR.1) hg3 hg0 (by decide) (by have := write_rest Sw.new [97]; omega)).mono ?_
  rintro e w4 ⟨rfl, hg4, hk4⟩
  have hb4 := below_keep hb3' hgw hk4
  go_wp2_with fail
  refine (of_any [97, 98, 99] (by decide) w4 (hR.below hb4 hR.1)).mono ?_
  rintro e w5 ⟨rfl, hb5⟩
  have hg5 := hg4.below hb5 hg4.lt
  have hb5' := below_then hb4 hb5
  rw [show shaL [97, 98, 99] = abcS from rfl]
  go_wp2_with fail
  refine (hex_any abcS abc_len w5).mono ?_
  rintro e w6 ⟨rfl, hb6⟩
  have hg6 := hg5.below hb6 hg5.lt
  have hb6' := below_then hb5' hb6
  rw [abc_hex]
  go_wp2_with fail
  refine (sum_sum g _ w6 (hR.below hb6' hR.1) hg6 hg0 (by decide) (write_rest _ _)).mono ?_
  rintro e w7 ⟨rfl, hb7⟩
  have hg7 := hg6.below hb7 hg6.lt
  have hb7' := below_then hb6' hb7
  rw [abc_parts]
  go_wp2_with fail
  refine (of_any [97, 98, 99] (by decide) w7 (hR.below hb7' hR.1)).mono ?_
  rintro e w8 ⟨rfl, hb8⟩
  have hg8 := hg7.below hb8 hg7.lt
  have hb8' := below_then hb7' hb8
  rw [show shaL [97, 98, 99] = abcS from rfl]
  go_wp2_with fail
  refine (len_sum g _ w8 hg8).mono ?_
  rintro e v8 ⟨rfl, hv8⟩
  rw [hv8]
  clear hv8 v8
  rw [show ((Sw.new.write [97]).write [98, 99]).n = 3 from rfl]
  go_wp2_with fail
  refine (of_any [] (by decide) w8 (hR.below hb8' hR.1)).mono ?_
  rintro e w9 ⟨rfl, hb9⟩
  have hb9' := below_then hb8' hb9
  rw [show shaL [] = nilS from rfl]
  go_wp2_with fail
  refine (hex_any nilS nil_len w9).mono ?_
  rintro e wa ⟨rfl, hba⟩
  have hba' := below_then hb9' hba
  rw [nil_hex]
  go_wp2
  go_ret
  exact ⟨rfl, hba'⟩

end Go.Proofs.YtppckmfaidpliaaDoor
