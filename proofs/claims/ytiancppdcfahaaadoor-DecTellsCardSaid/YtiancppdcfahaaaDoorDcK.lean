/- polyglotlaw4.known is true (alias Tryd). -/
import Derived.Test.YtiancppdcfahaaaDoorDcE
import Derived.Test.YtiancppdcfahaaaDoorDcN
import Derived.Test.YtiancppdcfahaaaDoorStampD
namespace Go.Proofs.YtiancppdcfahaaaDoor
open Go.RowKit

theorem ParseIs.of {s : ByteArray} (hs : s.size ≤ 9223372036854775807) {M S e at_ : Int} (h : parseV s = ((M, S), e, at_)) (w : World) : Calls Tryd.prog 9 #[.string s] w fun r w' => r = .returned (.tuple #[.agg #[.int .i64 M, .int .i64 S], .int .i64 e, .int .i64 at_]) ∧ Ext w w' := by
  have := DParse_is s hs w
  rw [h] at this
  exact this

set_option maxHeartbeats 8000000 in
set_option maxRecDepth 100000 in
theorem known_any (w : World) : Calls Tryd.prog 8 #[] w fun e w' => e = .returned (.bool true) ∧ Ext w w' := by
  have P1 := ParseIs.of (s := { data := #[45, 48, 46, 53, 48] }) (by decide) (M := -5) (S := 1) (e := 0) (at_ := 0) (by decide +kernel)
  have P2 := ParseIs.of (s := { data := #[49, 46] }) (by decide) (M := 0) (S := 0) (e := 11) (at_ := 2) (by decide +kernel)
  have P3 := ParseIs.of (s := { data := #[57, 50, 50, 51, 51, 55, 50, 48, 51, 54, 56, 53, 52, 55, 55, 53, 56, 48, 56] }) (by decide) (M := 0) (S := 0) (e := 12) (at_ := 0) (by decide +kernel)
  have N1 : ∀ w, Calls Tryd.prog 11 #[.int .i64 1200, .int .i64 3] w fun e w' => e = .returned (.tuple #[.agg #[.int .i64 12, .int .i64 1], .bool true]) ∧ Ext w w' := by
    intro w
    have := DNormZ 1200 3 w (by unfold I64; omega) (by unfold I64; omega)
    rw [show nzV 1200 3 = ((12, 1), true) from by decide +kernel] at this
    exact this
  have R1 : ∀ w, Calls Tryd.prog 15 #[.agg #[.int .i64 (-5), .int .i64 1]] w fun e w' => e = .returned (.string { data := #[45, 48, 46, 53] }) ∧ Ext w w' := by
    intro w
    have := Print_any (-5) 1 w (by unfold I64; omega) (by unfold I64; omega)
    rw [show strN (printL (-5) 1) = { data := #[45, 48, 46, 53] } from by decide +kernel] at this
    exact this
  have R2 : ∀ w, Calls Tryd.prog 15 #[.agg #[.int .i64 0, .int .i64 0]] w fun e w' => e = .returned (.string { data := #[48] }) ∧ Ext w w' := by
    intro w
    have := Print_any 0 0 w (by unfold I64; omega) (by unfold I64; omega)
    rw [show strN (printL 0 0) = { data := #[48] } from by decide +kernel] at this
    exact this
  have G1 : ∀ w, Calls Tryd.prog 13 #[.agg #[.int .i64 (-5), .int .i64 1]] w fun e w' => e = .returned (.bool true) ∧ Ext w w' := by
    intro w
    have := Good_any (-5) 1 w (by unfold I64; omega) (by unfold I64; omega)
    rw [show goodB (-5) 1 = true from by decide] at this
    exact this
  have G2 : ∀ w, Calls Tryd.prog 13 #[.agg #[.int .i64 10, .int .i64 1]] w fun e w' => e = .returned (.bool false) ∧ Ext w w' := by
    intro w
    have := Good_any 10 1 w (by unfold I64; omega) (by unfold I64; omega)
    rw [show goodB 10 1 = false from by decide] at this
    exact this
  have hx := Ext.refl w
  go_enter Tryd.func8, Tryd.ntmps8
  go_wp2_with fail
  refine (P1 _).mono ?_
  rintro e w1 ⟨rfl, x1⟩
  replace hx := (hx.trans x1).alloc (.cells #[.int .i64 (-5), .int .i64 1] 23)
  have k1 : DecIn w1.heap.size (-5) 1 (w1.alloc (.cells #[.int .i64 (-5), .int .i64 1] 23)) := heap_last _ _
  go_wp2_with fail
  refine (P2 _).mono ?_
  rintro e w2 ⟨rfl, x2⟩
  replace hx := (hx.trans x2).alloc (.cells #[.int .i64 0, .int .i64 0] 23)
  replace k1 := (k1.ext x2).ext ((Ext.refl w2).alloc (.cells #[.int .i64 0, .int .i64 0] 23))
  go_wp2_with fail
  refine (P3 _).mono ?_
  rintro e w3 ⟨rfl, x3⟩
  replace hx := (hx.trans x3).alloc (.cells #[.int .i64 0, .int .i64 0] 23)
  replace k1 := (k1.ext x3).ext ((Ext.refl w3).alloc (.cells #[.int .i64 0, .int .i64 0] 23))
  go_wp2_with fail
  refine (N1 _).mono ?_
  rintro e w4 ⟨rfl, x4⟩
  replace hx := (hx.trans x4).alloc (.cells #[.int .i64 12, .int .i64 1] 23)
  replace k1 := (k1.ext x4).ext ((Ext.refl w4).alloc (.cells #[.int .i64 12, .int .i64 1] 23))
  have k2 : DecIn w4.heap.size 12 1 (w4.alloc (.cells #[.int .i64 12, .int .i64 1] 23)) := heap_last _ _
  obtain ⟨c0, c1⟩ := k1.cells
  obtain ⟨d0, d1⟩ := k2.cells
  go_wp2_with fail
  refine (R1 _).mono ?_
  rintro e w5 ⟨rfl, x5⟩
  replace hx := hx.trans x5
  replace k1 := k1.ext x5
  obtain ⟨c0, c1⟩ := k1.cells
  go_wp2_with fail
  refine (G1 _).mono ?_
  rintro e w6 ⟨rfl, x6⟩
  replace hx := hx.trans x6
  go_wp2_with fail
  refine (G2 _).mono ?_
  rintro e w7 ⟨rfl, x7⟩
  replace hx := hx.trans x7
  go_wp2_with fail
  refine (R2 _).mono ?_
  rintro e w8 ⟨rfl, x8⟩
  replace hx := hx.trans x8
  go_wp2_with fail
  go_ret
  exact ⟨rfl, hx⟩
end Go.Proofs.YtiancppdcfahaaaDoor
