/- The law SumLaws answers true: the walk. -/
import Derived.Test.YthfihlapgoglaaaCallsW
namespace Go.Proofs.Ythfihlapgoglaaa
open Go.RowKit

/-- The nine decimals that the answer looks at. -/
def Nine (w : World) (bA bC bD bE bF bG bH bI bJ : Nat) (A s X1 X2 Y1 Y2 : Int) (W : World) : Prop := Ext w W ∧ DecIn bA A s W ∧ DecIn bC X1 X2 W ∧ DecIn bD X1 X2 W ∧ DecIn bE Y1 Y2 W ∧ DecIn bF Y1 Y2 W ∧ DecIn bG 0 0 W ∧ DecIn bH A s W ∧ DecIn bI A s W ∧ DecIn bJ 0 0 W
theorem Nine.ext {w : World} {bA bC bD bE bF bG bH bI bJ : Nat} {A s X1 X2 Y1 Y2 : Int} {W W' : World} (h : Nine w bA bC bD bE bF bG bH bI bJ A s X1 X2 Y1 Y2 W) (x : Ext W W') : Nine w bA bC bD bE bF bG bH bI bJ A s X1 X2 Y1 Y2 W' := by
  obtain ⟨h0, hA, hC, hD, hE, hF, hG, hH, hI, hJ⟩ := h
  exact ⟨h0.trans x, hA.ext x, hC.ext x, hD.ext x, hE.ext x, hF.ext x, hG.ext x, hH.ext x, hI.ext x, hJ.ext x⟩
theorem Nine.cells {w : World} {bA bC bD bE bF bG bH bI bJ : Nat} {A s X1 X2 Y1 Y2 : Int} {w' : World} (h : Nine w bA bC bD bE bF bG bH bI bJ A s X1 X2 Y1 Y2 w') : w'.cell? ⟨bA, 0, none⟩ = some (.int .i64 A) ∧ w'.cell? ⟨bA, 1, none⟩ = some (.int .i64 s) ∧ w'.cell? ⟨bC, 0, none⟩ = some (.int .i64 X1) ∧ w'.cell? ⟨bC, 1, none⟩ = some (.int .i64 X2) ∧ w'.cell? ⟨bD, 0, none⟩ = some (.int .i64 X1) ∧ w'.cell? ⟨bD, 1, none⟩ = some (.int .i64 X2) ∧ w'.cell? ⟨bE, 0, none⟩ = some (.int .i64 Y1) ∧ w'.cell? ⟨bE, 1, none⟩ = some (.int .i64 Y2) ∧ w'.cell? ⟨bF, 0, none⟩ = some (.int .i64 Y1) ∧ w'.cell? ⟨bF, 1, none⟩ = some (.int .i64 Y2) ∧ w'.cell? ⟨bG, 0, none⟩ = some (.int .i64 0) ∧ w'.cell? ⟨bG, 1, none⟩ = some (.int .i64 0) ∧ w'.cell? ⟨bH, 0, none⟩ = some (.int .i64 A) ∧ w'.cell? ⟨bH, 1, none⟩ = some (.int .i64 s) ∧ w'.cell? ⟨bI, 0, none⟩ = some (.int .i64 A) ∧ w'.cell? ⟨bI, 1, none⟩ = some (.int .i64 s) ∧ w'.cell? ⟨bJ, 0, none⟩ = some (.int .i64 0) ∧ w'.cell? ⟨bJ, 1, none⟩ = some (.int .i64 0) := by
  obtain ⟨h0, hA, hC, hD, hE, hF, hG, hH, hI, hJ⟩ := h
  exact ⟨hA.cells.1, hA.cells.2, hC.cells.1, hC.cells.2, hD.cells.1, hD.cells.2, hE.cells.1, hE.cells.2, hF.cells.1, hF.cells.2, hG.cells.1, hG.cells.2, hH.cells.1, hH.cells.2, hI.cells.1, hI.cells.2, hJ.cells.1, hJ.cells.2⟩
theorem nine_keep {w : World} {bA bC bD bE bF bG bH bI bJ : Nat} {A s X1 X2 Y1 Y2 : Int} {w0 : World} (h : Nine w bA bC bD bE bF bG bH bI bJ A s X1 X2 Y1 Y2 w0) {k : Nat} {args : Array Value} {v : Value} (C : Calls Try.prog k args w0 fun e w' => e = .returned v ∧ Ext w0 w') :
    Calls Try.prog k args w0 fun e w' => e = .returned v ∧ Nine w bA bC bD bE bF bG bH bI bJ A s X1 X2 Y1 Y2 w' ∧ w'.cell? ⟨bA, 0, none⟩ = some (.int .i64 A) ∧ w'.cell? ⟨bA, 1, none⟩ = some (.int .i64 s) ∧ w'.cell? ⟨bC, 0, none⟩ = some (.int .i64 X1) ∧ w'.cell? ⟨bC, 1, none⟩ = some (.int .i64 X2) ∧ w'.cell? ⟨bD, 0, none⟩ = some (.int .i64 X1) ∧ w'.cell? ⟨bD, 1, none⟩ = some (.int .i64 X2) ∧ w'.cell? ⟨bE, 0, none⟩ = some (.int .i64 Y1) ∧ w'.cell? ⟨bE, 1, none⟩ = some (.int .i64 Y2) ∧ w'.cell? ⟨bF, 0, none⟩ = some (.int .i64 Y1) ∧ w'.cell? ⟨bF, 1, none⟩ = some (.int .i64 Y2) ∧ w'.cell? ⟨bG, 0, none⟩ = some (.int .i64 0) ∧ w'.cell? ⟨bG, 1, none⟩ = some (.int .i64 0) ∧ w'.cell? ⟨bH, 0, none⟩ = some (.int .i64 A) ∧ w'.cell? ⟨bH, 1, none⟩ = some (.int .i64 s) ∧ w'.cell? ⟨bI, 0, none⟩ = some (.int .i64 A) ∧ w'.cell? ⟨bI, 1, none⟩ = some (.int .i64 s) ∧ w'.cell? ⟨bJ, 0, none⟩ = some (.int .i64 0) ∧ w'.cell? ⟨bJ, 1, none⟩ = some (.int .i64 0) := C.mono (fun _ _ ⟨he, x⟩ => ⟨he, h.ext x, (h.ext x).cells⟩)

set_option maxHeartbeats 40000000 in
set_option maxRecDepth 100000 in
theorem SumLaws_any (m n x y : Int) (w : World) (hm : I64 m) (hn : I64 n) (h0 : 0 ≤ x) (h1 : x ≤ 255) (k0 : 0 ≤ y) (k1 : y ≤ 255) :
    Calls Try.prog 4 #[.int .i64 m, .int .i64 n, .int .u8 x, .int .u8 y] w fun e w' => e = .returned (.bool true) ∧ Ext w w' := by
  obtain ⟨g1, i1⟩ := dot_good m (x % 19).toNat
  obtain ⟨g2, i2⟩ := dot_good n (y % 19).toNat
  have D1 := dot_int m (x % 19) hm (by omega) (by omega)
  have D2 := dot_int n (y % 19) hn (by omega) (by omega)
  generalize dotM m (x % 19).toNat = A at *
  generalize dotS m (x % 19).toNat = s at *
  generalize dotM n (y % 19).toNat = B at *
  generalize dotS n (y % 19).toNat = t at *
  obtain ⟨g3, i3⟩ := neg_good g1 i1
  have C1 := fun b w => add2_in g1 i1 g2 i2 b w
  have C2 := fun b w => add2_in g2 i2 g1 i1 b w
  rw [Int.add_comm (v18 B t)] at C2
  have C3 := fun w => times_can g1 i1 g2 i2 w
  have C4 := fun w => times_can g2 i2 g1 i1 w
  rw [Int.mul_comm B A, Int.add_comm t s] at C4
  have C5 := fun w => neg_can g1 i1 w
  have C6 := fun b w => add2_in g1 i1 g3 i3 b w
  rw [v18_neg, Int.add_right_neg, canZ_zero] at C6
  have C7 := fun b w => add2_in g1 i1 good_zero (show I64 0 by unfold I64; omega) b w
  rw [v18_zero, Int.add_zero, canZ_v18 g1 i1] at C7
  have C8 := fun w => dot_lit 1 0 0 rfl 1 0 (by unfold I64; omega) (by omega) (by decide) (by decide) w
  have C9 := fun w => times_can g1 i1 good_one (show I64 1 by unfold I64; omega) w
  rw [Int.mul_one, Int.add_zero, canZ_good g1 i1] at C9
  have C10 := fun w => times_can g1 i1 good_zero (show I64 0 by unfold I64; omega) w
  rw [Int.mul_zero, canZ_zero] at C10
  have C11 := fun w => neg_can g3 i3 w
  rw [Int.neg_neg] at C11
  generalize (canZ (v18 A s + v18 B t) 18).1.1 = X1 at *
  generalize (canZ (v18 A s + v18 B t) 18).1.2 = X2 at *
  generalize (canZ (v18 A s + v18 B t) 18).2 = p at *
  generalize (canZ (A * B) (s + t).toNat).1.1 = Y1 at *
  generalize (canZ (A * B) (s + t).toNat).1.2 = Y2 at *
  generalize (canZ (A * B) (s + t).toNat).2 = q at *
  generalize -A = A' at *
  clear g1 i1 g2 i2 g3 i3
  go_enter Try.func4, Try.ntmps4
  go_wp2_with fail
  refine (known_any _).mono ?_
  rintro e w1 ⟨rfl, x1⟩
  go_wp2_with fail
  refine (D1 _).mono ?_
  rintro e w2 ⟨rfl, x2⟩
  go_wp2_with fail
  refine (D2 _).mono ?_
  rintro e w3 ⟨rfl, x3⟩
  go_wp2_with fail
  have hx := (((x1.trans x2).trans x3).alloc (.cells #[.int .i64 A, .int .i64 s] 25)).alloc (.cells #[.int .i64 B, .int .i64 t] 25)
  have hA : DecIn w3.heap.size A s ((w3.alloc (.cells #[.int .i64 A, .int .i64 s] 25)).alloc (.cells #[.int .i64 B, .int .i64 t] 25)) := heap_at2a _ _ _
  have hB : DecIn (w3.heap.size + 1) B t ((w3.alloc (.cells #[.int .i64 A, .int .i64 s] 25)).alloc (.cells #[.int .i64 B, .int .i64 t] 25)) := heap_at2b _ _ _
  clear x1 x2 x3 D1 D2
  refine (C1 _ _ ?hh).mono ?_
  case hh => first | exact heap_last _ _ | exact heap_at2b _ _ _ | exact heap_at3c _ _ _ _
  rintro e w4 ⟨rfl, xw4⟩
  replace xw4 := ((Ext.refl _).alloc _).trans xw4
  replace hA := hA.ext xw4
  replace hB := hB.ext xw4
  replace hx := hx.trans xw4
  clear xw4
  obtain ⟨chA0, chA1⟩ := hA.cells
  have lhA := (Array.getElem?_eq_some_iff.1 hA).1
  obtain ⟨chB0, chB1⟩ := hB.cells
  have lhB := (Array.getElem?_eq_some_iff.1 hB).1
  go_wp2_with fail
  clear chA0 chA1 lhA chB0 chB1 lhB
  replace hA := hA.ext ((Ext.refl w4).alloc (.cells #[.int .i64 X1, .int .i64 X2] 25))
  replace hB := hB.ext ((Ext.refl w4).alloc (.cells #[.int .i64 X1, .int .i64 X2] 25))
  replace hx := hx.alloc (.cells #[.int .i64 X1, .int .i64 X2] 25)
  have hC : DecIn w4.heap.size X1 X2 (w4.alloc (.cells #[.int .i64 X1, .int .i64 X2] 25)) := heap_last _ _
  refine (C2 _ _ ?hh).mono ?_
  case hh => first | exact heap_last _ _ | exact heap_at2b _ _ _ | exact heap_at3c _ _ _ _
  rintro e w5 ⟨rfl, xw5⟩
  replace xw5 := ((Ext.refl _).alloc _).trans xw5
  replace hA := hA.ext xw5
  replace hB := hB.ext xw5
  replace hC := hC.ext xw5
  replace hx := hx.trans xw5
  clear xw5
  obtain ⟨chA0, chA1⟩ := hA.cells
  have lhA := (Array.getElem?_eq_some_iff.1 hA).1
  obtain ⟨chB0, chB1⟩ := hB.cells
  have lhB := (Array.getElem?_eq_some_iff.1 hB).1
  go_wp2_with fail
  clear chA0 chA1 lhA chB0 chB1 lhB
  replace hA := hA.ext ((Ext.refl w5).alloc (.cells #[.int .i64 X1, .int .i64 X2] 25))
  replace hB := hB.ext ((Ext.refl w5).alloc (.cells #[.int .i64 X1, .int .i64 X2] 25))
  replace hC := hC.ext ((Ext.refl w5).alloc (.cells #[.int .i64 X1, .int .i64 X2] 25))
  replace hx := hx.alloc (.cells #[.int .i64 X1, .int .i64 X2] 25)
  have hD : DecIn w5.heap.size X1 X2 (w5.alloc (.cells #[.int .i64 X1, .int .i64 X2] 25)) := heap_last _ _
  refine (C3 _).mono ?_
  rintro e w6 ⟨rfl, xw6⟩
  replace hA := hA.ext xw6
  replace hB := hB.ext xw6
  replace hC := hC.ext xw6
  replace hD := hD.ext xw6
  replace hx := hx.trans xw6
  clear xw6
  obtain ⟨chA0, chA1⟩ := hA.cells
  have lhA := (Array.getElem?_eq_some_iff.1 hA).1
  obtain ⟨chB0, chB1⟩ := hB.cells
  have lhB := (Array.getElem?_eq_some_iff.1 hB).1
  go_wp2_with fail
  clear chA0 chA1 lhA chB0 chB1 lhB
  replace hA := hA.ext ((Ext.refl w6).alloc (.cells #[.int .i64 Y1, .int .i64 Y2] 25))
  replace hB := hB.ext ((Ext.refl w6).alloc (.cells #[.int .i64 Y1, .int .i64 Y2] 25))
  replace hC := hC.ext ((Ext.refl w6).alloc (.cells #[.int .i64 Y1, .int .i64 Y2] 25))
  replace hD := hD.ext ((Ext.refl w6).alloc (.cells #[.int .i64 Y1, .int .i64 Y2] 25))
  replace hx := hx.alloc (.cells #[.int .i64 Y1, .int .i64 Y2] 25)
  have hE : DecIn w6.heap.size Y1 Y2 (w6.alloc (.cells #[.int .i64 Y1, .int .i64 Y2] 25)) := heap_last _ _
  refine (C4 _).mono ?_
  rintro e w7 ⟨rfl, xw7⟩
  replace hA := hA.ext xw7
  replace hB := hB.ext xw7
  replace hC := hC.ext xw7
  replace hD := hD.ext xw7
  replace hE := hE.ext xw7
  replace hx := hx.trans xw7
  clear xw7
  obtain ⟨chA0, chA1⟩ := hA.cells
  have lhA := (Array.getElem?_eq_some_iff.1 hA).1
  obtain ⟨chB0, chB1⟩ := hB.cells
  have lhB := (Array.getElem?_eq_some_iff.1 hB).1
  go_wp2_with fail
  clear chA0 chA1 lhA chB0 chB1 lhB
  replace hA := hA.ext ((Ext.refl w7).alloc (.cells #[.int .i64 Y1, .int .i64 Y2] 25))
  replace hB := hB.ext ((Ext.refl w7).alloc (.cells #[.int .i64 Y1, .int .i64 Y2] 25))
  replace hC := hC.ext ((Ext.refl w7).alloc (.cells #[.int .i64 Y1, .int .i64 Y2] 25))
  replace hD := hD.ext ((Ext.refl w7).alloc (.cells #[.int .i64 Y1, .int .i64 Y2] 25))
  replace hE := hE.ext ((Ext.refl w7).alloc (.cells #[.int .i64 Y1, .int .i64 Y2] 25))
  replace hx := hx.alloc (.cells #[.int .i64 Y1, .int .i64 Y2] 25)
  have hF : DecIn w7.heap.size Y1 Y2 (w7.alloc (.cells #[.int .i64 Y1, .int .i64 Y2] 25)) := heap_last _ _
  clear C1 C2 C3 C4
  generalize w7.alloc (.cells #[.int .i64 Y1, .int .i64 Y2] 25) = V at *
  generalize w4.heap.size = bC at *
  generalize w5.heap.size = bD at *
  generalize w6.heap.size = bE at *
  generalize w7.heap.size = bF at *
  have hAB : w3.heap.size ≠ w3.heap.size + 1 := by omega
  generalize w3.heap.size + 1 = bB at *
  generalize w3.heap.size = bA at *
  clear hAB
  have F1 := fun w0 (h : TwoIn V bA bA A s A s w0) => two_keepx h (C5 w0)
  have F2 := fun b w0 (hh : w0.heap[b]? = some (.cells #[.int .i64 A, .int .i64 s, .int .i64 A', .int .i64 s] 25 (0, 0))) (h : TwoIn V bA bA A s A s w0) => two_keepx h (C6 b w0 hh)
  have hP0 : TwoIn V bA bA A s A s V := ⟨Ext.refl V, hA, hA⟩
  have hP : TwoIn V bA bA A s A s V.drew := ⟨(Ext.refl V).drew, hA.ext (Ext.refl V).drew, hA.ext (Ext.refl V).drew⟩
  obtain ⟨c0, c1⟩ := hA.cells
  obtain ⟨d0, d1⟩ := hA.cells
  have nx1 := World.new_ne V _ c0
  have nx2 := World.new_ne V _ d0
  go_cut [19, 20] (fun u1 u2 wx => ∃ nb, u1 = .pointer (some ⟨nb, 0, none⟩) ∧ u2 = .bool true ∧ V.heap.size ≤ nb ∧ DecIn nb 0 0 wx ∧ Ext V wx)
  case first =>
    go_region_held3 (fun w' => w'.cell? ⟨bA, 0, none⟩ = some (.int .i64 A) ∧ w'.cell? ⟨bA, 1, none⟩ = some (.int .i64 s) ∧ w'.cell? ⟨bA, 0, none⟩ = some (.int .i64 A) ∧ w'.cell? ⟨bA, 1, none⟩ = some (.int .i64 s)) (first | exact ⟨p0, p1, q0, q1⟩ | exact ⟨c0, c1, d0, d1⟩ | go_keep) (first
      | (go_at_call 19; (with_reducible refine (F1 _ ?h).mono ?_); (case h => first | exact H | exact hP | exact H.alloc _ | exact hP0.alloc_drew | exact (H.alloc _).alloc _); rintro e wy ⟨rfl, x, H, p0, p1, q0, q1, -⟩; (try have k8 := k8.ext x); (try have k8 := (k8.ext ((Ext.refl _).alloc _)).ext x); (try have k8 := (alloc_dec _).ext x); (try have k8 := ((alloc_dec _).ext (Ext.refl _).drew).ext x); (try have k8 := ((alloc_dec _).ext ((Ext.refl _).alloc _)).ext x); (try rw [heap_size_alloc] at k8); (try have k8c := k8.cells); (try have k8f := k8.free); have ny1 := World.new_ne wy _ p0; have ny2 := World.new_ne wy _ q0; have ny3 := new_ne1 p0; have ny4 := new_ne1 q0; have hz := H.1.size)
      | (go_at_call 9; (with_reducible refine (F2 _ _ ?hh ?h).mono ?_); (case hh => first | exact heap_last _ _ | exact heap_at2a _ _ _ | exact heap_at2b _ _ _); (case h => first | exact H | exact hP | exact H.alloc _ | exact hP0.alloc_drew | exact (H.alloc _).alloc _); rintro e wy ⟨rfl, x, H, p0, p1, q0, q1, -⟩; (try have k8 := k8.ext x); (try have k8 := (k8.ext ((Ext.refl _).alloc _)).ext x); (try have k8 := (alloc_dec _).ext x); (try have k8 := ((alloc_dec _).ext (Ext.refl _).drew).ext x); (try have k8 := ((alloc_dec _).ext ((Ext.refl _).alloc _)).ext x); (try rw [heap_size_alloc] at k8); (try have k8c := k8.cells); (try have k8f := k8.free); have ny1 := World.new_ne wy _ p0; have ny2 := World.new_ne wy _ q0; have ny3 := new_ne1 p0; have ny4 := new_ne1 q0; have hz := H.1.size))
    all_goals
      go_wp2_with fail
      go_meet
      case rel =>
        first
          | exact ⟨_, rfl, rfl, by omega, k8.stored 0 0, ext_setDec H.1 (by omega) _ _⟩
          | exact ⟨_, rfl, rfl, by omega, heap_last _ _, H.1.alloc _⟩
  case rest =>
  obtain ⟨bG, rfl, rfl, hbG, kbG, xc⟩ := hcut
  clear hP hP0 F1 F2 nx1 nx2 c0 c1 d0 d1
  replace hA := hA.ext xc
  replace hB := hB.ext xc
  replace hC := hC.ext xc
  replace hD := hD.ext xc
  replace hE := hE.ext xc
  replace hF := hF.ext xc
  replace hx := hx.trans xc
  have hG := kbG
  clear kbG hbG xc
  obtain ⟨chA0, chA1⟩ := hA.cells
  have lhA := (Array.getElem?_eq_some_iff.1 hA).1
  go_wp2_with fail
  clear chA0 chA1 lhA
  refine (C7 _ _ ?hh).mono ?_
  case hh => first | exact heap_last _ _ | exact heap_at2b _ _ _ | exact heap_at3c _ _ _ _
  rintro e w9 ⟨rfl, xw9⟩
  replace xw9 := ((Ext.refl _).alloc _).trans xw9
  replace hA := hA.ext xw9
  replace hB := hB.ext xw9
  replace hC := hC.ext xw9
  replace hD := hD.ext xw9
  replace hE := hE.ext xw9
  replace hF := hF.ext xw9
  replace hG := hG.ext xw9
  replace hx := hx.trans xw9
  clear xw9
  obtain ⟨chA0, chA1⟩ := hA.cells
  have lhA := (Array.getElem?_eq_some_iff.1 hA).1
  go_wp2_with fail
  clear chA0 chA1 lhA
  replace hA := hA.ext ((Ext.refl w9).alloc (.cells #[.int .i64 A, .int .i64 s] 25))
  replace hB := hB.ext ((Ext.refl w9).alloc (.cells #[.int .i64 A, .int .i64 s] 25))
  replace hC := hC.ext ((Ext.refl w9).alloc (.cells #[.int .i64 A, .int .i64 s] 25))
  replace hD := hD.ext ((Ext.refl w9).alloc (.cells #[.int .i64 A, .int .i64 s] 25))
  replace hE := hE.ext ((Ext.refl w9).alloc (.cells #[.int .i64 A, .int .i64 s] 25))
  replace hF := hF.ext ((Ext.refl w9).alloc (.cells #[.int .i64 A, .int .i64 s] 25))
  replace hG := hG.ext ((Ext.refl w9).alloc (.cells #[.int .i64 A, .int .i64 s] 25))
  replace hx := hx.alloc (.cells #[.int .i64 A, .int .i64 s] 25)
  have hH : DecIn w9.heap.size A s (w9.alloc (.cells #[.int .i64 A, .int .i64 s] 25)) := heap_last _ _
  generalize w9.alloc (.cells #[.int .i64 A, .int .i64 s] 25) = V2 at *
  generalize w9.heap.size = bH at *
  have F1 := fun w0 (h : One V2 bA A s w0) => one_keep h (C8 w0)
  have F2 := fun w0 (h : One V2 bA A s w0) => one_keep h (C9 w0)
  have hP0 : One V2 bA A s V2 := ⟨Ext.refl V2, hA⟩
  have hP : One V2 bA A s V2.drew := hP0.ext (Ext.refl V2).drew
  obtain ⟨c0, c1⟩ := hA.cells
  have nx1 := World.new_ne V2 _ c0
  go_cut [23, 24] (fun u1 u2 wx => ∃ nb, u1 = .pointer (some ⟨nb, 0, none⟩) ∧ u2 = .bool true ∧ V2.heap.size ≤ nb ∧ DecIn nb A s wx ∧ Ext V2 wx)
  case first =>
    go_region_held3 (fun w' => w'.cell? ⟨bA, 0, none⟩ = some (.int .i64 A) ∧ w'.cell? ⟨bA, 1, none⟩ = some (.int .i64 s)) (first | exact ⟨p0, p1⟩ | exact ⟨c0, c1⟩ | go_keep) (first
      | (go_at_call 21; (with_reducible refine (F1 _ ?h).mono ?_); (case h => first | exact H | exact hP | exact H.ext ((Ext.refl _).alloc _) | exact hP0.ext ((Ext.refl _).alloc _).drew); rintro e wy ⟨rfl, x, H, p0, p1⟩; (try have k8 := k8.ext x); (try have k8 := (alloc_dec _).ext x); (try have k8 := ((alloc_dec _).ext (Ext.refl _).drew).ext x); (try have k8c := k8.cells); (try have k8f := k8.free); have ny1 := World.new_ne wy _ p0; have ny3 := new_ne1 p0; have hz := H.1.size)
      | (go_at_call 11; (with_reducible refine (F2 _ ?h).mono ?_); (case h => first | exact H | exact hP | exact H.ext ((Ext.refl _).alloc _) | exact hP0.ext ((Ext.refl _).alloc _).drew); rintro e wy ⟨rfl, x, H, p0, p1⟩; (try have k8 := k8.ext x); (try have k8 := (alloc_dec _).ext x); (try have k8 := ((alloc_dec _).ext (Ext.refl _).drew).ext x); (try have k8c := k8.cells); (try have k8f := k8.free); have ny1 := World.new_ne wy _ p0; have ny3 := new_ne1 p0; have hz := H.1.size))
    all_goals
      go_wp2_with fail
      go_meet
      case rel =>
        first
          | exact ⟨_, rfl, rfl, by omega, k8.stored A s, ext_setDec H.1 (by omega) _ _⟩
          | exact ⟨_, rfl, rfl, by omega, heap_last _ _, H.1.alloc _⟩
  case rest =>
  obtain ⟨bI, rfl, rfl, hbI, hI, xc⟩ := hcut
  clear hP hP0 F1 F2 nx1 c0 c1
  replace hA := hA.ext xc
  replace hB := hB.ext xc
  replace hC := hC.ext xc
  replace hD := hD.ext xc
  replace hE := hE.ext xc
  replace hF := hF.ext xc
  replace hG := hG.ext xc
  replace hH := hH.ext xc
  replace hx := hx.trans xc
  clear hbI xc
  obtain ⟨chA0, chA1⟩ := hA.cells
  have lhA := (Array.getElem?_eq_some_iff.1 hA).1
  go_wp2_with fail
  clear chA0 chA1 lhA
  refine (C10 _).mono ?_
  rintro e w11 ⟨rfl, xw11⟩
  replace hA := hA.ext xw11
  replace hB := hB.ext xw11
  replace hC := hC.ext xw11
  replace hD := hD.ext xw11
  replace hE := hE.ext xw11
  replace hF := hF.ext xw11
  replace hG := hG.ext xw11
  replace hH := hH.ext xw11
  replace hI := hI.ext xw11
  replace hx := hx.trans xw11
  clear xw11
  obtain ⟨chA0, chA1⟩ := hA.cells
  have lhA := (Array.getElem?_eq_some_iff.1 hA).1
  go_wp2_with fail
  clear chA0 chA1 lhA
  replace hA := hA.ext ((Ext.refl w11).alloc (.cells #[.int .i64 0, .int .i64 0] 25))
  replace hB := hB.ext ((Ext.refl w11).alloc (.cells #[.int .i64 0, .int .i64 0] 25))
  replace hC := hC.ext ((Ext.refl w11).alloc (.cells #[.int .i64 0, .int .i64 0] 25))
  replace hD := hD.ext ((Ext.refl w11).alloc (.cells #[.int .i64 0, .int .i64 0] 25))
  replace hE := hE.ext ((Ext.refl w11).alloc (.cells #[.int .i64 0, .int .i64 0] 25))
  replace hF := hF.ext ((Ext.refl w11).alloc (.cells #[.int .i64 0, .int .i64 0] 25))
  replace hG := hG.ext ((Ext.refl w11).alloc (.cells #[.int .i64 0, .int .i64 0] 25))
  replace hH := hH.ext ((Ext.refl w11).alloc (.cells #[.int .i64 0, .int .i64 0] 25))
  replace hI := hI.ext ((Ext.refl w11).alloc (.cells #[.int .i64 0, .int .i64 0] 25))
  replace hx := hx.alloc (.cells #[.int .i64 0, .int .i64 0] 25)
  have hJ : DecIn w11.heap.size 0 0 (w11.alloc (.cells #[.int .i64 0, .int .i64 0] 25)) := heap_last _ _
  generalize w11.alloc (.cells #[.int .i64 0, .int .i64 0] 25) = V3 at *
  generalize w11.heap.size = bJ at *
  have hP1 : Nine w bA bC bD bE bF bG bH bI bJ A s X1 X2 Y1 Y2 V3 := ⟨hx, hA, hC, hD, hE, hF, hG, hH, hI, hJ⟩
  have hP : Nine w bA bC bD bE bF bG bH bI bJ A s X1 X2 Y1 Y2 V3.drew := hP1.ext (Ext.refl V3).drew
  have HC := hP1.cells
  have F1 := fun w0 (h : Nine w bA bC bD bE bF bG bH bI bJ A s X1 X2 Y1 Y2 w0) => nine_keep h (C5 w0)
  have F2 := fun w0 (h : Nine w bA bC bD bE bF bG bH bI bJ A s X1 X2 Y1 Y2 w0) => nine_keep h (C11 w0)
  clear C5 C6 C7 C8 C9 C10 C11 hA hB hC hD hE hF hG hH hI hJ
  go_region_held3 (fun w' => w'.cell? ⟨bA, 0, none⟩ = some (.int .i64 A) ∧ w'.cell? ⟨bA, 1, none⟩ = some (.int .i64 s) ∧ w'.cell? ⟨bC, 0, none⟩ = some (.int .i64 X1) ∧ w'.cell? ⟨bC, 1, none⟩ = some (.int .i64 X2) ∧ w'.cell? ⟨bD, 0, none⟩ = some (.int .i64 X1) ∧ w'.cell? ⟨bD, 1, none⟩ = some (.int .i64 X2) ∧ w'.cell? ⟨bE, 0, none⟩ = some (.int .i64 Y1) ∧ w'.cell? ⟨bE, 1, none⟩ = some (.int .i64 Y2) ∧ w'.cell? ⟨bF, 0, none⟩ = some (.int .i64 Y1) ∧ w'.cell? ⟨bF, 1, none⟩ = some (.int .i64 Y2) ∧ w'.cell? ⟨bG, 0, none⟩ = some (.int .i64 0) ∧ w'.cell? ⟨bG, 1, none⟩ = some (.int .i64 0) ∧ w'.cell? ⟨bH, 0, none⟩ = some (.int .i64 A) ∧ w'.cell? ⟨bH, 1, none⟩ = some (.int .i64 s) ∧ w'.cell? ⟨bI, 0, none⟩ = some (.int .i64 A) ∧ w'.cell? ⟨bI, 1, none⟩ = some (.int .i64 s) ∧ w'.cell? ⟨bJ, 0, none⟩ = some (.int .i64 0) ∧ w'.cell? ⟨bJ, 1, none⟩ = some (.int .i64 0)) (first | exact HC | go_keep) (first
    | (go_at_call 19; (with_reducible refine (F1 _ ?h).mono ?_); (case h => first | exact H | exact hP); rintro e wy ⟨rfl, H, HC⟩)
    | (go_at_call 19; (with_reducible refine (F2 _ ?h).mono ?_); (case h => first | exact H | exact hP); rintro e wy ⟨rfl, H, HC⟩))
  all_goals
    go_wp2_with fail
    go_ret
    exact ⟨rfl, H.1⟩
end Go.Proofs.Ythfihlapgoglaaa
