/- The law SumBack answers true: the walk. -/
import Derived.Test.YthfihlapgoglaaaCallsW
namespace Go.Proofs.Ythfihlapgoglaaa
open Go.RowKit

theorem over_zero (m1 s1 s2 : Int) (w : World) (h1 : I64 m1) (h2 : I64 s1) (h3 : I64 s2) :
    Calls Try.prog 13 #[.agg #[.int .i64 m1, .int .i64 s1], .agg #[.int .i64 0, .int .i64 s2]] w fun e w' => e = .returned (.tuple #[.agg #[.int .i64 0, .int .i64 0], .bool false]) ∧ Ext w w' :=
  Over_bad m1 s1 0 s2 w h1 h2 (by unfold I64; omega) h3 (fun h => h.2.2 rfl)
theorem over_back {A s B t : Int} (g1 : goodB A s = true) (i1 : I64 A) (g2 : goodB B t = true) (i2 : I64 B) (hB : B ≠ 0) (ok : (canZ (A * B) (s + t).toNat).2 = true) (w : World) :
    Calls Try.prog 13 #[.agg #[.int .i64 (canZ (A * B) (s + t).toNat).1.1, .int .i64 (canZ (A * B) (s + t).toNat).1.2], .agg #[.int .i64 B, .int .i64 t]] w fun e w' => e = .returned (.tuple #[.agg #[.int .i64 A, .int .i64 s], .bool true]) ∧ Ext w w' := by
  obtain ⟨gY, iY⟩ := canZ_is_good (A * B) (s + t).toNat
  refine (Over_any _ _ B t w iY (good_i64 gY) i2 (good_i64 g2) gY g2 hB).mono ?_
  rintro e w' ⟨⟨m, k2, k5, hL, h5, h2, rfl⟩, x⟩
  exact ⟨over_is g1 i1 g2 hB ok hL h5 h2, x⟩

set_option maxHeartbeats 40000000 in
set_option maxRecDepth 100000 in
theorem SumBack_any (m n x y : Int) (w : World) (hm : I64 m) (hn : I64 n) (h0 : 0 ≤ x) (h1 : x ≤ 255) (k0 : 0 ≤ y) (k1 : y ≤ 255) :
    Calls Try.prog 5 #[.int .i64 m, .int .i64 n, .int .u8 x, .int .u8 y] w fun e w' => e = .returned (.bool true) ∧ Ext w w' := by
  obtain ⟨g1, i1⟩ := dot_good m (x % 19).toNat
  obtain ⟨g2, i2⟩ := dot_good n (y % 19).toNat
  have D1 := dot_int m (x % 19) hm (by omega) (by omega)
  have D2 := dot_int n (y % 19) hn (by omega) (by omega)
  generalize dotM m (x % 19).toNat = A at *
  generalize dotS m (x % 19).toNat = s at *
  generalize dotM n (y % 19).toNat = B at *
  generalize dotS n (y % 19).toNat = t at *
  obtain ⟨g3, i3⟩ := neg_good g2 i2
  have C1 := fun b w => add2_in g1 i1 g2 i2 b w
  have C3 := fun w => times_can g1 i1 g2 i2 w
  have C5 := fun w => neg_can g2 i2 w
  have C13 := fun w => over_zero A s 0 w i1 (good_i64 g1) (by unfold I64; omega)
  obtain ⟨gX, iX⟩ := canZ_is_good (v18 A s + v18 B t) 18
  have C6 : (canZ (v18 A s + v18 B t) 18).2 = true → ∀ (b : Nat) (w : World), w.heap[b]? = some (.cells #[.int .i64 (canZ (v18 A s + v18 B t) 18).1.1, .int .i64 (canZ (v18 A s + v18 B t) 18).1.2, .int .i64 (-B), .int .i64 t] 25 (0, 0)) → Calls Try.prog 9 #[.slice (some ⟨b, 0, none⟩) 2 2] w fun e w' => e = .returned (.tuple #[.agg #[.int .i64 A, .int .i64 s], .bool true]) ∧ Ext w w' := by
    intro hp b w hh
    have := add2_in gX iX g3 i3 b w hh
    rw [v18_canZ hp, v18_neg, Int.add_neg_cancel_right, canZ_v18 g1 i1] at this
    exact this
  have hbad := fun h => canZ_bad (z := A * B) (s := (s + t).toNat) h
  have C12 := fun hB ok w => over_back g1 i1 g2 i2 hB ok w
  have it := good_i64 g2
  have C12z := fun w => over_zero (canZ (A * B) (s + t).toNat).1.1 (canZ (A * B) (s + t).toNat).1.2 t w (canZ_is_good _ _).2 (good_i64 (canZ_is_good _ _).1) it
  generalize (canZ (v18 A s + v18 B t) 18).1.1 = X1 at *
  generalize (canZ (v18 A s + v18 B t) 18).1.2 = X2 at *
  generalize (canZ (v18 A s + v18 B t) 18).2 = p at *
  have hbad1 : (canZ (A * B) (s + t).toNat).2 = false → (canZ (A * B) (s + t).toNat).1.1 = 0 := fun h => by rw [hbad h]
  have hbad2 : (canZ (A * B) (s + t).toNat).2 = false → (canZ (A * B) (s + t).toNat).1.2 = 0 := fun h => by rw [hbad h]
  clear hbad
  generalize (canZ (A * B) (s + t).toNat).1.1 = Y1 at *
  generalize (canZ (A * B) (s + t).toNat).1.2 = Y2 at *
  generalize (canZ (A * B) (s + t).toNat).2 = q at *
  generalize hB' : -B = B' at *
  clear hB' g1 i1 g2 i2 g3 i3 gX iX it
  go_enter Try.func5, Try.ntmps5
  go_wp2_with fail
  refine (known_any _).mono ?_
  rintro e w1 ⟨rfl, x1⟩
  go_wp2_with fail
  refine (D1 _).mono ?_
  rintro e w2 ⟨rfl, x2⟩
  go_wp2_with fail
  refine (D2 _).mono ?_
  rintro e w3 ⟨rfl, x3⟩
  go_wp2_with fail
  have hx := (((x1.trans x2).trans x3).alloc (.cells #[.int .i64 A, .int .i64 s] 25)).alloc (.cells #[.int .i64 B, .int .i64 t] 25)
  have hA : DecIn w3.heap.size A s ((w3.alloc (.cells #[.int .i64 A, .int .i64 s] 25)).alloc (.cells #[.int .i64 B, .int .i64 t] 25)) := heap_at2a _ _ _
  have hB : DecIn (w3.heap.size + 1) B t ((w3.alloc (.cells #[.int .i64 A, .int .i64 s] 25)).alloc (.cells #[.int .i64 B, .int .i64 t] 25)) := heap_at2b _ _ _
  clear x1 x2 x3 D1 D2
  refine (C1 _ _ ?hh).mono ?_
  case hh => first | exact heap_last _ _ | exact heap_at2b _ _ _ | exact heap_at3c _ _ _ _
  rintro e w4 ⟨rfl, xw4⟩
  replace xw4 := ((Ext.refl _).alloc _).trans xw4
  replace hA := hA.ext xw4
  replace hB := hB.ext xw4
  replace hx := hx.trans xw4
  clear xw4
  obtain ⟨chA0, chA1⟩ := hA.cells
  have lhA := (Array.getElem?_eq_some_iff.1 hA).1
  obtain ⟨chB0, chB1⟩ := hB.cells
  have lhB := (Array.getElem?_eq_some_iff.1 hB).1
  cases p
  · go_wp2_with fail
    clear chA0 chA1 lhA chB0 chB1 lhB
    replace hA := hA.ext ((Ext.refl w4).alloc (.cells #[.int .i64 X1, .int .i64 X2] 25))
    replace hB := hB.ext ((Ext.refl w4).alloc (.cells #[.int .i64 X1, .int .i64 X2] 25))
    replace hx := hx.alloc (.cells #[.int .i64 X1, .int .i64 X2] 25)
    have hC : DecIn w4.heap.size X1 X2 (w4.alloc (.cells #[.int .i64 X1, .int .i64 X2] 25)) := heap_last _ _
    refine (C3 _).mono ?_
    rintro e w6 ⟨rfl, xw6⟩
    replace hA := hA.ext xw6
    replace hB := hB.ext xw6
    replace hC := hC.ext xw6
    replace hx := hx.trans xw6
    clear xw6
    obtain ⟨chA0, chA1⟩ := hA.cells
    have lhA := (Array.getElem?_eq_some_iff.1 hA).1
    obtain ⟨chB0, chB1⟩ := hB.cells
    have lhB := (Array.getElem?_eq_some_iff.1 hB).1
    cases q
    · obtain rfl := hbad1 rfl
      obtain rfl := hbad2 rfl
      go_wp2_with fail
      go_ret
      exact ⟨rfl, hx.alloc _⟩
    · by_cases hB0 : B = 0
      · subst hB0
        go_wp2_with fail
        clear chA0 chA1 lhA chB0 chB1 lhB
        replace hA := hA.ext ((Ext.refl w6).alloc (.cells #[.int .i64 Y1, .int .i64 Y2] 25))
        replace hB := hB.ext ((Ext.refl w6).alloc (.cells #[.int .i64 Y1, .int .i64 Y2] 25))
        replace hC := hC.ext ((Ext.refl w6).alloc (.cells #[.int .i64 Y1, .int .i64 Y2] 25))
        replace hx := hx.alloc (.cells #[.int .i64 Y1, .int .i64 Y2] 25)
        have hY : DecIn w6.heap.size Y1 Y2 (w6.alloc (.cells #[.int .i64 Y1, .int .i64 Y2] 25)) := heap_last _ _
        refine (C12z _).mono ?_
        rintro e w7 ⟨rfl, xw7⟩
        replace hA := hA.ext xw7
        replace hB := hB.ext xw7
        replace hC := hC.ext xw7
        replace hY := hY.ext xw7
        replace hx := hx.trans xw7
        clear xw7
        obtain ⟨chA0, chA1⟩ := hA.cells
        have lhA := (Array.getElem?_eq_some_iff.1 hA).1
        obtain ⟨chB0, chB1⟩ := hB.cells
        have lhB := (Array.getElem?_eq_some_iff.1 hB).1
        obtain ⟨chY0, chY1⟩ := hY.cells
        have lhY := (Array.getElem?_eq_some_iff.1 hY).1
        go_wp2_with fail
        clear chA0 chA1 lhA chB0 chB1 lhB chY0 chY1 lhY
        replace hA := hA.ext ((Ext.refl w7).alloc (.cells #[.int .i64 0, .int .i64 0] 25))
        replace hB := hB.ext ((Ext.refl w7).alloc (.cells #[.int .i64 0, .int .i64 0] 25))
        replace hC := hC.ext ((Ext.refl w7).alloc (.cells #[.int .i64 0, .int .i64 0] 25))
        replace hY := hY.ext ((Ext.refl w7).alloc (.cells #[.int .i64 0, .int .i64 0] 25))
        replace hx := hx.alloc (.cells #[.int .i64 0, .int .i64 0] 25)
        have hO : DecIn w7.heap.size 0 0 (w7.alloc (.cells #[.int .i64 0, .int .i64 0] 25)) := heap_last _ _
        refine (C13 _).mono ?_
        rintro e w8 ⟨rfl, xw8⟩
        replace hA := hA.ext xw8
        replace hB := hB.ext xw8
        replace hC := hC.ext xw8
        replace hY := hY.ext xw8
        replace hO := hO.ext xw8
        replace hx := hx.trans xw8
        clear xw8
        obtain ⟨chA0, chA1⟩ := hA.cells
        have lhA := (Array.getElem?_eq_some_iff.1 hA).1
        obtain ⟨chB0, chB1⟩ := hB.cells
        have lhB := (Array.getElem?_eq_some_iff.1 hB).1
        obtain ⟨chO0, chO1⟩ := hO.cells
        have lhO := (Array.getElem?_eq_some_iff.1 hO).1
        go_wp2_with fail
        go_ret
        exact ⟨rfl, hx.alloc _⟩
      · have n1 : binOp .eql 2 (.int .i64 B) (.int .i64 0) = pure (.bool false) := by
          simp only [go_sem]; rw [show (B == 0) = false from by simpa using hB0]
        have n2 : binOp .neq 2 (.int .i64 B) (.int .i64 0) = pure (.bool true) := by
          simp only [go_sem]; rw [show (B != 0) = true from by simpa using hB0]
        have C12' := C12 hB0 rfl
        clear hB0
        go_wp2_with fail
        clear chA0 chA1 lhA chB0 chB1 lhB
        replace hA := hA.ext ((Ext.refl w6).alloc (.cells #[.int .i64 Y1, .int .i64 Y2] 25))
        replace hB := hB.ext ((Ext.refl w6).alloc (.cells #[.int .i64 Y1, .int .i64 Y2] 25))
        replace hC := hC.ext ((Ext.refl w6).alloc (.cells #[.int .i64 Y1, .int .i64 Y2] 25))
        replace hx := hx.alloc (.cells #[.int .i64 Y1, .int .i64 Y2] 25)
        have hY : DecIn w6.heap.size Y1 Y2 (w6.alloc (.cells #[.int .i64 Y1, .int .i64 Y2] 25)) := heap_last _ _
        refine (C12' _).mono ?_
        rintro e w7 ⟨rfl, xw7⟩
        replace hA := hA.ext xw7
        replace hB := hB.ext xw7
        replace hC := hC.ext xw7
        replace hY := hY.ext xw7
        replace hx := hx.trans xw7
        clear xw7
        obtain ⟨chA0, chA1⟩ := hA.cells
        have lhA := (Array.getElem?_eq_some_iff.1 hA).1
        obtain ⟨chB0, chB1⟩ := hB.cells
        have lhB := (Array.getElem?_eq_some_iff.1 hB).1
        obtain ⟨chY0, chY1⟩ := hY.cells
        have lhY := (Array.getElem?_eq_some_iff.1 hY).1
        go_wp2_with fail
        clear chA0 chA1 lhA chB0 chB1 lhB chY0 chY1 lhY
        replace hA := hA.ext ((Ext.refl w7).alloc (.cells #[.int .i64 A, .int .i64 s] 25))
        replace hB := hB.ext ((Ext.refl w7).alloc (.cells #[.int .i64 A, .int .i64 s] 25))
        replace hC := hC.ext ((Ext.refl w7).alloc (.cells #[.int .i64 A, .int .i64 s] 25))
        replace hY := hY.ext ((Ext.refl w7).alloc (.cells #[.int .i64 A, .int .i64 s] 25))
        replace hx := hx.alloc (.cells #[.int .i64 A, .int .i64 s] 25)
        have hO : DecIn w7.heap.size A s (w7.alloc (.cells #[.int .i64 A, .int .i64 s] 25)) := heap_last _ _
        refine (C13 _).mono ?_
        rintro e w8 ⟨rfl, xw8⟩
        replace hA := hA.ext xw8
        replace hB := hB.ext xw8
        replace hC := hC.ext xw8
        replace hY := hY.ext xw8
        replace hO := hO.ext xw8
        replace hx := hx.trans xw8
        clear xw8
        obtain ⟨chA0, chA1⟩ := hA.cells
        have lhA := (Array.getElem?_eq_some_iff.1 hA).1
        obtain ⟨chB0, chB1⟩ := hB.cells
        have lhB := (Array.getElem?_eq_some_iff.1 hB).1
        obtain ⟨chO0, chO1⟩ := hO.cells
        have lhO := (Array.getElem?_eq_some_iff.1 hO).1
        go_wp2_with fail
        go_ret
        exact ⟨rfl, hx.alloc _⟩
  · go_wp2_with fail
    clear chA0 chA1 lhA chB0 chB1 lhB
    replace hA := hA.ext ((Ext.refl w4).alloc (.cells #[.int .i64 X1, .int .i64 X2] 25))
    replace hB := hB.ext ((Ext.refl w4).alloc (.cells #[.int .i64 X1, .int .i64 X2] 25))
    replace hx := hx.alloc (.cells #[.int .i64 X1, .int .i64 X2] 25)
    have hC : DecIn w4.heap.size X1 X2 (w4.alloc (.cells #[.int .i64 X1, .int .i64 X2] 25)) := heap_last _ _
    generalize w4.alloc (.cells #[.int .i64 X1, .int .i64 X2] 25) = V at *
    generalize w4.heap.size = bC at *
    have hAB : w3.heap.size ≠ w3.heap.size + 1 := by omega
    generalize w3.heap.size + 1 = bB at *
    generalize w3.heap.size = bA at *
    clear hAB
    have C6' := C6 (by first | exact rfl | exact trivial)
    have F1 := fun w0 (h : TwoIn V bC bB X1 X2 B t w0) => two_keepx h (C5 w0)
    have F2 := fun b w0 (hh : w0.heap[b]? = some (.cells #[.int .i64 X1, .int .i64 X2, .int .i64 B', .int .i64 t] 25 (0, 0))) (h : TwoIn V bC bB X1 X2 B t w0) => two_keepx h (C6' b w0 hh)
    have hP0 : TwoIn V bC bB X1 X2 B t V := ⟨Ext.refl V, hC, hB⟩
    have hP : TwoIn V bC bB X1 X2 B t V.drew := ⟨(Ext.refl V).drew, hC.ext (Ext.refl V).drew, hB.ext (Ext.refl V).drew⟩
    obtain ⟨c0, c1⟩ := hC.cells
    obtain ⟨d0, d1⟩ := hB.cells
    have nx1 := World.new_ne V _ c0
    have nx2 := World.new_ne V _ d0
    go_cut [13, 14] (fun u1 u2 wx => ∃ nb, u1 = .pointer (some ⟨nb, 0, none⟩) ∧ u2 = .bool true ∧ V.heap.size ≤ nb ∧ DecIn nb A s wx ∧ Ext V wx)
    case first =>
      go_region_held3 (fun w' => w'.cell? ⟨bC, 0, none⟩ = some (.int .i64 X1) ∧ w'.cell? ⟨bC, 1, none⟩ = some (.int .i64 X2) ∧ w'.cell? ⟨bB, 0, none⟩ = some (.int .i64 B) ∧ w'.cell? ⟨bB, 1, none⟩ = some (.int .i64 t)) (first | exact ⟨p0, p1, q0, q1⟩ | exact ⟨c0, c1, d0, d1⟩ | go_keep) (first
        | (go_at_call 19; (with_reducible refine (F1 _ ?h).mono ?_); (case h => first | exact H | exact hP | exact H.alloc _ | exact hP0.alloc_drew | exact (H.alloc _).alloc _); rintro e wy ⟨rfl, x, H, p0, p1, q0, q1, -⟩; (try have k8 := k8.ext x); (try have k8 := (k8.ext ((Ext.refl _).alloc _)).ext x); (try have k8 := (alloc_dec _).ext x); (try have k8 := ((alloc_dec _).ext (Ext.refl _).drew).ext x); (try have k8 := ((alloc_dec _).ext ((Ext.refl _).alloc _)).ext x); (try rw [heap_size_alloc] at k8); (try have k8c := k8.cells); (try have k8f := k8.free); have ny1 := World.new_ne wy _ p0; have ny2 := World.new_ne wy _ q0; have ny3 := new_ne1 p0; have ny4 := new_ne1 q0; have hz := H.1.size)
        | (go_at_call 9; (with_reducible refine (F2 _ _ ?hh ?h).mono ?_); (case hh => first | exact heap_last _ _ | exact heap_at2a _ _ _ | exact heap_at2b _ _ _); (case h => first | exact H | exact hP | exact H.alloc _ | exact hP0.alloc_drew | exact (H.alloc _).alloc _); rintro e wy ⟨rfl, x, H, p0, p1, q0, q1, -⟩; (try have k8 := k8.ext x); (try have k8 := (k8.ext ((Ext.refl _).alloc _)).ext x); (try have k8 := (alloc_dec _).ext x); (try have k8 := ((alloc_dec _).ext (Ext.refl _).drew).ext x); (try have k8 := ((alloc_dec _).ext ((Ext.refl _).alloc _)).ext x); (try rw [heap_size_alloc] at k8); (try have k8c := k8.cells); (try have k8f := k8.free); have ny1 := World.new_ne wy _ p0; have ny2 := World.new_ne wy _ q0; have ny3 := new_ne1 p0; have ny4 := new_ne1 q0; have hz := H.1.size))
      all_goals
        go_wp2_with fail
        go_meet
        case rel =>
          first
            | exact ⟨_, rfl, rfl, by omega, k8.stored A s, ext_setDec H.1 (by omega) _ _⟩
            | exact ⟨_, rfl, rfl, by omega, heap_last _ _, H.1.alloc _⟩
    case rest =>
    obtain ⟨bG, rfl, rfl, hbG, kbG, xc⟩ := hcut
    clear hP hP0 F1 F2 nx1 nx2 c0 c1 d0 d1
    replace hA := hA.ext xc
    replace hB := hB.ext xc
    replace hx := hx.trans xc
    clear C6'
    have hG := kbG
    clear kbG
    obtain ⟨chA0, chA1⟩ := hA.cells
    have lhA := (Array.getElem?_eq_some_iff.1 hA).1
    obtain ⟨chB0, chB1⟩ := hB.cells
    have lhB := (Array.getElem?_eq_some_iff.1 hB).1
    obtain ⟨chG0, chG1⟩ := hG.cells
    have lhG := (Array.getElem?_eq_some_iff.1 hG).1
    go_wp2_with fail
    clear chA0 chA1 lhA chB0 chB1 lhB chG0 chG1 lhG
    refine (C3 _).mono ?_
    rintro e w6 ⟨rfl, xw6⟩
    replace hA := hA.ext xw6
    replace hB := hB.ext xw6
    replace hG := hG.ext xw6
    replace hx := hx.trans xw6
    clear xw6
    obtain ⟨chA0, chA1⟩ := hA.cells
    have lhA := (Array.getElem?_eq_some_iff.1 hA).1
    obtain ⟨chB0, chB1⟩ := hB.cells
    have lhB := (Array.getElem?_eq_some_iff.1 hB).1
    cases q
    · obtain rfl := hbad1 rfl
      obtain rfl := hbad2 rfl
      go_wp2_with fail
      go_ret
      exact ⟨rfl, hx.alloc _⟩
    · by_cases hB0 : B = 0
      · subst hB0
        go_wp2_with fail
        clear chA0 chA1 lhA chB0 chB1 lhB
        replace hA := hA.ext ((Ext.refl w6).alloc (.cells #[.int .i64 Y1, .int .i64 Y2] 25))
        replace hB := hB.ext ((Ext.refl w6).alloc (.cells #[.int .i64 Y1, .int .i64 Y2] 25))
        replace hG := hG.ext ((Ext.refl w6).alloc (.cells #[.int .i64 Y1, .int .i64 Y2] 25))
        replace hx := hx.alloc (.cells #[.int .i64 Y1, .int .i64 Y2] 25)
        have hY : DecIn w6.heap.size Y1 Y2 (w6.alloc (.cells #[.int .i64 Y1, .int .i64 Y2] 25)) := heap_last _ _
        refine (C12z _).mono ?_
        rintro e w7 ⟨rfl, xw7⟩
        replace hA := hA.ext xw7
        replace hB := hB.ext xw7
        replace hG := hG.ext xw7
        replace hY := hY.ext xw7
        replace hx := hx.trans xw7
        clear xw7
        obtain ⟨chA0, chA1⟩ := hA.cells
        have lhA := (Array.getElem?_eq_some_iff.1 hA).1
        obtain ⟨chB0, chB1⟩ := hB.cells
        have lhB := (Array.getElem?_eq_some_iff.1 hB).1
        obtain ⟨chY0, chY1⟩ := hY.cells
        have lhY := (Array.getElem?_eq_some_iff.1 hY).1
        go_wp2_with fail
        clear chA0 chA1 lhA chB0 chB1 lhB chY0 chY1 lhY
        replace hA := hA.ext ((Ext.refl w7).alloc (.cells #[.int .i64 0, .int .i64 0] 25))
        replace hB := hB.ext ((Ext.refl w7).alloc (.cells #[.int .i64 0, .int .i64 0] 25))
        replace hG := hG.ext ((Ext.refl w7).alloc (.cells #[.int .i64 0, .int .i64 0] 25))
        replace hY := hY.ext ((Ext.refl w7).alloc (.cells #[.int .i64 0, .int .i64 0] 25))
        replace hx := hx.alloc (.cells #[.int .i64 0, .int .i64 0] 25)
        have hO : DecIn w7.heap.size 0 0 (w7.alloc (.cells #[.int .i64 0, .int .i64 0] 25)) := heap_last _ _
        refine (C13 _).mono ?_
        rintro e w8 ⟨rfl, xw8⟩
        replace hA := hA.ext xw8
        replace hB := hB.ext xw8
        replace hG := hG.ext xw8
        replace hY := hY.ext xw8
        replace hO := hO.ext xw8
        replace hx := hx.trans xw8
        clear xw8
        obtain ⟨chA0, chA1⟩ := hA.cells
        have lhA := (Array.getElem?_eq_some_iff.1 hA).1
        obtain ⟨chB0, chB1⟩ := hB.cells
        have lhB := (Array.getElem?_eq_some_iff.1 hB).1
        obtain ⟨chO0, chO1⟩ := hO.cells
        have lhO := (Array.getElem?_eq_some_iff.1 hO).1
        go_wp2_with fail
        go_ret
        exact ⟨rfl, hx.alloc _⟩
      · have n1 : binOp .eql 2 (.int .i64 B) (.int .i64 0) = pure (.bool false) := by
          simp only [go_sem]; rw [show (B == 0) = false from by simpa using hB0]
        have n2 : binOp .neq 2 (.int .i64 B) (.int .i64 0) = pure (.bool true) := by
          simp only [go_sem]; rw [show (B != 0) = true from by simpa using hB0]
        have C12' := C12 hB0 rfl
        clear hB0
        go_wp2_with fail
        clear chA0 chA1 lhA chB0 chB1 lhB
        replace hA := hA.ext ((Ext.refl w6).alloc (.cells #[.int .i64 Y1, .int .i64 Y2] 25))
        replace hB := hB.ext ((Ext.refl w6).alloc (.cells #[.int .i64 Y1, .int .i64 Y2] 25))
        replace hG := hG.ext ((Ext.refl w6).alloc (.cells #[.int .i64 Y1, .int .i64 Y2] 25))
        replace hx := hx.alloc (.cells #[.int .i64 Y1, .int .i64 Y2] 25)
        have hY : DecIn w6.heap.size Y1 Y2 (w6.alloc (.cells #[.int .i64 Y1, .int .i64 Y2] 25)) := heap_last _ _
        refine (C12' _).mono ?_
        rintro e w7 ⟨rfl, xw7⟩
        replace hA := hA.ext xw7
        replace hB := hB.ext xw7
        replace hG := hG.ext xw7
        replace hY := hY.ext xw7
        replace hx := hx.trans xw7
        clear xw7
        obtain ⟨chA0, chA1⟩ := hA.cells
        have lhA := (Array.getElem?_eq_some_iff.1 hA).1
        obtain ⟨chB0, chB1⟩ := hB.cells
        have lhB := (Array.getElem?_eq_some_iff.1 hB).1
        obtain ⟨chY0, chY1⟩ := hY.cells
        have lhY := (Array.getElem?_eq_some_iff.1 hY).1
        go_wp2_with fail
        clear chA0 chA1 lhA chB0 chB1 lhB chY0 chY1 lhY
        replace hA := hA.ext ((Ext.refl w7).alloc (.cells #[.int .i64 A, .int .i64 s] 25))
        replace hB := hB.ext ((Ext.refl w7).alloc (.cells #[.int .i64 A, .int .i64 s] 25))
        replace hG := hG.ext ((Ext.refl w7).alloc (.cells #[.int .i64 A, .int .i64 s] 25))
        replace hY := hY.ext ((Ext.refl w7).alloc (.cells #[.int .i64 A, .int .i64 s] 25))
        replace hx := hx.alloc (.cells #[.int .i64 A, .int .i64 s] 25)
        have hO : DecIn w7.heap.size A s (w7.alloc (.cells #[.int .i64 A, .int .i64 s] 25)) := heap_last _ _
        refine (C13 _).mono ?_
        rintro e w8 ⟨rfl, xw8⟩
        replace hA := hA.ext xw8
        replace hB := hB.ext xw8
        replace hG := hG.ext xw8
        replace hY := hY.ext xw8
        replace hO := hO.ext xw8
        replace hx := hx.trans xw8
        clear xw8
        obtain ⟨chA0, chA1⟩ := hA.cells
        have lhA := (Array.getElem?_eq_some_iff.1 hA).1
        obtain ⟨chB0, chB1⟩ := hB.cells
        have lhB := (Array.getElem?_eq_some_iff.1 hB).1
        obtain ⟨chO0, chO1⟩ := hO.cells
        have lhO := (Array.getElem?_eq_some_iff.1 hO).1
        go_wp2_with fail
        go_ret
        exact ⟨rfl, hx.alloc _⟩
end Go.Proofs.Ythfihlapgoglaaa
