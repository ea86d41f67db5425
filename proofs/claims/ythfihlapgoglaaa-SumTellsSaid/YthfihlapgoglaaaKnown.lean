/- The walk of the statements' known answers. -/
import Derived.Test.YthfihlapgoglaaaLawSum3
namespace Go.Proofs.Ythfihlapgoglaaa
open Go.RowKit

theorem dot_lit (m t : Int) (s : Nat) (ht : (s : Int) = t) (R1 R2 : Int) (hm : I64 m) (hs : s < 1000) (h1 : dotM m s = R1) (h2 : dotS m s = R2) (w : World) :
    Calls Try.prog 21 #[.int .i64 m, .int .i64 t] w fun e w' => e = .returned (.agg #[.int .i64 R1, .int .i64 R2]) ∧ Ext w w' := by
  subst h1 h2 ht
  exact dot_any m s w hm hs

/-- The four decimals that the known answers keep. -/
def Four (w : World) (a b c d : Nat) (W : World) : Prop := Ext w W ∧ DecIn a 225 2 W ∧ DecIn b 125 3 W ∧ DecIn c 1 0 W ∧ DecIn d 0 0 W
def FourC (a b c d : Nat) (w' : World) : Prop := w'.cell? ⟨a, 0, none⟩ = some (.int .i64 225) ∧ w'.cell? ⟨a, 1, none⟩ = some (.int .i64 2) ∧ w'.cell? ⟨b, 0, none⟩ = some (.int .i64 125) ∧ w'.cell? ⟨b, 1, none⟩ = some (.int .i64 3) ∧ w'.cell? ⟨c, 0, none⟩ = some (.int .i64 1) ∧ w'.cell? ⟨c, 1, none⟩ = some (.int .i64 0) ∧ w'.cell? ⟨d, 0, none⟩ = some (.int .i64 0) ∧ w'.cell? ⟨d, 1, none⟩ = some (.int .i64 0)
theorem Four.ext {w : World} {a b c d : Nat} {W W' : World} (h : Four w a b c d W) (x : Ext W W') : Four w a b c d W' := ⟨h.1.trans x, h.2.1.ext x, h.2.2.1.ext x, h.2.2.2.1.ext x, h.2.2.2.2.ext x⟩
theorem Four.cells {w : World} {a b c d : Nat} {W : World} (h : Four w a b c d W) : FourC a b c d W := ⟨h.2.1.cells.1, h.2.1.cells.2, h.2.2.1.cells.1, h.2.2.1.cells.2, h.2.2.2.1.cells.1, h.2.2.2.1.cells.2, h.2.2.2.2.cells.1, h.2.2.2.2.cells.2⟩
theorem four_keep {w : World} {a b c d : Nat} {w0 : World} (h : Four w a b c d w0) {k : Nat} {args : Array Value} {v : Value} (C : Calls Try.prog k args w0 fun e w' => e = .returned v ∧ Ext w0 w') :
    Calls Try.prog k args w0 fun e w' => e = .returned v ∧ Four w a b c d w' := C.mono (fun _ _ ⟨he, x⟩ => ⟨he, h.ext x⟩)

theorem DecsAt.three {b : Nat} {a1 a2 b1 b2 c1 c2 : Int} {w : World} {t : TypeId} {fr : Nat × Nat} (h : w.heap[b]? = some (.cells #[.int .i64 a1, .int .i64 a2, .int .i64 b1, .int .i64 b2, .int .i64 c1, .int .i64 c2] t fr)) : DecsAt b 0 [(a1, a2), (b1, b2), (c1, c2)] w := by
  intro i hi
  have hi3 : i = 0 ∨ i = 1 ∨ i = 2 := by simp at hi; omega
  rcases hi3 with rfl | rfl | rfl <;> exact ⟨(Lib.cell_of_heap h _).trans rfl, (Lib.cell_of_heap h _).trans rfl⟩

theorem add3_known (X : World) :
    Calls Try.prog 9 #[.slice (some ⟨X.heap.size, 0, none⟩) 3 3] (X.alloc (.cells #[.int .i64 15, .int .i64 1, .int .i64 (-25), .int .i64 2, .int .i64 1, .int .i64 0] 25)) fun e w' => e = .returned (.tuple #[.agg #[.int .i64 225, .int .i64 2], .bool true]) ∧ Ext (X.alloc (.cells #[.int .i64 15, .int .i64 1, .int .i64 (-25), .int .i64 2, .int .i64 1, .int .i64 0] 25)) w' := by
  have hs : sumL 0 0 [(15, 1), (-25, 2), (1, 0)] = ((225, 2), true) := by decide
  have := Add_any X.heap.size 0 3 [(15, 1), (-25, 2), (1, 0)] (X.alloc (.cells #[.int .i64 15, .int .i64 1, .int .i64 (-25), .int .i64 2, .int .i64 1, .int .i64 0] 25)) (by decide) (by intro d hd; simp at hd; rcases hd with rfl | rfl | rfl <;> (unfold I64; omega)) (by rw [heap_size_alloc]; omega) (DecsAt.three (heap_last _ _))
  rw [hs] at this
  exact this

theorem over_18 (w : World) : Calls Try.prog 13 #[.agg #[.int .i64 1, .int .i64 0], .agg #[.int .i64 8, .int .i64 0]] w fun e w' => e = .returned (.tuple #[.agg #[.int .i64 125, .int .i64 3], .bool true]) ∧ Ext w w' := by
  have i0 : ∀ m : Int, -1000 ≤ m ∧ m ≤ 1000 → I64 m := fun m h => ⟨by omega, by omega⟩
  refine (Over_any 1 0 8 0 w (i0 _ (by omega)) (i0 _ (by omega)) (i0 _ (by omega)) (i0 _ (by omega)) (by decide) (by decide) (by decide)).mono ?_
  rintro e w' ⟨⟨m, k2, k5, hL, h5, h2, rfl⟩, x⟩
  refine ⟨?_, x⟩
  have hc : canZ (125 * 8) (3 + 0 : Int).toNat = ((1, 0), true) := by decide
  have := over_is (A := 125) (s1 := 3) (B := 8) (s2 := 0) (by decide) (i0 _ (by omega)) (by decide) (by decide) (by rw [hc]) (m := m) (k2 := k2) (k5 := k5) (by rw [hc]; exact hL) h5 h2
  rw [hc] at this
  exact this
theorem over_13 (w : World) : Calls Try.prog 13 #[.agg #[.int .i64 1, .int .i64 0], .agg #[.int .i64 3, .int .i64 0]] w fun e w' => e = .returned (.tuple #[.agg #[.int .i64 0, .int .i64 0], .bool false]) ∧ Ext w w' := by
  have i0 : ∀ m : Int, -1000 ≤ m ∧ m ≤ 1000 → I64 m := fun m h => ⟨by omega, by omega⟩
  refine (Over_any 1 0 3 0 w (i0 _ (by omega)) (i0 _ (by omega)) (i0 _ (by omega)) (i0 _ (by omega)) (by decide) (by decide) (by decide)).mono ?_
  rintro e w' ⟨⟨m, k2, k5, hL, h5, h2, rfl⟩, x⟩
  refine ⟨?_, x⟩
  unfold ovE
  rw [if_neg]
  · rfl
  · intro hm
    subst hm
    have hL' : 3 = 1 * 5 ^ k5 * 2 ^ k2 := hL
    rw [Nat.one_mul] at hL'
    cases k2 with
    | zero =>
      rw [Nat.pow_zero, Nat.mul_one] at hL'
      cases k5 with
      | zero => simp at hL'
      | succ k => rw [Nat.pow_succ] at hL'; omega
    | succ k => rw [Nat.pow_succ, ← Nat.mul_assoc] at hL'; omega

set_option maxHeartbeats 20000000 in
set_option maxRecDepth 100000 in
theorem known_any (w : World) :
    Calls Try.prog 8 #[] w fun e w' => e = .returned (.bool true) ∧ Ext w w' := by
  have i0 : ∀ m : Int, -1000 ≤ m ∧ m ≤ 1000 → I64 m := fun m h => ⟨by omega, by omega⟩
  have A1 := dot_lit 15 1 1 rfl 15 1 (i0 _ (by omega)) (by omega) (by decide) (by decide)
  have A2 := dot_lit (-25) 2 2 rfl (-25) 2 (i0 _ (by omega)) (by omega) (by decide) (by decide)
  have A3 := dot_lit 1 0 0 rfl 1 0 (i0 _ (by omega)) (by omega) (by decide) (by decide)
  have A4 := dot_lit 8 0 0 rfl 8 0 (i0 _ (by omega)) (by omega) (by decide) (by decide)
  have A5 := dot_lit 3 0 0 rfl 3 0 (i0 _ (by omega)) (by omega) (by decide) (by decide)
  have A6 := dot_lit 25 1 1 rfl 25 1 (i0 _ (by omega)) (by omega) (by decide) (by decide)
  have A7 := dot_lit 4 1 1 rfl 4 1 (i0 _ (by omega)) (by omega) (by decide) (by decide)
  have T1 : ∀ w, Calls Try.prog 11 #[.agg #[.int .i64 25, .int .i64 1], .agg #[.int .i64 4, .int .i64 1]] w fun e w' => e = .returned (.tuple #[.agg #[.int .i64 1, .int .i64 0], .bool true]) ∧ Ext w w' := fun w => by
    have := Times_any 25 1 4 1 w (i0 _ (by omega)) (i0 _ (by omega)) (i0 _ (by omega)) (i0 _ (by omega))
    rw [show mulM 25 1 4 1 = 1 from by decide, show mulS 25 1 4 1 = 0 from by decide, show mulOk 25 1 4 1 = true from by decide] at this
    exact this
  have S1 : ∀ w, Calls Try.prog 15 #[.agg #[.int .i64 15, .int .i64 1], .int .i64 3] w fun e w' => e = .returned (.tuple #[.int .i64 1500, .bool true]) ∧ Ext w w' := fun w => by
    have := Scaled_any 15 1 3 w (i0 _ (by omega)) (i0 _ (by omega)) (i0 _ (by omega))
    rw [show scM 15 1 3 = 1500 from by decide, show scOk 15 1 3 = true from by decide] at this
    exact this
  have S2 : ∀ w, Calls Try.prog 15 #[.agg #[.int .i64 15, .int .i64 1], .int .i64 0] w fun e w' => e = .returned (.tuple #[.int .i64 0, .bool false]) ∧ Ext w w' := fun w => by
    have := Scaled_any 15 1 0 w (i0 _ (by omega)) (i0 _ (by omega)) (i0 _ (by omega))
    rw [show scM 15 1 0 = 0 from by decide, show scOk 15 1 0 = false from by decide] at this
    exact this
  have A8 := dot_lit 225 2 2 rfl 225 2 (i0 _ (by omega)) (by omega) (by decide) (by decide)
  have A9 := dot_lit 125 3 3 rfl 125 3 (i0 _ (by omega)) (by omega) (by decide) (by decide)
  have A10 := dot_lit (-1) 0 0 rfl (-1) 0 (i0 _ (by omega)) (by omega) (by decide) (by decide)
  have A11 := dot_lit 1 3 3 rfl 1 3 (i0 _ (by omega)) (by omega) (by decide) (by decide)
  have A12 := dot_lit 5 1 1 rfl 5 1 (i0 _ (by omega)) (by omega) (by decide) (by decide)
  have A13 := dot_lit (-5) 1 1 rfl (-5) 1 (i0 _ (by omega)) (by omega) (by decide) (by decide)
  have P1 : ∀ w, Calls Try.prog 17 #[.agg #[.int .i64 (-1), .int .i64 0], .agg #[.int .i64 1, .int .i64 3]] w fun e w' => e = .returned (.int .i64 (-1)) ∧ Ext w w' := fun w => by
    have := Compare_any (-1) 0 1 3 w (i0 _ (by omega)) (i0 _ (by omega)) (i0 _ (by omega)) (i0 _ (by omega))
    rw [show cmpD (cM (-1) 0) (cS (-1) 0) (cM 1 3) (cS 1 3) = -1 from by decide] at this
    exact this
  have P2 : ∀ w, Calls Try.prog 19 #[.agg #[.int .i64 5, .int .i64 1]] w fun e w' => e = .returned (.agg #[.int .i64 (-5), .int .i64 1]) ∧ Ext w w' := fun w => by
    have := Neg_any 5 1 w (i0 _ (by omega)) (i0 _ (by omega))
    rw [show -cM 5 1 = -5 from by decide, show cS 5 1 = 1 from by decide] at this
    exact this
  go_enter Try.func8, Try.ntmps8
  go_wp2_with fail
  refine (A1 _).mono ?_
  rintro e w1 ⟨rfl, x1⟩
  go_wp2_with fail
  refine (A2 _).mono ?_
  rintro e w2 ⟨rfl, x2⟩
  go_wp2_with fail
  refine (A3 _).mono ?_
  rintro e w3 ⟨rfl, x3⟩
  go_wp2_with fail
  refine (add3_known _).mono ?_
  rintro e w4 ⟨rfl, x4⟩
  go_wp2_with fail
  refine (A3 _).mono ?_
  rintro e w5 ⟨rfl, x5⟩
  go_wp2_with fail
  refine (A4 _).mono ?_
  rintro e w6 ⟨rfl, x6⟩
  go_wp2_with fail
  refine (over_18 _).mono ?_
  rintro e w7 ⟨rfl, x7⟩
  go_wp2_with fail
  refine (A3 _).mono ?_
  rintro e w8 ⟨rfl, x8⟩
  go_wp2_with fail
  refine (A5 _).mono ?_
  rintro e w9 ⟨rfl, x9⟩
  go_wp2_with fail
  refine (over_13 _).mono ?_
  rintro e w10 ⟨rfl, x10⟩
  go_wp2_with fail
  refine (A6 _).mono ?_
  rintro e w11 ⟨rfl, x11⟩
  go_wp2_with fail
  refine (A7 _).mono ?_
  rintro e w12 ⟨rfl, x12⟩
  go_wp2_with fail
  refine (T1 _).mono ?_
  rintro e w13 ⟨rfl, x13⟩
  go_wp2_with fail
  refine (A1 _).mono ?_
  rintro e w14 ⟨rfl, x14⟩
  go_wp2_with fail
  refine (S1 _).mono ?_
  rintro e w15 ⟨rfl, x15⟩
  go_wp2_with fail
  refine (A1 _).mono ?_
  rintro e w16 ⟨rfl, x16⟩
  go_wp2_with fail
  refine (S2 _).mono ?_
  rintro e w17 ⟨rfl, x17⟩
  go_wp2_with fail
  refine (Add_nil _).mono ?_
  rintro e w18 ⟨rfl, x18⟩
  unfold decV
  go_wp2_with fail
  have y10 := (x8.trans x9).trans x10
  have y13 := (x11.trans x12).trans x13
  have y18 := (((x14.trans x15).trans x16).trans x17).trans x18
  have E1 : Ext (w4.alloc (.cells #[.int .i64 225, .int .i64 2] 25)) (w18.alloc (.cells #[.int .i64 0, .int .i64 0] 25)) := (((((((((x5.trans x6).trans x7).alloc _).trans y10).alloc _).trans y13).alloc _).trans y18).alloc _)
  have E2 : Ext (w7.alloc (.cells #[.int .i64 125, .int .i64 3] 25)) (w18.alloc (.cells #[.int .i64 0, .int .i64 0] 25)) := (((((y10.alloc _).trans y13).alloc _).trans y18).alloc _)
  have E3 : Ext (w13.alloc (.cells #[.int .i64 1, .int .i64 0] 25)) (w18.alloc (.cells #[.int .i64 0, .int .i64 0] 25)) := y18.alloc _
  have HF : Four w w4.heap.size w7.heap.size w13.heap.size w18.heap.size (w18.alloc (.cells #[.int .i64 0, .int .i64 0] 25)) := ⟨(((((x1.trans x2).trans x3).alloc _).trans x4).alloc _).trans E1, DecIn.ext (heap_last _ _) E1, DecIn.ext (heap_last _ _) E2, DecIn.ext (heap_last _ _) E3, heap_last _ _⟩
  clear E1 E2 E3 y10 y13 y18 x1 x2 x3 x4 x5 x6 x7 x8 x9 x10 x11 x12 x13 x14 x15 x16 x17 x18 A1 A2 A4 A5 A6 A7 T1 S1 S2
  generalize w18.alloc (.cells #[.int .i64 0, .int .i64 0] 25) = V at *
  generalize w4.heap.size = a at *
  generalize w7.heap.size = b at *
  generalize w13.heap.size = c at *
  generalize w18.heap.size = d at *
  have hP : Four w a b c d V.drew := HF.ext (Ext.refl V).drew
  have HC := HF.cells
  have FA8 := fun w0 (h : Four w a b c d w0) => four_keep h (A8 w0)
  have FA9 := fun w0 (h : Four w a b c d w0) => four_keep h (A9 w0)
  have FA3 := fun w0 (h : Four w a b c d w0) => four_keep h (A3 w0)
  have FA10 := fun w0 (h : Four w a b c d w0) => four_keep h (A10 w0)
  have FA11 := fun w0 (h : Four w a b c d w0) => four_keep h (A11 w0)
  have FA12 := fun w0 (h : Four w a b c d w0) => four_keep h (A12 w0)
  have FA13 := fun w0 (h : Four w a b c d w0) => four_keep h (A13 w0)
  have FP1 := fun w0 (h : Four w a b c d w0) => four_keep h (P1 w0)
  have FP2 := fun w0 (h : Four w a b c d w0) => four_keep h (P2 w0)
  unfold FourC at HC
  clear A8 A9 A3 A10 A11 A12 A13 P1 P2
  go_region_held3 (fun w' => w'.cell? ⟨a, 0, none⟩ = some (.int .i64 225) ∧ w'.cell? ⟨a, 1, none⟩ = some (.int .i64 2) ∧ w'.cell? ⟨b, 0, none⟩ = some (.int .i64 125) ∧ w'.cell? ⟨b, 1, none⟩ = some (.int .i64 3) ∧ w'.cell? ⟨c, 0, none⟩ = some (.int .i64 1) ∧ w'.cell? ⟨c, 1, none⟩ = some (.int .i64 0) ∧ w'.cell? ⟨d, 0, none⟩ = some (.int .i64 0) ∧ w'.cell? ⟨d, 1, none⟩ = some (.int .i64 0)) (first | exact HC | go_keep) (first
    | (go_at_call 21; (with_reducible refine (FA8 _ ?h).mono ?_); (case h => first | exact H | exact hP); rintro e wy ⟨rfl, H⟩; have HC := H.cells)
    | (go_at_call 21; (with_reducible refine (FA9 _ ?h).mono ?_); (case h => first | exact H | exact hP); rintro e wy ⟨rfl, H⟩; have HC := H.cells)
    | (go_at_call 21; (with_reducible refine (FA3 _ ?h).mono ?_); (case h => first | exact H | exact hP); rintro e wy ⟨rfl, H⟩; have HC := H.cells)
    | (go_at_call 21; (with_reducible refine (FA10 _ ?h).mono ?_); (case h => first | exact H | exact hP); rintro e wy ⟨rfl, H⟩; have HC := H.cells)
    | (go_at_call 21; (with_reducible refine (FA11 _ ?h).mono ?_); (case h => first | exact H | exact hP); rintro e wy ⟨rfl, H⟩; have HC := H.cells)
    | (go_at_call 21; (with_reducible refine (FA12 _ ?h).mono ?_); (case h => first | exact H | exact hP); rintro e wy ⟨rfl, H⟩; have HC := H.cells)
    | (go_at_call 21; (with_reducible refine (FA13 _ ?h).mono ?_); (case h => first | exact H | exact hP); rintro e wy ⟨rfl, H⟩; have HC := H.cells)
    | (go_at_call 17; (with_reducible refine (FP1 _ ?h).mono ?_); (case h => first | exact H | exact hP); rintro e wy ⟨rfl, H⟩; have HC := H.cells)
    | (go_at_call 19; (with_reducible refine (FP2 _ ?h).mono ?_); (case h => first | exact H | exact hP); rintro e wy ⟨rfl, H⟩; have HC := H.cells))
  all_goals
    go_wp2_with fail
    go_ret
    exact ⟨rfl, H.1⟩
end Go.Proofs.Ythfihlapgoglaaa
