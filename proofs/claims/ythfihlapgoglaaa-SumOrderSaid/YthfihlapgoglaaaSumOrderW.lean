/- The law SumOrder answers true: the walk. -/
import Derived.Test.YthfihlapgoglaaaCallsW
namespace Go.Proofs.Ythfihlapgoglaaa
open Go.RowKit

theorem sg_neg (z : Int) : sg (-z) = -sg z := by unfold sg; by_cases h : z < 0 <;> by_cases h2 : 0 < z <;> simp [h, h2] <;> omega
theorem sg_zero {z : Int} : sg z = 0 ↔ z = 0 := by
  unfold sg
  by_cases h : z < 0
  · rw [if_pos h]; omega
  · rw [if_neg h]
    by_cases h2 : 0 < z
    · rw [if_pos h2]; omega
    · rw [if_neg h2]; omega
theorem sg_le {z : Int} : sg z ≤ 0 ↔ z ≤ 0 := by
  unfold sg
  by_cases h : z < 0
  · rw [if_pos h]; omega
  · rw [if_neg h]
    by_cases h2 : 0 < z
    · rw [if_pos h2]; omega
    · rw [if_neg h2]; omega
theorem sg_ge {z : Int} : 0 ≤ sg z ↔ 0 ≤ z := by
  unfold sg
  by_cases h : z < 0
  · rw [if_pos h]; omega
  · rw [if_neg h]
    by_cases h2 : 0 < z
    · rw [if_pos h2]; omega
    · rw [if_neg h2]; omega
theorem sg_range (z : Int) : sg z = -1 ∨ sg z = 0 ∨ sg z = 1 := by
  unfold sg
  by_cases h : z < 0
  · rw [if_pos h]; omega
  · rw [if_neg h]
    by_cases h2 : 0 < z
    · rw [if_pos h2]; omega
    · rw [if_neg h2]; omega
theorem v18_inj {A s B t : Int} (g1 : goodB A s = true) (i1 : I64 A) (g2 : goodB B t = true) (i2 : I64 B) (h : v18 A s = v18 B t) : A = B ∧ s = t := by
  have h1 := canZ_v18 g1 i1
  rw [h, canZ_v18 g2 i2] at h1
  simp only [Prod.mk.injEq] at h1
  exact ⟨h1.1.1.symm, h1.1.2.symm⟩
theorem v18_sign {A s : Int} : 0 ≤ A → 0 ≤ v18 A s := fun h => by
  unfold v18
  exact Int.mul_nonneg h (Int.le_of_lt (pow_pos10 _))

/-- Three decimals in memory; what was there stands. -/
def Thr (w : World) (a b c : Nat) (A s B t C u : Int) (W : World) : Prop := Ext w W ∧ DecIn a A s W ∧ DecIn b B t W ∧ DecIn c C u W
theorem Thr.ext {w : World} {a b c : Nat} {A s B t C u : Int} {W W' : World} (h : Thr w a b c A s B t C u W) (x : Ext W W') : Thr w a b c A s B t C u W' := ⟨h.1.trans x, h.2.1.ext x, h.2.2.1.ext x, h.2.2.2.ext x⟩
theorem thr_keep {w : World} {a b c : Nat} {A s B t C u : Int} {w0 : World} (h : Thr w a b c A s B t C u w0) {k : Nat} {args : Array Value} {v : Value} (K : Calls Try.prog k args w0 fun e w' => e = .returned v ∧ Ext w0 w') :
    Calls Try.prog k args w0 fun e w' => e = .returned v ∧ Thr w a b c A s B t C u w' ∧ w'.cell? ⟨a, 0, none⟩ = some (.int .i64 A) ∧ w'.cell? ⟨a, 1, none⟩ = some (.int .i64 s) ∧ w'.cell? ⟨b, 0, none⟩ = some (.int .i64 B) ∧ w'.cell? ⟨b, 1, none⟩ = some (.int .i64 t) ∧ w'.cell? ⟨c, 0, none⟩ = some (.int .i64 C) ∧ w'.cell? ⟨c, 1, none⟩ = some (.int .i64 u) :=
  K.mono (fun _ _ ⟨he, x⟩ => ⟨he, h.ext x, (h.ext x).2.1.cells.1, (h.ext x).2.1.cells.2, (h.ext x).2.2.1.cells.1, (h.ext x).2.2.1.cells.2, (h.ext x).2.2.2.cells.1, (h.ext x).2.2.2.cells.2⟩)

set_option maxHeartbeats 40000000 in
set_option maxRecDepth 100000 in
theorem SumOrder_any (m n r x y z : Int) (w : World) (hm : I64 m) (hn : I64 n) (hr : I64 r) (h0 : 0 ≤ x) (h1 : x ≤ 255) (k0 : 0 ≤ y) (k1 : y ≤ 255) (j0 : 0 ≤ z) (j1 : z ≤ 255) :
    Calls Try.prog 6 #[.int .i64 m, .int .i64 n, .int .i64 r, .int .u8 x, .int .u8 y, .int .u8 z] w fun e w' => e = .returned (.bool true) ∧ Ext w w' := by
  obtain ⟨g1, i1⟩ := dot_good m (x % 19).toNat
  obtain ⟨g2, i2⟩ := dot_good n (y % 19).toNat
  obtain ⟨g4, i4⟩ := dot_good r (z % 19).toNat
  have D1 := dot_int m (x % 19) hm (by omega) (by omega)
  have D2 := dot_int n (y % 19) hn (by omega) (by omega)
  have D3 := dot_int r (z % 19) hr (by omega) (by omega)
  generalize dotM m (x % 19).toNat = A at *
  generalize dotS m (x % 19).toNat = s at *
  generalize dotM n (y % 19).toNat = B at *
  generalize dotS n (y % 19).toNat = t at *
  generalize dotM r (z % 19).toNat = C at *
  generalize dotS r (z % 19).toNat = u at *
  obtain ⟨g3, i3⟩ := neg_good g2 i2
  have K1 := fun w => cmp_can g1 i1 g2 i2 w
  have K2 := fun w => cmp_can g2 i2 g4 i4 w
  have K3 := fun w => cmp_can g1 i1 g4 i4 w
  have K4 := fun w => cmp_can g2 i2 g1 i1 w
  rw [show v18 B t - v18 A s = -(v18 A s - v18 B t) from by omega, sg_neg] at K4
  have C5 := fun w => neg_can g2 i2 w
  have C6 := fun b w => add2_in g1 i1 g3 i3 b w
  rw [v18_neg, ← Int.sub_eq_add_neg] at C6
  obtain ⟨gX, iX⟩ := canZ_is_good (v18 A s - v18 B t) 18
  have K5 : (canZ (v18 A s - v18 B t) 18).2 = true → ∀ w, Calls Try.prog 17 #[.agg #[.int .i64 (canZ (v18 A s - v18 B t) 18).1.1, .int .i64 (canZ (v18 A s - v18 B t) 18).1.2], .agg #[.int .i64 0, .int .i64 0]] w fun e w' => e = .returned (.int .i64 (sg (v18 A s - v18 B t))) ∧ Ext w w' := by
    intro hp w
    have := cmp_can gX iX good_zero (show I64 0 by unfold I64; omega) w
    rw [v18_zero, Int.sub_zero, v18_canZ hp] at this
    exact this
  have C7 := fun b w => add2_in g1 i1 g4 i4 b w
  obtain ⟨gZ, iZ⟩ := canZ_is_good (v18 A s + v18 C u) 18
  have K6 : (canZ (v18 A s + v18 C u) 18).2 = true → ∀ w, Calls Try.prog 17 #[.agg #[.int .i64 (canZ (v18 A s + v18 C u) 18).1.1, .int .i64 (canZ (v18 A s + v18 C u) 18).1.2], .agg #[.int .i64 A, .int .i64 s]] w fun e w' => e = .returned (.int .i64 (sg (v18 C u))) ∧ Ext w w' := by
    intro hp w
    have := cmp_can gZ iZ g1 i1 w
    rw [v18_canZ hp, show v18 A s + v18 C u - v18 A s = v18 C u from by omega] at this
    exact this
  have E0 : sg (v18 A s - v18 B t) = 0 ↔ (A = B ∧ s = t) := by
    rw [sg_zero]
    constructor
    · intro h; exact v18_inj g1 i1 g2 i2 (by omega)
    · rintro ⟨rfl, rfl⟩; omega
  have E1 : sg (v18 A s - v18 B t) ≤ 0 → sg (v18 B t - v18 C u) ≤ 0 → sg (v18 A s - v18 C u) ≤ 0 := by
    rw [sg_le, sg_le, sg_le]; omega
  have E2 : 0 ≤ C → 0 ≤ sg (v18 C u) := fun h => sg_ge.2 (v18_sign h)
  generalize (canZ (v18 A s - v18 B t) 18).1.1 = X1 at *
  generalize (canZ (v18 A s - v18 B t) 18).1.2 = X2 at *
  generalize (canZ (v18 A s - v18 B t) 18).2 = p at *
  generalize (canZ (v18 A s + v18 C u) 18).1.1 = Z1 at *
  generalize (canZ (v18 A s + v18 C u) 18).1.2 = Z2 at *
  generalize (canZ (v18 A s + v18 C u) 18).2 = q at *
  have rx : sg (v18 A s - v18 B t) = -1 ∨ sg (v18 A s - v18 B t) = 0 ∨ sg (v18 A s - v18 B t) = 1 := sg_range _
  generalize sg (v18 A s - v18 B t) = cx at *
  generalize sg (v18 B t - v18 C u) = cy at *
  generalize sg (v18 A s - v18 C u) = cz at *
  generalize sg (v18 C u) = cc at *
  generalize hB' : -B = B' at *
  clear hB' g1 i1 g2 i2 g3 i3 g4 i4 gX iX gZ iZ
  go_enter Try.func6, Try.ntmps6
  go_wp2_with fail
  refine (known_any _).mono ?_
  rintro e w1 ⟨rfl, x1⟩
  go_wp2_with fail
  refine (D1 _).mono ?_
  rintro e w2 ⟨rfl, x2⟩
  go_wp2_with fail
  refine (D2 _).mono ?_
  rintro e w3 ⟨rfl, x3⟩
  go_wp2_with fail
  refine (D3 _).mono ?_
  rintro e w4 ⟨rfl, x4⟩
  go_wp2_with fail
  have hT : Thr w w4.heap.size (w4.heap.size + 1) (w4.heap.size + 2) A s B t C u (((w4.alloc (.cells #[.int .i64 A, .int .i64 s] 25)).alloc (.cells #[.int .i64 B, .int .i64 t] 25)).alloc (.cells #[.int .i64 C, .int .i64 u] 25)) := ⟨((((((x1.trans x2).trans x3).trans x4).alloc _).alloc _).alloc _), heap_at3a _ _ _ _, heap_at3b _ _ _ _, heap_at3c _ _ _ _⟩
  clear x1 x2 x3 x4 D1 D2 D3
  generalize (((w4.alloc (.cells #[.int .i64 A, .int .i64 s] 25)).alloc (.cells #[.int .i64 B, .int .i64 t] 25)).alloc (.cells #[.int .i64 C, .int .i64 u] 25)) = V at *
  have e12 : w4.heap.size + 1 + 1 = w4.heap.size + 2 := rfl
  rw [e12]
  clear e12
  have hAB : w4.heap.size ≠ w4.heap.size + 1 := by omega
  generalize w4.heap.size + 2 = bC at *
  generalize w4.heap.size + 1 = bB at *
  generalize w4.heap.size = bA at *
  clear hAB
  have hP : Thr w bA bB bC A s B t C u V.drew := hT.ext (Ext.refl V).drew
  obtain ⟨c0, c1⟩ := hT.2.1.cells
  obtain ⟨d0, d1⟩ := hT.2.2.1.cells
  obtain ⟨e0, e1⟩ := hT.2.2.2.cells
  have F1 := fun w0 (h : Thr w bA bB bC A s B t C u w0) => thr_keep h (K1 w0)
  have F2 := fun w0 (h : Thr w bA bB bC A s B t C u w0) => thr_keep h (K2 w0)
  have F3 := fun w0 (h : Thr w bA bB bC A s B t C u w0) => thr_keep h (K3 w0)
  go_cut [16, 17, 18] (fun u1 u2 u3 wx => u1 = .int .i64 cx ∧ u2 = .int .i64 cy ∧ u3 = .int .i64 cz ∧ Thr w bA bB bC A s B t C u wx)
  case first =>
    go_region_held3 (fun w' => w'.cell? ⟨bA, 0, none⟩ = some (.int .i64 A) ∧ w'.cell? ⟨bA, 1, none⟩ = some (.int .i64 s) ∧ w'.cell? ⟨bB, 0, none⟩ = some (.int .i64 B) ∧ w'.cell? ⟨bB, 1, none⟩ = some (.int .i64 t) ∧ w'.cell? ⟨bC, 0, none⟩ = some (.int .i64 C) ∧ w'.cell? ⟨bC, 1, none⟩ = some (.int .i64 u)) (first | exact HC | exact ⟨c0, c1, d0, d1, e0, e1⟩ | go_keep) (first
      | (go_at_call 17; (with_reducible refine (F1 _ ?h).mono ?_); (case h => first | exact H | exact hP); rintro e wy ⟨rfl, H, HC⟩)
      | (go_at_call 17; (with_reducible refine (F2 _ ?h).mono ?_); (case h => first | exact H | exact hP); rintro e wy ⟨rfl, H, HC⟩)
      | (go_at_call 17; (with_reducible refine (F3 _ ?h).mono ?_); (case h => first | exact H | exact hP); rintro e wy ⟨rfl, H, HC⟩))
    all_goals
      go_wp2_with fail
      go_meet
      case rel => exact ⟨rfl, rfl, rfl, H⟩
  case rest =>
  obtain ⟨rfl, rfl, rfl, hT⟩ := hcut
  clear hP F1 F2 F3 c0 c1 d0 d1 e0 e1 K1 K2 K3
  obtain ⟨c0, c1⟩ := hT.2.1.cells
  obtain ⟨d0, d1⟩ := hT.2.2.1.cells
  have F4 := fun w0 (h : Thr w bA bB bC A s B t C u w0) => thr_keep h (K4 w0)
  clear K4
  go_upto_region 5 with fail
  generalize wc = V at *
  go_cut [74] (fun u1 wx => u1 = .bool false ∧ Thr w bA bB bC A s B t C u wx)
  case first =>
    have G2 : binOp .gtr 3 (.int .i64 cz) (.int .i64 0) = pure (.bool (decide (cz > 0))) := rfl
    by_cases hcy : cy ≤ 0
    · have G1 : binOp .leq 3 (.int .i64 cy) (.int .i64 0) = pure (.bool true) := by
        simp only [go_sem]; rw [decide_eq_true hcy]
      rcases rx with rfl | rfl | rfl
      · have G3 : binOp .gtr 3 (.int .i64 cz) (.int .i64 0) = pure (.bool false) := by
          simp only [go_sem]; rw [show decide (cz > 0) = false from by simp only [decide_eq_false_iff_not]; have := E1 (by omega) hcy; omega]
        clear G2
        rw [show (-(-1) : Int) = 1 from rfl] at F4
        by_cases hAB : A = B
        · subst hAB
          have hst : s ≠ t := fun h => absurd (E0.2 ⟨rfl, h⟩) (by omega)
          have hsb : (s == t) = false := by simpa using hst
          clear E0 E1
          go_wp2_with fail
          refine (F4 _ hT).mono ?_
          rintro e wy ⟨rfl, H, p0, p1, q0, q1, -, -⟩
          go_wp2_with fail
          go_meet
          case rel => exact ⟨rfl, H⟩
        · have hsb : (A == B) = false := by simpa using hAB
          clear E0 E1
          go_wp2_with fail
          refine (F4 _ hT).mono ?_
          rintro e wy ⟨rfl, H, p0, p1, q0, q1, -, -⟩
          go_wp2_with fail
          go_meet
          case rel => exact ⟨rfl, H⟩
      · have G3 : binOp .gtr 3 (.int .i64 cz) (.int .i64 0) = pure (.bool false) := by
          simp only [go_sem]; rw [show decide (cz > 0) = false from by simp only [decide_eq_false_iff_not]; have := E1 (by omega) hcy; omega]
        clear G2
        obtain ⟨rfl, rfl⟩ := E0.1 rfl
        rw [show (-(0) : Int) = 0 from rfl] at F4
        clear E0 E1
        go_wp2_with fail
        refine (F4 _ hT).mono ?_
        rintro e wy ⟨rfl, H, p0, p1, q0, q1, -, -⟩
        go_wp2_with fail
        go_meet
        case rel => exact ⟨rfl, H⟩
      · rw [show (-(1) : Int) = -1 from rfl] at F4
        by_cases hAB : A = B
        · subst hAB
          have hst : s ≠ t := fun h => absurd (E0.2 ⟨rfl, h⟩) (by omega)
          have hsb : (s == t) = false := by simpa using hst
          clear E0 E1
          go_wp2_with fail
          refine (F4 _ hT).mono ?_
          rintro e wy ⟨rfl, H, p0, p1, q0, q1, -, -⟩
          go_wp2_with fail
          go_meet
          case rel => exact ⟨rfl, H⟩
        · have hsb : (A == B) = false := by simpa using hAB
          clear E0 E1
          go_wp2_with fail
          refine (F4 _ hT).mono ?_
          rintro e wy ⟨rfl, H, p0, p1, q0, q1, -, -⟩
          go_wp2_with fail
          go_meet
          case rel => exact ⟨rfl, H⟩
    · have G1 : binOp .leq 3 (.int .i64 cy) (.int .i64 0) = pure (.bool false) := by
        simp only [go_sem]; rw [decide_eq_false hcy]
      rcases rx with rfl | rfl | rfl
      · rw [show (-(-1) : Int) = 1 from rfl] at F4
        by_cases hAB : A = B
        · subst hAB
          have hst : s ≠ t := fun h => absurd (E0.2 ⟨rfl, h⟩) (by omega)
          have hsb : (s == t) = false := by simpa using hst
          clear E0 E1
          go_wp2_with fail
          refine (F4 _ hT).mono ?_
          rintro e wy ⟨rfl, H, p0, p1, q0, q1, -, -⟩
          go_wp2_with fail
          go_meet
          case rel => exact ⟨rfl, H⟩
        · have hsb : (A == B) = false := by simpa using hAB
          clear E0 E1
          go_wp2_with fail
          refine (F4 _ hT).mono ?_
          rintro e wy ⟨rfl, H, p0, p1, q0, q1, -, -⟩
          go_wp2_with fail
          go_meet
          case rel => exact ⟨rfl, H⟩
      · obtain ⟨rfl, rfl⟩ := E0.1 rfl
        rw [show (-(0) : Int) = 0 from rfl] at F4
        clear E0 E1
        go_wp2_with fail
        refine (F4 _ hT).mono ?_
        rintro e wy ⟨rfl, H, p0, p1, q0, q1, -, -⟩
        go_wp2_with fail
        go_meet
        case rel => exact ⟨rfl, H⟩
      · rw [show (-(1) : Int) = -1 from rfl] at F4
        by_cases hAB : A = B
        · subst hAB
          have hst : s ≠ t := fun h => absurd (E0.2 ⟨rfl, h⟩) (by omega)
          have hsb : (s == t) = false := by simpa using hst
          clear E0 E1
          go_wp2_with fail
          refine (F4 _ hT).mono ?_
          rintro e wy ⟨rfl, H, p0, p1, q0, q1, -, -⟩
          go_wp2_with fail
          go_meet
          case rel => exact ⟨rfl, H⟩
        · have hsb : (A == B) = false := by simpa using hAB
          clear E0 E1
          go_wp2_with fail
          refine (F4 _ hT).mono ?_
          rintro e wy ⟨rfl, H, p0, p1, q0, q1, -, -⟩
          go_wp2_with fail
          go_meet
          case rel => exact ⟨rfl, H⟩
  case rest =>
  obtain ⟨rfl, hT⟩ := hcut
  clear rx E0 E1 F4 c0 c1 d0 d1
  obtain ⟨hx, hA, hB, hC⟩ := hT
  go_upto_region 7 with fail
  generalize wc = V at *
  have F1 := fun w0 (h : TwoIn V bA bB A s B t w0) => two_keepx h (C5 w0)
  have F2 := fun b w0 (hh : w0.heap[b]? = some (.cells #[.int .i64 A, .int .i64 s, .int .i64 B', .int .i64 t] 25 (0, 0))) (h : TwoIn V bA bB A s B t w0) => two_keepx h (C6 b w0 hh)
  have hP0 : TwoIn V bA bB A s B t V := ⟨Ext.refl V, hA, hB⟩
  have hP : TwoIn V bA bB A s B t V.drew := ⟨(Ext.refl V).drew, hA.ext (Ext.refl V).drew, hB.ext (Ext.refl V).drew⟩
  obtain ⟨c0, c1⟩ := hA.cells
  obtain ⟨d0, d1⟩ := hB.cells
  have nx1 := World.new_ne V _ c0
  have nx2 := World.new_ne V _ d0
  go_cut [19, 20] (fun u1 u2 wx => ∃ nb, u1 = .pointer (some ⟨nb, 0, none⟩) ∧ u2 = .bool p ∧ V.heap.size ≤ nb ∧ DecIn nb X1 X2 wx ∧ Ext V wx)
  case first =>
    go_region_held3 (fun w' => w'.cell? ⟨bA, 0, none⟩ = some (.int .i64 A) ∧ w'.cell? ⟨bA, 1, none⟩ = some (.int .i64 s) ∧ w'.cell? ⟨bB, 0, none⟩ = some (.int .i64 B) ∧ w'.cell? ⟨bB, 1, none⟩ = some (.int .i64 t)) (first | exact ⟨p0, p1, q0, q1⟩ | exact ⟨c0, c1, d0, d1⟩ | go_keep) (first
      | (go_at_call 19; (with_reducible refine (F1 _ ?h).mono ?_); (case h => first | exact H | exact hP | exact H.alloc _ | exact hP0.alloc_drew | exact (H.alloc _).alloc _); rintro e wy ⟨rfl, x, H, p0, p1, q0, q1, -⟩; (try have k8 := k8.ext x); (try have k8 := (k8.ext ((Ext.refl _).alloc _)).ext x); (try have k8 := (alloc_dec _).ext x); (try have k8 := ((alloc_dec _).ext (Ext.refl _).drew).ext x); (try have k8 := ((alloc_dec _).ext ((Ext.refl _).alloc _)).ext x); (try rw [heap_size_alloc] at k8); (try have k8c := k8.cells); (try have k8f := k8.free); have ny1 := World.new_ne wy _ p0; have ny2 := World.new_ne wy _ q0; have ny3 := new_ne1 p0; have ny4 := new_ne1 q0; have hz := H.1.size)
      | (go_at_call 9; (with_reducible refine (F2 _ _ ?hh ?h).mono ?_); (case hh => first | exact heap_last _ _ | exact heap_at2a _ _ _ | exact heap_at2b _ _ _); (case h => first | exact H | exact hP | exact H.alloc _ | exact hP0.alloc_drew | exact (H.alloc _).alloc _); rintro e wy ⟨rfl, x, H, p0, p1, q0, q1, -⟩; (try have k8 := k8.ext x); (try have k8 := (k8.ext ((Ext.refl _).alloc _)).ext x); (try have k8 := (alloc_dec _).ext x); (try have k8 := ((alloc_dec _).ext (Ext.refl _).drew).ext x); (try have k8 := ((alloc_dec _).ext ((Ext.refl _).alloc _)).ext x); (try rw [heap_size_alloc] at k8); (try have k8c := k8.cells); (try have k8f := k8.free); have ny1 := World.new_ne wy _ p0; have ny2 := World.new_ne wy _ q0; have ny3 := new_ne1 p0; have ny4 := new_ne1 q0; have hz := H.1.size))
    all_goals
      go_wp2_with fail
      go_meet
      case rel =>
        first
          | exact ⟨_, rfl, rfl, by omega, k8.stored X1 X2, ext_setDec H.1 (by omega) _ _⟩
          | exact ⟨_, rfl, rfl, by omega, heap_last _ _, H.1.alloc _⟩
  case rest =>
  obtain ⟨bG, rfl, rfl, hbG, kbG, xc⟩ := hcut
  clear hP hP0 F1 F2 nx1 nx2 c0 c1 d0 d1
  replace hA := hA.ext xc
  replace hB := hB.ext xc
  replace hC := hC.ext xc
  replace hx := hx.trans xc
  have hG := kbG
  clear kbG C5 C6 xc
  obtain ⟨chA0, chA1⟩ := hA.cells
  have lhA := (Array.getElem?_eq_some_iff.1 hA).1
  obtain ⟨chC0, chC1⟩ := hC.cells
  have lhC := (Array.getElem?_eq_some_iff.1 hC).1
  obtain ⟨chG0, chG1⟩ := hG.cells
  have lhG := (Array.getElem?_eq_some_iff.1 hG).1
  cases p
  · go_wp2_with fail
    clear chA0 chA1 lhA chC0 chC1 lhC chG0 chG1 lhG
    refine (C7 _ _ ?hh).mono ?_
    case hh => first | exact heap_last _ _ | exact heap_at2b _ _ _
    rintro e w6 ⟨rfl, x6⟩
    replace x6 := ((Ext.refl _).alloc _).trans x6
    replace hA := hA.ext x6
    replace hC := hC.ext x6
    replace hx := hx.trans x6
    obtain ⟨chA0, chA1⟩ := hA.cells
    have lhA := (Array.getElem?_eq_some_iff.1 hA).1
    obtain ⟨chC0, chC1⟩ := hC.cells
    have lhC := (Array.getElem?_eq_some_iff.1 hC).1
    cases q
    · go_wp2_with fail
      go_ret
      exact ⟨rfl, hx.alloc _⟩
    · have K6' := K6 (by first | exact rfl | exact trivial)
      by_cases hC0 : C < 0
      · have n1 : binOp .lss 2 (.int .i64 C) (.int .i64 0) = pure (.bool true) := by
          simp only [go_sem]; rw [decide_eq_true hC0]
        go_wp2_with fail
        go_ret
        exact ⟨rfl, hx.alloc _⟩
      · have n1 : binOp .lss 2 (.int .i64 C) (.int .i64 0) = pure (.bool false) := by
          simp only [go_sem]; rw [decide_eq_false hC0]
        have n2 : binOp .geq 3 (.int .i64 cc) (.int .i64 0) = pure (.bool true) := by
          simp only [go_sem]; rw [decide_eq_true (E2 (by omega))]
        clear E2 hC0
        go_wp2_with fail
        refine (K6' _).mono ?_
        rintro e w7 ⟨rfl, x7⟩
        go_wp2_with fail
        go_ret
        exact ⟨rfl, (hx.alloc _).trans x7⟩
  · have K5' := K5 (by first | exact rfl | exact trivial)
    go_wp2_with fail
    refine (K5' _).mono ?_
    rintro e w5 ⟨rfl, x5⟩
    clear chA0 chA1 lhA chC0 chC1 lhC chG0 chG1 lhG
    replace hA := hA.ext x5
    replace hC := hC.ext x5
    replace hx := hx.trans x5
    obtain ⟨chA0, chA1⟩ := hA.cells
    have lhA := (Array.getElem?_eq_some_iff.1 hA).1
    obtain ⟨chC0, chC1⟩ := hC.cells
    have lhC := (Array.getElem?_eq_some_iff.1 hC).1
    go_wp2_with fail
    clear chA0 chA1 lhA chC0 chC1 lhC
    refine (C7 _ _ ?hh).mono ?_
    case hh => first | exact heap_last _ _ | exact heap_at2b _ _ _
    rintro e w6 ⟨rfl, x6⟩
    replace x6 := ((Ext.refl _).alloc _).trans x6
    replace hA := hA.ext x6
    replace hC := hC.ext x6
    replace hx := hx.trans x6
    obtain ⟨chA0, chA1⟩ := hA.cells
    have lhA := (Array.getElem?_eq_some_iff.1 hA).1
    obtain ⟨chC0, chC1⟩ := hC.cells
    have lhC := (Array.getElem?_eq_some_iff.1 hC).1
    cases q
    · go_wp2_with fail
      go_ret
      exact ⟨rfl, hx.alloc _⟩
    · have K6' := K6 (by first | exact rfl | exact trivial)
      by_cases hC0 : C < 0
      · have n1 : binOp .lss 2 (.int .i64 C) (.int .i64 0) = pure (.bool true) := by
          simp only [go_sem]; rw [decide_eq_true hC0]
        go_wp2_with fail
        go_ret
        exact ⟨rfl, hx.alloc _⟩
      · have n1 : binOp .lss 2 (.int .i64 C) (.int .i64 0) = pure (.bool false) := by
          simp only [go_sem]; rw [decide_eq_false hC0]
        have n2 : binOp .geq 3 (.int .i64 cc) (.int .i64 0) = pure (.bool true) := by
          simp only [go_sem]; rw [decide_eq_true (E2 (by omega))]
        clear E2 hC0
        go_wp2_with fail
        refine (K6' _).mono ?_
        rintro e w7 ⟨rfl, x7⟩
        go_wp2_with fail
        go_ret
        exact ⟨rfl, (hx.alloc _).trans x7⟩
end Go.Proofs.Ythfihlapgoglaaa
