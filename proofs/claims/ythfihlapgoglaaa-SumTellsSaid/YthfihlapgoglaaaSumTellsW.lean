/- The law SumTells answers true: the walk. -/
import Derived.Test.YthfihlapgoglaaaCallsW
import Derived.Test.YthfihlapgoglaaaRefAll
import Derived.Test.YthfihlapgoglaaaRefTimes
import Derived.Test.YthfihlapgoglaaaRefOver
import Derived.Test.YthfihlapgoglaaaRefCmp
import Derived.Test.YthfihlapgoglaaaRefU
import Derived.Test.YthfihlapgoglaaaKnown
import Derived.Deep.DeepCutAuto
namespace Go.Proofs.Ythfihlapgoglaaa
open Go.RowKit

theorem decs_ext {b o : Nat} {l : List (Int × Int)} {w w' : World} (h : b < w.heap.size ∧ DecsAt b o l w) (x : Ext w w') : b < w'.heap.size ∧ DecsAt b o l w' :=
  ⟨Nat.lt_of_lt_of_le h.1 x.size, fun i hi => ⟨(x.cell h.1).trans (h.2 i hi).1, (x.cell h.1).trans (h.2 i hi).2⟩⟩
/-- The quotient of every two. -/
def ovT (A s B t : Int) : (Int × Int) × Bool := if goodB A s = true ∧ goodB B t = true ∧ B ≠ 0 then ovR A s B t else ((0, 0), false)
theorem over_both (A s B t : Int) (w : World) (i1 : I64 A) (j1 : I64 s) (i2 : I64 B) (j2 : I64 t) :
    Calls Try.prog 13 #[decV A s, decV B t] w fun e w' => e = .returned (.tuple #[decV (ovT A s B t).1.1 (ovT A s B t).1.2, .bool (ovT A s B t).2]) ∧ Ext w w' := by
  unfold ovT
  by_cases h : goodB A s = true ∧ goodB B t = true ∧ B ≠ 0
  · rw [if_pos h]
    obtain ⟨g1, g2, hz⟩ := h
    obtain ⟨a1, a2, _⟩ := good_range g1
    obtain ⟨b1, b2, _⟩ := good_range g2
    refine (Over_any A s B t w i1 j1 i2 j2 g1 g2 hz).mono ?_
    rintro e w' ⟨⟨m, k2, k5, hL, h5, h2, he⟩, x⟩
    exact ⟨he.trans (over_ref ⟨a1, a2⟩ ⟨b1, b2⟩ hz hL h5 h2), x⟩
  · rw [if_neg h]
    exact Over_bad A s B t w i1 j1 i2 j2 h
theorem rover_both (A s B t : Int) (w : World) (i1 : I64 A) (j1 : I64 s) (i2 : I64 B) (j2 : I64 t) :
    Calls Try.prog 14 #[decV A s, decV B t] w fun e w' => e = .returned (.tuple #[decV (ovT A s B t).1.1 (ovT A s B t).1.2, .bool (ovT A s B t).2]) ∧ Ext w w' := by
  unfold ovT
  by_cases h : goodB A s = true ∧ goodB B t = true ∧ B ≠ 0
  · rw [if_pos h]
    exact ROver_good A s B t w i1 i2 h.1 h.2.1 h.2.2
  · rw [if_neg h]
    exact ROver_bad A s B t w i1 j1 i2 j2 h
theorem wrapI (x : Int) : I64 (wrap64 x) := by
  unfold wrap64
  unfold I64; omega

/-- The eight decimals that the answer looks at. -/
def Eight (w : World) (bA bB bC bE bF bG bH bI : Nat) (A s B t X1 X2 Y1 Y2 Z1 Z2 : Int) (W : World) : Prop := Ext w W ∧ DecIn bA A s W ∧ DecIn bB B t W ∧ DecIn bC X1 X2 W ∧ DecIn bE X1 X2 W ∧ DecIn bF Y1 Y2 W ∧ DecIn bG Y1 Y2 W ∧ DecIn bH Z1 Z2 W ∧ DecIn bI Z1 Z2 W
theorem Eight.ext {w : World} {bA bB bC bE bF bG bH bI : Nat} {A s B t X1 X2 Y1 Y2 Z1 Z2 : Int} {W W' : World} (h : Eight w bA bB bC bE bF bG bH bI A s B t X1 X2 Y1 Y2 Z1 Z2 W) (x : Ext W W') : Eight w bA bB bC bE bF bG bH bI A s B t X1 X2 Y1 Y2 Z1 Z2 W' := by
  obtain ⟨h0, hA, hB, hC, hE, hF, hG, hH, hI⟩ := h
  exact ⟨h0.trans x, hA.ext x, hB.ext x, hC.ext x, hE.ext x, hF.ext x, hG.ext x, hH.ext x, hI.ext x⟩
theorem Eight.cells {w : World} {bA bB bC bE bF bG bH bI : Nat} {A s B t X1 X2 Y1 Y2 Z1 Z2 : Int} {w' : World} (h : Eight w bA bB bC bE bF bG bH bI A s B t X1 X2 Y1 Y2 Z1 Z2 w') : w'.cell? ⟨bA, 0, none⟩ = some (.int .i64 A) ∧ w'.cell? ⟨bA, 1, none⟩ = some (.int .i64 s) ∧ w'.cell? ⟨bB, 0, none⟩ = some (.int .i64 B) ∧ w'.cell? ⟨bB, 1, none⟩ = some (.int .i64 t) ∧ w'.cell? ⟨bC, 0, none⟩ = some (.int .i64 X1) ∧ w'.cell? ⟨bC, 1, none⟩ = some (.int .i64 X2) ∧ w'.cell? ⟨bE, 0, none⟩ = some (.int .i64 X1) ∧ w'.cell? ⟨bE, 1, none⟩ = some (.int .i64 X2) ∧ w'.cell? ⟨bF, 0, none⟩ = some (.int .i64 Y1) ∧ w'.cell? ⟨bF, 1, none⟩ = some (.int .i64 Y2) ∧ w'.cell? ⟨bG, 0, none⟩ = some (.int .i64 Y1) ∧ w'.cell? ⟨bG, 1, none⟩ = some (.int .i64 Y2) ∧ w'.cell? ⟨bH, 0, none⟩ = some (.int .i64 Z1) ∧ w'.cell? ⟨bH, 1, none⟩ = some (.int .i64 Z2) ∧ w'.cell? ⟨bI, 0, none⟩ = some (.int .i64 Z1) ∧ w'.cell? ⟨bI, 1, none⟩ = some (.int .i64 Z2) := by
  obtain ⟨h0, hA, hB, hC, hE, hF, hG, hH, hI⟩ := h
  exact ⟨hA.cells.1, hA.cells.2, hB.cells.1, hB.cells.2, hC.cells.1, hC.cells.2, hE.cells.1, hE.cells.2, hF.cells.1, hF.cells.2, hG.cells.1, hG.cells.2, hH.cells.1, hH.cells.2, hI.cells.1, hI.cells.2⟩
theorem eight_keep {w : World} {bA bB bC bE bF bG bH bI : Nat} {A s B t X1 X2 Y1 Y2 Z1 Z2 : Int} {w0 : World} (h : Eight w bA bB bC bE bF bG bH bI A s B t X1 X2 Y1 Y2 Z1 Z2 w0) {k : Nat} {args : Array Value} {v : Value} (C : Calls Try.prog k args w0 fun e w' => e = .returned v ∧ Ext w0 w') :
    Calls Try.prog k args w0 fun e w' => e = .returned v ∧ Eight w bA bB bC bE bF bG bH bI A s B t X1 X2 Y1 Y2 Z1 Z2 w' ∧ w'.cell? ⟨bA, 0, none⟩ = some (.int .i64 A) ∧ w'.cell? ⟨bA, 1, none⟩ = some (.int .i64 s) ∧ w'.cell? ⟨bB, 0, none⟩ = some (.int .i64 B) ∧ w'.cell? ⟨bB, 1, none⟩ = some (.int .i64 t) ∧ w'.cell? ⟨bC, 0, none⟩ = some (.int .i64 X1) ∧ w'.cell? ⟨bC, 1, none⟩ = some (.int .i64 X2) ∧ w'.cell? ⟨bE, 0, none⟩ = some (.int .i64 X1) ∧ w'.cell? ⟨bE, 1, none⟩ = some (.int .i64 X2) ∧ w'.cell? ⟨bF, 0, none⟩ = some (.int .i64 Y1) ∧ w'.cell? ⟨bF, 1, none⟩ = some (.int .i64 Y2) ∧ w'.cell? ⟨bG, 0, none⟩ = some (.int .i64 Y1) ∧ w'.cell? ⟨bG, 1, none⟩ = some (.int .i64 Y2) ∧ w'.cell? ⟨bH, 0, none⟩ = some (.int .i64 Z1) ∧ w'.cell? ⟨bH, 1, none⟩ = some (.int .i64 Z2) ∧ w'.cell? ⟨bI, 0, none⟩ = some (.int .i64 Z1) ∧ w'.cell? ⟨bI, 1, none⟩ = some (.int .i64 Z2) := C.mono (fun _ _ ⟨he, x⟩ => ⟨he, h.ext x, (h.ext x).cells⟩)

set_option maxHeartbeats 40000000 in
set_option maxRecDepth 100000 in
theorem SumTells_main (b o c : Nat) (l : List (Int × Int)) (z : Int) (w : World) (h2 : 2 ≤ l.length) (h12 : l.length ≤ 12) (hI : ∀ d ∈ l, I64 d.1 ∧ I64 d.2) (hD : b < w.heap.size ∧ DecsAt b o l w) (hz : I64 z) :
    Calls Try.prog 3 #[.slice (some ⟨b, o, none⟩) l.length c, .int .i64 z] w fun e w' => e = .returned (.bool true) ∧ Ext w w' := by
  have CA := fun W (h : b < W.heap.size ∧ DecsAt b o l W) => Add_any b o c l W (by omega) hI h.1 h.2
  have CB := fun W (h : b < W.heap.size ∧ DecsAt b o l W) => RAddAll_any b o c l W (by omega) hI h.1 h.2
  rw [rAll_is l 0 0 good_zero] at CB
  generalize (sumL 0 0 l).1.1 = X1 at *
  generalize (sumL 0 0 l).1.2 = X2 at *
  generalize (sumL 0 0 l).2 = p at *
  have hE : ∀ W, b < W.heap.size ∧ DecsAt b o l W → (W.cell? ⟨b, o, none⟩ = some (.int .i64 (l[0]'(by omega)).1) ∧ W.cell? ⟨b, o + 1, none⟩ = some (.int .i64 (l[0]'(by omega)).2)) ∧ (W.cell? ⟨b, o + 2, none⟩ = some (.int .i64 (l[1]'(by omega)).1) ∧ W.cell? ⟨b, o + 3, none⟩ = some (.int .i64 (l[1]'(by omega)).2)) := fun W h => ⟨h.2 0 (by omega), h.2 1 (by omega)⟩
  obtain ⟨i1, j1⟩ := hI (l[0]'(by omega)) (List.getElem_mem _)
  obtain ⟨i2, j2⟩ := hI (l[1]'(by omega)) (List.getElem_mem _)
  generalize (l[0]'(by omega)).1 = A at *
  generalize (l[0]'(by omega)).2 = s at *
  generalize (l[1]'(by omega)).1 = B at *
  generalize (l[1]'(by omega)).2 = t at *
  have C3 := fun w => Times_any A s B t w i1 j1 i2 j2
  have C4 := fun w => RTimes_any A s B t w i1 j1 i2 j2
  generalize mulM A s B t = Y1 at *
  generalize mulS A s B t = Y2 at *
  generalize mulOk A s B t = q at *
  have C5 := fun w => over_both A s B t w i1 j1 i2 j2
  have C6 := fun w => rover_both A s B t w i1 j1 i2 j2
  generalize (ovT A s B t).1.1 = Z1 at *
  generalize (ovT A s B t).1.2 = Z2 at *
  generalize (ovT A s B t).2 = r at *
  have C7 := fun w => Scaled_any A s z w i1 j1 hz
  have C8 := fun w => RScaled_any A s z w i1 j1 hz
  generalize scM A s z = V1 at *
  generalize scOk A s z = v2 at *
  have C9 := fun k (hk : I64 k) w => Scaled_any B t k w i2 j2 hk
  have C10 := fun k (hk : I64 k) w => RScaled_any B t k w i2 j2 hk
  have C11 := fun w => Compare_any A s B t w i1 j1 i2 j2
  have C12 := fun w => RCompare_any A s B t w i1 j1 i2 j2
  obtain ⟨r1⟩ := cM_in A s i1
  obtain ⟨r2⟩ := cM_in B t i2
  rename_i e1 e2
  rw [rcV_is _ _ _ _ e1 e2] at C11
  generalize rcV (cM A s) (cS A s) (cM B t) (cS B t) = cv at *
  have C13 := fun w => Neg_any A s w i1 j1
  have C14 := fun w => RNeg_any A s w i1 j1
  generalize -cM A s = N1 at *
  generalize cS A s = N2 at *
  unfold decV at *
  clear hI i1 j1 i2 j2 r1 r2 e1 e2
  generalize l.length = n at *
  go_enter Try.func3, Try.ntmps3
  go_wp2_with fail
  refine (known_any _).mono ?_
  rintro e w1 ⟨rfl, x1⟩
  replace hD := decs_ext hD x1
  obtain ⟨⟨r0, r1⟩, ⟨r2, r3⟩⟩ := hE _ hD
  go_wp2_with fail
  go_cut [5, 6] (fun u5 u6 wx => ∃ nA nB, u5 = .pointer (some ⟨nA, 0, none⟩) ∧ u6 = .pointer (some ⟨nB, 0, none⟩) ∧ DecIn nA A s wx ∧ DecIn nB B t wx ∧ Ext w1 wx)
  case first =>
    go_region
    all_goals
      go_wp2_with fail
      go_meet
      case rel =>
        first
          | exact ⟨_, _, rfl, rfl, heap_at2a _ _ _, heap_at2b _ _ _, (((Ext.refl _).alloc _).alloc _).drew⟩
          | exact ⟨_, _, rfl, rfl, heap_at2b _ _ _, heap_at2a _ _ _, (((Ext.refl _).alloc _).alloc _).drew⟩
  case rest =>
  obtain ⟨bA, bB, rfl, rfl, hA, hB, xc⟩ := hcut
  replace hD := decs_ext hD xc
  have hx := x1.trans xc
  clear r0 r1 r2 r3 hE xc
  obtain ⟨chA0, chA1⟩ := hA.cells
  have lhA := (Array.getElem?_eq_some_iff.1 hA).1
  obtain ⟨chB0, chB1⟩ := hB.cells
  have lhB := (Array.getElem?_eq_some_iff.1 hB).1
  go_wp2_with fail
  clear chA0 chA1 lhA chB0 chB1 lhB
  (with_reducible refine (CA _ hD).mono ?_)
  rintro e w2 ⟨rfl, xx⟩
  replace hA := hA.ext xx
  replace hB := hB.ext xx
  replace hD := decs_ext hD xx
  replace hx := hx.trans xx
  clear xx
  obtain ⟨chA0, chA1⟩ := hA.cells
  have lhA := (Array.getElem?_eq_some_iff.1 hA).1
  obtain ⟨chB0, chB1⟩ := hB.cells
  have lhB := (Array.getElem?_eq_some_iff.1 hB).1
  go_wp2_with fail
  clear chA0 chA1 lhA chB0 chB1 lhB
  replace hA := hA.ext ((Ext.refl w2).alloc (.cells #[.int .i64 X1, .int .i64 X2] 25))
  replace hB := hB.ext ((Ext.refl w2).alloc (.cells #[.int .i64 X1, .int .i64 X2] 25))
  replace hD := decs_ext hD ((Ext.refl w2).alloc (.cells #[.int .i64 X1, .int .i64 X2] 25))
  replace hx := hx.alloc (.cells #[.int .i64 X1, .int .i64 X2] 25)
  have hC : DecIn w2.heap.size X1 X2 (w2.alloc (.cells #[.int .i64 X1, .int .i64 X2] 25)) := heap_last _ _
  generalize w2.alloc (.cells #[.int .i64 X1, .int .i64 X2] 25) = W2 at *
  generalize w2.heap.size = bC at *
  (with_reducible refine (CB _ hD).mono ?_)
  rintro e w3 ⟨rfl, xx⟩
  replace hA := hA.ext xx
  replace hB := hB.ext xx
  replace hC := hC.ext xx
  replace hD := decs_ext hD xx
  replace hx := hx.trans xx
  clear xx
  obtain ⟨chA0, chA1⟩ := hA.cells
  have lhA := (Array.getElem?_eq_some_iff.1 hA).1
  obtain ⟨chB0, chB1⟩ := hB.cells
  have lhB := (Array.getElem?_eq_some_iff.1 hB).1
  go_wp2_with fail
  clear chA0 chA1 lhA chB0 chB1 lhB
  replace hA := hA.ext ((Ext.refl w3).alloc (.cells #[.int .i64 X1, .int .i64 X2] 25))
  replace hB := hB.ext ((Ext.refl w3).alloc (.cells #[.int .i64 X1, .int .i64 X2] 25))
  replace hC := hC.ext ((Ext.refl w3).alloc (.cells #[.int .i64 X1, .int .i64 X2] 25))
  replace hD := decs_ext hD ((Ext.refl w3).alloc (.cells #[.int .i64 X1, .int .i64 X2] 25))
  replace hx := hx.alloc (.cells #[.int .i64 X1, .int .i64 X2] 25)
  have hE : DecIn w3.heap.size X1 X2 (w3.alloc (.cells #[.int .i64 X1, .int .i64 X2] 25)) := heap_last _ _
  generalize w3.alloc (.cells #[.int .i64 X1, .int .i64 X2] 25) = W3 at *
  generalize w3.heap.size = bE at *
  (with_reducible refine (C3 _).mono ?_)
  rintro e w4 ⟨rfl, xx⟩
  replace hA := hA.ext xx
  replace hB := hB.ext xx
  replace hC := hC.ext xx
  replace hE := hE.ext xx
  replace hD := decs_ext hD xx
  replace hx := hx.trans xx
  clear xx
  obtain ⟨chA0, chA1⟩ := hA.cells
  have lhA := (Array.getElem?_eq_some_iff.1 hA).1
  obtain ⟨chB0, chB1⟩ := hB.cells
  have lhB := (Array.getElem?_eq_some_iff.1 hB).1
  go_wp2_with fail
  clear chA0 chA1 lhA chB0 chB1 lhB
  replace hA := hA.ext ((Ext.refl w4).alloc (.cells #[.int .i64 Y1, .int .i64 Y2] 25))
  replace hB := hB.ext ((Ext.refl w4).alloc (.cells #[.int .i64 Y1, .int .i64 Y2] 25))
  replace hC := hC.ext ((Ext.refl w4).alloc (.cells #[.int .i64 Y1, .int .i64 Y2] 25))
  replace hE := hE.ext ((Ext.refl w4).alloc (.cells #[.int .i64 Y1, .int .i64 Y2] 25))
  replace hD := decs_ext hD ((Ext.refl w4).alloc (.cells #[.int .i64 Y1, .int .i64 Y2] 25))
  replace hx := hx.alloc (.cells #[.int .i64 Y1, .int .i64 Y2] 25)
  have hF : DecIn w4.heap.size Y1 Y2 (w4.alloc (.cells #[.int .i64 Y1, .int .i64 Y2] 25)) := heap_last _ _
  generalize w4.alloc (.cells #[.int .i64 Y1, .int .i64 Y2] 25) = W4 at *
  generalize w4.heap.size = bF at *
  (with_reducible refine (C4 _).mono ?_)
  rintro e w5 ⟨rfl, xx⟩
  replace hA := hA.ext xx
  replace hB := hB.ext xx
  replace hC := hC.ext xx
  replace hE := hE.ext xx
  replace hF := hF.ext xx
  replace hD := decs_ext hD xx
  replace hx := hx.trans xx
  clear xx
  obtain ⟨chA0, chA1⟩ := hA.cells
  have lhA := (Array.getElem?_eq_some_iff.1 hA).1
  obtain ⟨chB0, chB1⟩ := hB.cells
  have lhB := (Array.getElem?_eq_some_iff.1 hB).1
  go_wp2_with fail
  clear chA0 chA1 lhA chB0 chB1 lhB
  replace hA := hA.ext ((Ext.refl w5).alloc (.cells #[.int .i64 Y1, .int .i64 Y2] 25))
  replace hB := hB.ext ((Ext.refl w5).alloc (.cells #[.int .i64 Y1, .int .i64 Y2] 25))
  replace hC := hC.ext ((Ext.refl w5).alloc (.cells #[.int .i64 Y1, .int .i64 Y2] 25))
  replace hE := hE.ext ((Ext.refl w5).alloc (.cells #[.int .i64 Y1, .int .i64 Y2] 25))
  replace hF := hF.ext ((Ext.refl w5).alloc (.cells #[.int .i64 Y1, .int .i64 Y2] 25))
  replace hD := decs_ext hD ((Ext.refl w5).alloc (.cells #[.int .i64 Y1, .int .i64 Y2] 25))
  replace hx := hx.alloc (.cells #[.int .i64 Y1, .int .i64 Y2] 25)
  have hG : DecIn w5.heap.size Y1 Y2 (w5.alloc (.cells #[.int .i64 Y1, .int .i64 Y2] 25)) := heap_last _ _
  generalize w5.alloc (.cells #[.int .i64 Y1, .int .i64 Y2] 25) = W5 at *
  generalize w5.heap.size = bG at *
  (with_reducible refine (C5 _).mono ?_)
  rintro e w6 ⟨rfl, xx⟩
  replace hA := hA.ext xx
  replace hB := hB.ext xx
  replace hC := hC.ext xx
  replace hE := hE.ext xx
  replace hF := hF.ext xx
  replace hG := hG.ext xx
  replace hD := decs_ext hD xx
  replace hx := hx.trans xx
  clear xx
  obtain ⟨chA0, chA1⟩ := hA.cells
  have lhA := (Array.getElem?_eq_some_iff.1 hA).1
  obtain ⟨chB0, chB1⟩ := hB.cells
  have lhB := (Array.getElem?_eq_some_iff.1 hB).1
  go_wp2_with fail
  clear chA0 chA1 lhA chB0 chB1 lhB
  replace hA := hA.ext ((Ext.refl w6).alloc (.cells #[.int .i64 Z1, .int .i64 Z2] 25))
  replace hB := hB.ext ((Ext.refl w6).alloc (.cells #[.int .i64 Z1, .int .i64 Z2] 25))
  replace hC := hC.ext ((Ext.refl w6).alloc (.cells #[.int .i64 Z1, .int .i64 Z2] 25))
  replace hE := hE.ext ((Ext.refl w6).alloc (.cells #[.int .i64 Z1, .int .i64 Z2] 25))
  replace hF := hF.ext ((Ext.refl w6).alloc (.cells #[.int .i64 Z1, .int .i64 Z2] 25))
  replace hG := hG.ext ((Ext.refl w6).alloc (.cells #[.int .i64 Z1, .int .i64 Z2] 25))
  replace hD := decs_ext hD ((Ext.refl w6).alloc (.cells #[.int .i64 Z1, .int .i64 Z2] 25))
  replace hx := hx.alloc (.cells #[.int .i64 Z1, .int .i64 Z2] 25)
  have hH : DecIn w6.heap.size Z1 Z2 (w6.alloc (.cells #[.int .i64 Z1, .int .i64 Z2] 25)) := heap_last _ _
  generalize w6.alloc (.cells #[.int .i64 Z1, .int .i64 Z2] 25) = W6 at *
  generalize w6.heap.size = bH at *
  (with_reducible refine (C6 _).mono ?_)
  rintro e w7 ⟨rfl, xx⟩
  replace hA := hA.ext xx
  replace hB := hB.ext xx
  replace hC := hC.ext xx
  replace hE := hE.ext xx
  replace hF := hF.ext xx
  replace hG := hG.ext xx
  replace hH := hH.ext xx
  replace hD := decs_ext hD xx
  replace hx := hx.trans xx
  clear xx
  obtain ⟨chA0, chA1⟩ := hA.cells
  have lhA := (Array.getElem?_eq_some_iff.1 hA).1
  obtain ⟨chB0, chB1⟩ := hB.cells
  have lhB := (Array.getElem?_eq_some_iff.1 hB).1
  go_wp2_with fail
  clear chA0 chA1 lhA chB0 chB1 lhB
  replace hA := hA.ext ((Ext.refl w7).alloc (.cells #[.int .i64 Z1, .int .i64 Z2] 25))
  replace hB := hB.ext ((Ext.refl w7).alloc (.cells #[.int .i64 Z1, .int .i64 Z2] 25))
  replace hC := hC.ext ((Ext.refl w7).alloc (.cells #[.int .i64 Z1, .int .i64 Z2] 25))
  replace hE := hE.ext ((Ext.refl w7).alloc (.cells #[.int .i64 Z1, .int .i64 Z2] 25))
  replace hF := hF.ext ((Ext.refl w7).alloc (.cells #[.int .i64 Z1, .int .i64 Z2] 25))
  replace hG := hG.ext ((Ext.refl w7).alloc (.cells #[.int .i64 Z1, .int .i64 Z2] 25))
  replace hH := hH.ext ((Ext.refl w7).alloc (.cells #[.int .i64 Z1, .int .i64 Z2] 25))
  replace hD := decs_ext hD ((Ext.refl w7).alloc (.cells #[.int .i64 Z1, .int .i64 Z2] 25))
  replace hx := hx.alloc (.cells #[.int .i64 Z1, .int .i64 Z2] 25)
  have hI : DecIn w7.heap.size Z1 Z2 (w7.alloc (.cells #[.int .i64 Z1, .int .i64 Z2] 25)) := heap_last _ _
  generalize w7.alloc (.cells #[.int .i64 Z1, .int .i64 Z2] 25) = W7 at *
  generalize w7.heap.size = bI at *
  clear CA CB C3 C4 C5 C6
  (with_reducible refine (C7 _).mono ?_)
  rintro e w8 ⟨rfl, xx⟩
  replace hA := hA.ext xx
  replace hB := hB.ext xx
  replace hC := hC.ext xx
  replace hE := hE.ext xx
  replace hF := hF.ext xx
  replace hG := hG.ext xx
  replace hH := hH.ext xx
  replace hI := hI.ext xx
  replace hD := decs_ext hD xx
  replace hx := hx.trans xx
  clear xx
  obtain ⟨chA0, chA1⟩ := hA.cells
  have lhA := (Array.getElem?_eq_some_iff.1 hA).1
  obtain ⟨chB0, chB1⟩ := hB.cells
  have lhB := (Array.getElem?_eq_some_iff.1 hB).1
  go_wp2_with fail
  clear chA0 chA1 lhA chB0 chB1 lhB
  (with_reducible refine (C8 _).mono ?_)
  rintro e w9 ⟨rfl, xx⟩
  replace hA := hA.ext xx
  replace hB := hB.ext xx
  replace hC := hC.ext xx
  replace hE := hE.ext xx
  replace hF := hF.ext xx
  replace hG := hG.ext xx
  replace hH := hH.ext xx
  replace hI := hI.ext xx
  replace hD := decs_ext hD xx
  replace hx := hx.trans xx
  clear xx
  obtain ⟨chA0, chA1⟩ := hA.cells
  have lhA := (Array.getElem?_eq_some_iff.1 hA).1
  obtain ⟨chB0, chB1⟩ := hB.cells
  have lhB := (Array.getElem?_eq_some_iff.1 hB).1
  go_wp2_with fail
  clear chA0 chA1 lhA chB0 chB1 lhB
  (with_reducible refine (C9 _ ?hk _).mono ?_)
  case hk => exact wrapI _
  rintro e w10 ⟨rfl, xx⟩
  replace hA := hA.ext xx
  replace hB := hB.ext xx
  replace hC := hC.ext xx
  replace hE := hE.ext xx
  replace hF := hF.ext xx
  replace hG := hG.ext xx
  replace hH := hH.ext xx
  replace hI := hI.ext xx
  replace hD := decs_ext hD xx
  replace hx := hx.trans xx
  clear xx
  obtain ⟨chA0, chA1⟩ := hA.cells
  have lhA := (Array.getElem?_eq_some_iff.1 hA).1
  obtain ⟨chB0, chB1⟩ := hB.cells
  have lhB := (Array.getElem?_eq_some_iff.1 hB).1
  go_wp2_with fail
  clear chA0 chA1 lhA chB0 chB1 lhB
  (with_reducible refine (C10 _ ?hk _).mono ?_)
  case hk => exact wrapI _
  rintro e w11 ⟨rfl, xx⟩
  replace hA := hA.ext xx
  replace hB := hB.ext xx
  replace hC := hC.ext xx
  replace hE := hE.ext xx
  replace hF := hF.ext xx
  replace hG := hG.ext xx
  replace hH := hH.ext xx
  replace hI := hI.ext xx
  replace hD := decs_ext hD xx
  replace hx := hx.trans xx
  clear xx
  obtain ⟨chA0, chA1⟩ := hA.cells
  have lhA := (Array.getElem?_eq_some_iff.1 hA).1
  obtain ⟨chB0, chB1⟩ := hB.cells
  have lhB := (Array.getElem?_eq_some_iff.1 hB).1
  go_wp2_with fail
  clear C7 C8 C9 C10
  clear chA0 chA1 lhA chB0 chB1 lhB
  have hP1 : Eight w bA bB bC bE bF bG bH bI A s B t X1 X2 Y1 Y2 Z1 Z2 w11 := ⟨hx, hA, hB, hC, hE, hF, hG, hH, hI⟩
  have hP : Eight w bA bB bC bE bF bG bH bI A s B t X1 X2 Y1 Y2 Z1 Z2 w11.drew := hP1.ext (Ext.refl w11).drew
  have HC := hP1.cells
  have F1 := fun w0 (h : Eight w bA bB bC bE bF bG bH bI A s B t X1 X2 Y1 Y2 Z1 Z2 w0) => eight_keep h (C11 w0)
  have F2 := fun w0 (h : Eight w bA bB bC bE bF bG bH bI A s B t X1 X2 Y1 Y2 Z1 Z2 w0) => eight_keep h (C12 w0)
  have F3 := fun w0 (h : Eight w bA bB bC bE bF bG bH bI A s B t X1 X2 Y1 Y2 Z1 Z2 w0) => eight_keep h (C13 w0)
  have F4 := fun w0 (h : Eight w bA bB bC bE bF bG bH bI A s B t X1 X2 Y1 Y2 Z1 Z2 w0) => eight_keep h (C14 w0)
  clear C11 C12 C13 C14 hA hB hC hE hF hG hH hI hD
  dsimp only [List.append]
  go_region_held3 (fun w' => w'.cell? ⟨bA, 0, none⟩ = some (.int .i64 A) ∧ w'.cell? ⟨bA, 1, none⟩ = some (.int .i64 s) ∧ w'.cell? ⟨bB, 0, none⟩ = some (.int .i64 B) ∧ w'.cell? ⟨bB, 1, none⟩ = some (.int .i64 t) ∧ w'.cell? ⟨bC, 0, none⟩ = some (.int .i64 X1) ∧ w'.cell? ⟨bC, 1, none⟩ = some (.int .i64 X2) ∧ w'.cell? ⟨bE, 0, none⟩ = some (.int .i64 X1) ∧ w'.cell? ⟨bE, 1, none⟩ = some (.int .i64 X2) ∧ w'.cell? ⟨bF, 0, none⟩ = some (.int .i64 Y1) ∧ w'.cell? ⟨bF, 1, none⟩ = some (.int .i64 Y2) ∧ w'.cell? ⟨bG, 0, none⟩ = some (.int .i64 Y1) ∧ w'.cell? ⟨bG, 1, none⟩ = some (.int .i64 Y2) ∧ w'.cell? ⟨bH, 0, none⟩ = some (.int .i64 Z1) ∧ w'.cell? ⟨bH, 1, none⟩ = some (.int .i64 Z2) ∧ w'.cell? ⟨bI, 0, none⟩ = some (.int .i64 Z1) ∧ w'.cell? ⟨bI, 1, none⟩ = some (.int .i64 Z2)) (first | exact HC | go_keep) (first
    | (go_at_call 17; (with_reducible refine (F1 _ ?h).mono ?_); (case h => first | exact H | exact hP); rintro e wy ⟨rfl, H, HC⟩)
    | (go_at_call 18; (with_reducible refine (F2 _ ?h).mono ?_); (case h => first | exact H | exact hP); rintro e wy ⟨rfl, H, HC⟩)
    | (go_at_call 19; (with_reducible refine (F3 _ ?h).mono ?_); (case h => first | exact H | exact hP); rintro e wy ⟨rfl, H, HC⟩)
    | (go_at_call 20; (with_reducible refine (F4 _ ?h).mono ?_); (case h => first | exact H | exact hP); rintro e wy ⟨rfl, H, HC⟩))
  all_goals
    go_wp2_with fail
    go_ret
    exact ⟨rfl, H.1⟩

end Go.Proofs.Ythfihlapgoglaaa
