/- Points: how two compare: the walk. -/
import Derived.Test.YtbkhdjbhijmghaaPtB
import Derived.Test.YtbkhdjbhijmghaaRegCalls
namespace Go.Proofs.Ytbkhdjbhijmghaa
open Go.RowKit

/-- A point's value. -/
def ptV (v : Value) (r : Int) (f : Bool) (M S m s : Int) (t : Bool) (T : Int) : Value := .agg #[v, .int .i64 r, .bool f, .int .i64 M, .int .i64 S, .int .i64 m, .int .i64 s, .bool t, .int .i64 T]
/-- A point in memory, in block b. -/
def PtIn (b : Nat) (v : Value) (r : Int) (f : Bool) (M S m s : Int) (t : Bool) (T : Int) (w : World) : Prop := w.heap[b]? = some (.cells #[v, .int .i64 r, .bool f, .int .i64 M, .int .i64 S, .int .i64 m, .int .i64 s, .bool t, .int .i64 T] 26 (0, 0))
theorem PtIn.ext {b : Nat} {v : Value} {r : Int} {f : Bool} {M S m s : Int} {t : Bool} {T : Int} {w w' : World} (h : PtIn b v r f M S m s t T w) (hk : Ext w w') : PtIn b v r f M S m s t T w' := (hk.heap (Array.getElem?_eq_some_iff.1 h).1).trans h
theorem PtIn.cells {b : Nat} {v : Value} {r : Int} {f : Bool} {M S m s : Int} {t : Bool} {T : Int} {w : World} (h : PtIn b v r f M S m s t T w) :
    w.cell? ⟨b, 0, none⟩ = some v ∧ w.cell? ⟨b, 1, none⟩ = some (.int .i64 r) ∧ w.cell? ⟨b, 2, none⟩ = some (.bool f) ∧ w.cell? ⟨b, 3, none⟩ = some (.int .i64 M) ∧ w.cell? ⟨b, 4, none⟩ = some (.int .i64 S) ∧ w.cell? ⟨b, 5, none⟩ = some (.int .i64 m) ∧ w.cell? ⟨b, 6, none⟩ = some (.int .i64 s) ∧ w.cell? ⟨b, 7, none⟩ = some (.bool t) ∧ w.cell? ⟨b, 8, none⟩ = some (.int .i64 T) := by
  refine ⟨?_, ?_, ?_, ?_, ?_, ?_, ?_, ?_, ?_⟩ <;> (rw [Lib.cell_of_heap h]; rfl)
/-- Two points in memory; what was there stands. -/
def Pts (w : World) (b1 b2 : Nat) (v1 v2 : Value) (r1 : Int) (f1 : Bool) (M1 S1 m1 s1 : Int) (t1 : Bool) (T1 : Int) (r2 : Int) (f2 : Bool) (M2 S2 m2 s2 : Int) (t2 : Bool) (T2 : Int) (W : World) : Prop := Ext w W ∧ PtIn b1 v1 r1 f1 M1 S1 m1 s1 t1 T1 W ∧ PtIn b2 v2 r2 f2 M2 S2 m2 s2 t2 T2 W
theorem Pts.ext {w : World} {b1 b2 : Nat} {v1 v2 : Value} {r1 : Int} {f1 : Bool} {M1 S1 m1 s1 : Int} {t1 : Bool} {T1 : Int} {r2 : Int} {f2 : Bool} {M2 S2 m2 s2 : Int} {t2 : Bool} {T2 : Int} {W W' : World} (h : Pts w b1 b2 v1 v2 r1 f1 M1 S1 m1 s1 t1 T1 r2 f2 M2 S2 m2 s2 t2 T2 W) (x : Ext W W') : Pts w b1 b2 v1 v2 r1 f1 M1 S1 m1 s1 t1 T1 r2 f2 M2 S2 m2 s2 t2 T2 W' := ⟨h.1.trans x, h.2.1.ext x, h.2.2.ext x⟩
theorem six {α : Type} (l : List α) (h : l.length = 6) : ∃ a b c d e f, l = [a, b, c, d, e, f] := by
  match l, h with
  | [a, b, c, d, e, f], _ => exact ⟨a, b, c, d, e, f, rfl⟩
/-- How two points compare. -/
def cmpP (l1 : List (ByteArray × ByteArray)) (r1 : Int) (f1 : Bool) (M1 S1 : Int) (t1 : Bool) (T1 : Int) (l2 : List (ByteArray × ByteArray)) (r2 : Int) (f2 : Bool) (M2 S2 : Int) (t2 : Bool) (T2 : Int) : Int :=
  orL [cmpLs l1 l2, cmpB t1 t2, cmpI T1 T2, cmpI r1 r2, cmpB f1 f2, cmpD (cM M1 S1) (cS M1 S1) (cM M2 S2) (cS M2 S2)]

set_option maxHeartbeats 40000000 in
set_option maxRecDepth 100000 in
theorem ptCompare_any (a1 a2 : Option Addr) (c1 c2 : Nat) (l1 l2 : List (ByteArray × ByteArray)) (r1 : Int) (f1 : Bool) (M1 S1 m1 s1 : Int) (t1 : Bool) (T1 : Int) (r2 : Int) (f2 : Bool) (M2 S2 m2 s2 : Int) (t2 : Bool) (T2 : Int) (w : World)
    (n1 : (l1.length : Int) ≤ 9223372036854775807) (n2 : (l2.length : Int) ≤ 9223372036854775807) (h1 : LabA a1 l1 w) (h2 : LabA a2 l2 w) (i1 : I64 M1) (j1 : I64 S1) (i2 : I64 M2) (j2 : I64 S2) :
    Calls Try.prog 7 #[ptV (.slice a1 l1.length c1) r1 f1 M1 S1 m1 s1 t1 T1, ptV (.slice a2 l2.length c2) r2 f2 M2 S2 m2 s2 t2 T2] w fun e w' => e = .returned (.int .i64 (cmpP l1 r1 f1 M1 S1 t1 T1 l2 r2 f2 M2 S2 t2 T2)) ∧ Ext w w' := by
  have K1 := fun W (x : Ext w W) => labCompare_any a1 a2 c1 c2 l1 l2 W n1 n2 (h1.ext x) (h2.ext x)
  have K2 := fun W => bools_any t1 t2 W
  have K3 := fun W => cmpInt64_any T1 T2 W
  have K4 := fun W => cmpInt_any r1 r2 W
  have K5 := fun W => bools_any f1 f2 W
  have K6 := fun W => Compare_any M1 S1 M2 S2 W i1 j1 i2 j2
  have O : ∀ (b : Nat) (W : World), IntsAt b 0 [cmpLs l1 l2, cmpB t1 t2, cmpI T1 T2, cmpI r1 r2, cmpB f1 f2, cmpD (cM M1 S1) (cS M1 S1) (cM M2 S2) (cS M2 S2)] W → Calls Try.prog 12 #[.slice (some ⟨b, 0, none⟩) 6 6] W fun e w' => e = .returned (.int .i64 (cmpP l1 r1 f1 M1 S1 t1 T1 l2 r2 f2 M2 S2 t2 T2)) ∧ Ext W w' := fun b W h => Or_any b 0 6 [cmpLs l1 l2, cmpB t1 t2, cmpI T1 T2, cmpI r1 r2, cmpB f1 f2, cmpD (cM M1 S1) (cS M1 S1) (cM M2 S2) (cS M2 S2)] W (by simp) h
  generalize cmpP l1 r1 f1 M1 S1 t1 T1 l2 r2 f2 M2 S2 t2 T2 = R at *
  generalize cmpLs l1 l2 = X0 at *
  generalize cmpB t1 t2 = X1 at *
  generalize cmpI T1 T2 = X2 at *
  generalize cmpI r1 r2 = X3 at *
  generalize cmpB f1 f2 = X4 at *
  generalize cmpD (cM M1 S1) (cS M1 S1) (cM M2 S2) (cS M2 S2) = X5 at *
  obtain ⟨v1, hv1⟩ : ∃ v, Value.slice a1 l1.length c1 = v := ⟨_, rfl⟩
  obtain ⟨v2, hv2⟩ : ∃ v, Value.slice a2 l2.length c2 = v := ⟨_, rfl⟩
  rw [hv1, hv2] at K1
  rw [hv1, hv2]
  unfold decV at K6
  unfold ptV
  clear hv1 hv2 h1 h2 n1 n2 i1 j1 i2 j2
  have hx : Ext w ((w.alloc (.cells #[v1, .int .i64 r1, .bool f1, .int .i64 M1, .int .i64 S1, .int .i64 m1, .int .i64 s1, .bool t1, .int .i64 T1] 26)).alloc (.cells #[v2, .int .i64 r2, .bool f2, .int .i64 M2, .int .i64 S2, .int .i64 m2, .int .i64 s2, .bool t2, .int .i64 T2] 26)) := ((Ext.refl _).alloc _).alloc _
  have g1 : PtIn w.heap.size v1 r1 f1 M1 S1 m1 s1 t1 T1 ((w.alloc (.cells #[v1, .int .i64 r1, .bool f1, .int .i64 M1, .int .i64 S1, .int .i64 m1, .int .i64 s1, .bool t1, .int .i64 T1] 26)).alloc (.cells #[v2, .int .i64 r2, .bool f2, .int .i64 M2, .int .i64 S2, .int .i64 m2, .int .i64 s2, .bool t2, .int .i64 T2] 26)) := heap_at2a _ _ _
  have g2 : PtIn (w.heap.size + 1) v2 r2 f2 M2 S2 m2 s2 t2 T2 ((w.alloc (.cells #[v1, .int .i64 r1, .bool f1, .int .i64 M1, .int .i64 S1, .int .i64 m1, .int .i64 s1, .bool t1, .int .i64 T1] 26)).alloc (.cells #[v2, .int .i64 r2, .bool f2, .int .i64 M2, .int .i64 S2, .int .i64 m2, .int .i64 s2, .bool t2, .int .i64 T2] 26)) := heap_at2b _ _ _
  go_enter Try.func7, Try.ntmps7
  go_wp2_with fail
  generalize (w.alloc (.cells #[v1, .int .i64 r1, .bool f1, .int .i64 M1, .int .i64 S1, .int .i64 m1, .int .i64 s1, .bool t1, .int .i64 T1] 26)).alloc (.cells #[v2, .int .i64 r2, .bool f2, .int .i64 M2, .int .i64 S2, .int .i64 m2, .int .i64 s2, .bool t2, .int .i64 T2] 26) = W at *
  have hJ0 : Pts w w.heap.size (w.heap.size + 1) v1 v2 r1 f1 M1 S1 m1 s1 t1 T1 r2 f2 M2 S2 m2 s2 t2 T2 W.drew := ⟨hx.drew, g1.ext (Ext.refl _).drew, g2.ext (Ext.refl _).drew⟩
  clear hx g1 g2
  refine wp_region_held_drew (S := Pts w w.heap.size (w.heap.size + 1) v1 v2 r1 f1 M1 S1 m1 s1 t1 T1 r2 f2 M2 S2 m2 s2 t2 T2) (by kernel_rfl) hJ0 (fun hHeld => ?_)
  refine wpAnyH_take (i := 0) (oi := ?oi0) (v := ?v0) ?hi0 (by kernel_rfl) (by kernel_rfl) (by kernel_rfl) ?hQ0 (Or.inl ⟨?hw0, ?hy0⟩) hHeld ?rest0
  case hi0 => simp only [List.getElem?_toArray, List.getElem?_cons_zero]; rfl
  case hQ0 => exact fun _ _ _ h => h
  case hw0 => rfl
  case hy0 => (intro w9 hSw; obtain ⟨k0, k1, k2, k3, k4, k5, k6, k7, k8⟩ := hSw.2.1.cells; obtain ⟨p0, p1, p2, p3, p4, p5, p6, p7, p8⟩ := hSw.2.2.cells; go_simp; (try with_reducible rfl))
  case rest0 =>
  simp only [Act.put, List.setIfInBounds_toArray, List.set_cons_zero, List.set_cons_succ]
  refine wpAnyH_take (i := 1) (oi := ?oi1) (v := ?v1) ?hi1 (by kernel_rfl) (by kernel_rfl) (by kernel_rfl) ?hQ1 (Or.inl ⟨?hw1, ?hy1⟩) hHeld ?rest1
  case hi1 => simp only [List.getElem?_toArray, List.getElem?_cons_succ, List.getElem?_cons_zero]; rfl
  case hQ1 => exact fun _ _ _ h => h
  case hw1 => rfl
  case hy1 => (intro w9 hSw; obtain ⟨k0, k1, k2, k3, k4, k5, k6, k7, k8⟩ := hSw.2.1.cells; obtain ⟨p0, p1, p2, p3, p4, p5, p6, p7, p8⟩ := hSw.2.2.cells; go_simp; (try with_reducible rfl))
  case rest1 =>
  simp only [Act.put, List.setIfInBounds_toArray, List.set_cons_zero, List.set_cons_succ]
  refine wpAnyH_take (i := 2) (oi := ?oi2) (v := ?v2) ?hi2 (by kernel_rfl) (by kernel_rfl) (by kernel_rfl) ?hQ2 (Or.inl ⟨?hw2, ?hy2⟩) hHeld ?rest2
  case hi2 => simp only [List.getElem?_toArray, List.getElem?_cons_succ, List.getElem?_cons_zero]; rfl
  case hQ2 => exact fun _ _ _ h => h
  case hw2 => rfl
  case hy2 => (intro w9 hSw; obtain ⟨k0, k1, k2, k3, k4, k5, k6, k7, k8⟩ := hSw.2.1.cells; obtain ⟨p0, p1, p2, p3, p4, p5, p6, p7, p8⟩ := hSw.2.2.cells; go_simp; (try with_reducible rfl))
  case rest2 =>
  simp only [Act.put, List.setIfInBounds_toArray, List.set_cons_zero, List.set_cons_succ]
  refine wpAnyH_take (i := 3) (oi := ?oi3) (v := ?v3) ?hi3 (by kernel_rfl) (by kernel_rfl) (by kernel_rfl) ?hQ3 (Or.inl ⟨?hw3, ?hy3⟩) hHeld ?rest3
  case hi3 => simp only [List.getElem?_toArray, List.getElem?_cons_succ, List.getElem?_cons_zero]; rfl
  case hQ3 => exact fun _ _ _ h => h
  case hw3 => rfl
  case hy3 => (intro w9 hSw; obtain ⟨k0, k1, k2, k3, k4, k5, k6, k7, k8⟩ := hSw.2.1.cells; obtain ⟨p0, p1, p2, p3, p4, p5, p6, p7, p8⟩ := hSw.2.2.cells; go_simp; (try with_reducible rfl))
  case rest3 =>
  simp only [Act.put, List.setIfInBounds_toArray, List.set_cons_zero, List.set_cons_succ]
  refine wpAnyH_take (i := 5) (oi := ?oi5) (v := ?v5) ?hi5 (by kernel_rfl) (by kernel_rfl) (by kernel_rfl) ?hQ5 (Or.inl ⟨?hw5, ?hy5⟩) hHeld ?rest5
  case hi5 => simp only [List.getElem?_toArray, List.getElem?_cons_succ, List.getElem?_cons_zero]; rfl
  case hQ5 => exact fun _ _ _ h => h
  case hw5 => rfl
  case hy5 => (intro w9 hSw; obtain ⟨k0, k1, k2, k3, k4, k5, k6, k7, k8⟩ := hSw.2.1.cells; obtain ⟨p0, p1, p2, p3, p4, p5, p6, p7, p8⟩ := hSw.2.2.cells; go_simp; (try with_reducible rfl))
  case rest5 =>
  simp only [Act.put, List.setIfInBounds_toArray, List.set_cons_zero, List.set_cons_succ]
  refine wpAnyH_take (i := 6) (oi := ?oi6) (v := ?v6) ?hi6 (by kernel_rfl) (by kernel_rfl) (by kernel_rfl) ?hQ6 (Or.inl ⟨?hw6, ?hy6⟩) hHeld ?rest6
  case hi6 => simp only [List.getElem?_toArray, List.getElem?_cons_succ, List.getElem?_cons_zero]; rfl
  case hQ6 => exact fun _ _ _ h => h
  case hw6 => rfl
  case hy6 => (intro w9 hSw; obtain ⟨k0, k1, k2, k3, k4, k5, k6, k7, k8⟩ := hSw.2.1.cells; obtain ⟨p0, p1, p2, p3, p4, p5, p6, p7, p8⟩ := hSw.2.2.cells; go_simp; (try with_reducible rfl))
  case rest6 =>
  simp only [Act.put, List.setIfInBounds_toArray, List.set_cons_zero, List.set_cons_succ]
  refine wpAnyH_take (i := 7) (oi := ?oi7) (v := ?v7) ?hi7 (by kernel_rfl) (by kernel_rfl) (by kernel_rfl) ?hQ7 (Or.inl ⟨?hw7, ?hy7⟩) hHeld ?rest7
  case hi7 => simp only [List.getElem?_toArray, List.getElem?_cons_succ, List.getElem?_cons_zero]; rfl
  case hQ7 => exact fun _ _ _ h => h
  case hw7 => rfl
  case hy7 => (intro w9 hSw; obtain ⟨k0, k1, k2, k3, k4, k5, k6, k7, k8⟩ := hSw.2.1.cells; obtain ⟨p0, p1, p2, p3, p4, p5, p6, p7, p8⟩ := hSw.2.2.cells; go_simp; (try with_reducible rfl))
  case rest7 =>
  simp only [Act.put, List.setIfInBounds_toArray, List.set_cons_zero, List.set_cons_succ]
  refine wpAnyH_take (i := 8) (oi := ?oi8) (v := ?v8) ?hi8 (by kernel_rfl) (by kernel_rfl) (by kernel_rfl) ?hQ8 (Or.inl ⟨?hw8, ?hy8⟩) hHeld ?rest8
  case hi8 => simp only [List.getElem?_toArray, List.getElem?_cons_succ, List.getElem?_cons_zero]; rfl
  case hQ8 => exact fun _ _ _ h => h
  case hw8 => rfl
  case hy8 => (intro w9 hSw; obtain ⟨k0, k1, k2, k3, k4, k5, k6, k7, k8⟩ := hSw.2.1.cells; obtain ⟨p0, p1, p2, p3, p4, p5, p6, p7, p8⟩ := hSw.2.2.cells; go_simp; (try with_reducible rfl))
  case rest8 =>
  simp only [Act.put, List.setIfInBounds_toArray, List.set_cons_zero, List.set_cons_succ]
  refine wpAnyH_take (i := 10) (oi := ?oi10) (v := ?v10) ?hi10 (by kernel_rfl) (by kernel_rfl) (by kernel_rfl) ?hQ10 (Or.inl ⟨?hw10, ?hy10⟩) hHeld ?rest10
  case hi10 => simp only [List.getElem?_toArray, List.getElem?_cons_succ, List.getElem?_cons_zero]; rfl
  case hQ10 => exact fun _ _ _ h => h
  case hw10 => rfl
  case hy10 => (intro w9 hSw; obtain ⟨k0, k1, k2, k3, k4, k5, k6, k7, k8⟩ := hSw.2.1.cells; obtain ⟨p0, p1, p2, p3, p4, p5, p6, p7, p8⟩ := hSw.2.2.cells; go_simp; (try with_reducible rfl))
  case rest10 =>
  simp only [Act.put, List.setIfInBounds_toArray, List.set_cons_zero, List.set_cons_succ]
  refine wpAnyH_take (i := 11) (oi := ?oi11) (v := ?v11) ?hi11 (by kernel_rfl) (by kernel_rfl) (by kernel_rfl) ?hQ11 (Or.inl ⟨?hw11, ?hy11⟩) hHeld ?rest11
  case hi11 => simp only [List.getElem?_toArray, List.getElem?_cons_succ, List.getElem?_cons_zero]; rfl
  case hQ11 => exact fun _ _ _ h => h
  case hw11 => rfl
  case hy11 => (intro w9 hSw; obtain ⟨k0, k1, k2, k3, k4, k5, k6, k7, k8⟩ := hSw.2.1.cells; obtain ⟨p0, p1, p2, p3, p4, p5, p6, p7, p8⟩ := hSw.2.2.cells; go_simp; (try with_reducible rfl))
  case rest11 =>
  simp only [Act.put, List.setIfInBounds_toArray, List.set_cons_zero, List.set_cons_succ]
  refine wpAnyH_take (i := 12) (oi := ?oi12) (v := ?v12) ?hi12 (by kernel_rfl) (by kernel_rfl) (by kernel_rfl) ?hQ12 (Or.inl ⟨?hw12, ?hy12⟩) hHeld ?rest12
  case hi12 => simp only [List.getElem?_toArray, List.getElem?_cons_succ, List.getElem?_cons_zero]; rfl
  case hQ12 => exact fun _ _ _ h => h
  case hw12 => rfl
  case hy12 => (intro w9 hSw; obtain ⟨k0, k1, k2, k3, k4, k5, k6, k7, k8⟩ := hSw.2.1.cells; obtain ⟨p0, p1, p2, p3, p4, p5, p6, p7, p8⟩ := hSw.2.2.cells; go_simp; (try with_reducible rfl))
  case rest12 =>
  simp only [Act.put, List.setIfInBounds_toArray, List.set_cons_zero, List.set_cons_succ]
  refine wpAnyH_take (i := 13) (oi := ?oi13) (v := ?v13) ?hi13 (by kernel_rfl) (by kernel_rfl) (by kernel_rfl) ?hQ13 (Or.inl ⟨?hw13, ?hy13⟩) hHeld ?rest13
  case hi13 => simp only [List.getElem?_toArray, List.getElem?_cons_succ, List.getElem?_cons_zero]; rfl
  case hQ13 => exact fun _ _ _ h => h
  case hw13 => rfl
  case hy13 => (intro w9 hSw; obtain ⟨k0, k1, k2, k3, k4, k5, k6, k7, k8⟩ := hSw.2.1.cells; obtain ⟨p0, p1, p2, p3, p4, p5, p6, p7, p8⟩ := hSw.2.2.cells; go_simp; (try with_reducible rfl))
  case rest13 =>
  simp only [Act.put, List.setIfInBounds_toArray, List.set_cons_zero, List.set_cons_succ]
  refine wpAnyH_take (i := 15) (oi := ?oi15) (v := ?v15) ?hi15 (by kernel_rfl) (by kernel_rfl) (by kernel_rfl) ?hQ15 (Or.inl ⟨?hw15, ?hy15⟩) hHeld ?rest15
  case hi15 => simp only [List.getElem?_toArray, List.getElem?_cons_succ, List.getElem?_cons_zero]; rfl
  case hQ15 => exact fun _ _ _ h => h
  case hw15 => rfl
  case hy15 => (intro w9 hSw; obtain ⟨k0, k1, k2, k3, k4, k5, k6, k7, k8⟩ := hSw.2.1.cells; obtain ⟨p0, p1, p2, p3, p4, p5, p6, p7, p8⟩ := hSw.2.2.cells; go_simp; (try with_reducible rfl))
  case rest15 =>
  simp only [Act.put, List.setIfInBounds_toArray, List.set_cons_zero, List.set_cons_succ]
  refine wpAnyH_take (i := 16) (oi := ?oi16) (v := ?v16) ?hi16 (by kernel_rfl) (by kernel_rfl) (by kernel_rfl) ?hQ16 (Or.inl ⟨?hw16, ?hy16⟩) hHeld ?rest16
  case hi16 => simp only [List.getElem?_toArray, List.getElem?_cons_succ, List.getElem?_cons_zero]; rfl
  case hQ16 => exact fun _ _ _ h => h
  case hw16 => rfl
  case hy16 => (intro w9 hSw; obtain ⟨k0, k1, k2, k3, k4, k5, k6, k7, k8⟩ := hSw.2.1.cells; obtain ⟨p0, p1, p2, p3, p4, p5, p6, p7, p8⟩ := hSw.2.2.cells; go_simp; (try with_reducible rfl))
  case rest16 =>
  simp only [Act.put, List.setIfInBounds_toArray, List.set_cons_zero, List.set_cons_succ]
  refine wpAnyH_take (i := 17) (oi := ?oi17) (v := ?v17) ?hi17 (by kernel_rfl) (by kernel_rfl) (by kernel_rfl) ?hQ17 (Or.inl ⟨?hw17, ?hy17⟩) hHeld ?rest17
  case hi17 => simp only [List.getElem?_toArray, List.getElem?_cons_succ, List.getElem?_cons_zero]; rfl
  case hQ17 => exact fun _ _ _ h => h
  case hw17 => rfl
  case hy17 => (intro w9 hSw; obtain ⟨k0, k1, k2, k3, k4, k5, k6, k7, k8⟩ := hSw.2.1.cells; obtain ⟨p0, p1, p2, p3, p4, p5, p6, p7, p8⟩ := hSw.2.2.cells; go_simp; (try with_reducible rfl))
  case rest17 =>
  simp only [Act.put, List.setIfInBounds_toArray, List.set_cons_zero, List.set_cons_succ]
  refine wpAnyH_take (i := 18) (oi := ?oi18) (v := ?v18) ?hi18 (by kernel_rfl) (by kernel_rfl) (by kernel_rfl) ?hQ18 (Or.inl ⟨?hw18, ?hy18⟩) hHeld ?rest18
  case hi18 => simp only [List.getElem?_toArray, List.getElem?_cons_succ, List.getElem?_cons_zero]; rfl
  case hQ18 => exact fun _ _ _ h => h
  case hw18 => rfl
  case hy18 => (intro w9 hSw; obtain ⟨k0, k1, k2, k3, k4, k5, k6, k7, k8⟩ := hSw.2.1.cells; obtain ⟨p0, p1, p2, p3, p4, p5, p6, p7, p8⟩ := hSw.2.2.cells; go_simp; (try with_reducible rfl))
  case rest18 =>
  simp only [Act.put, List.setIfInBounds_toArray, List.set_cons_zero, List.set_cons_succ]
  refine wpAnyH_take (i := 20) (oi := ?oi20) (v := ?v20) ?hi20 (by kernel_rfl) (by kernel_rfl) (by kernel_rfl) ?hQ20 (Or.inl ⟨?hw20, ?hy20⟩) hHeld ?rest20
  case hi20 => simp only [List.getElem?_toArray, List.getElem?_cons_succ, List.getElem?_cons_zero]; rfl
  case hQ20 => exact fun _ _ _ h => h
  case hw20 => rfl
  case hy20 => (intro w9 hSw; obtain ⟨k0, k1, k2, k3, k4, k5, k6, k7, k8⟩ := hSw.2.1.cells; obtain ⟨p0, p1, p2, p3, p4, p5, p6, p7, p8⟩ := hSw.2.2.cells; go_simp; (try with_reducible rfl))
  case rest20 =>
  simp only [Act.put, List.setIfInBounds_toArray, List.set_cons_zero, List.set_cons_succ]
  refine wpAnyH_take (i := 21) (oi := ?oi21) (v := ?v21) ?hi21 (by kernel_rfl) (by kernel_rfl) (by kernel_rfl) ?hQ21 (Or.inl ⟨?hw21, ?hy21⟩) hHeld ?rest21
  case hi21 => simp only [List.getElem?_toArray, List.getElem?_cons_succ, List.getElem?_cons_zero]; rfl
  case hQ21 => exact fun _ _ _ h => h
  case hw21 => rfl
  case hy21 => (intro w9 hSw; obtain ⟨k0, k1, k2, k3, k4, k5, k6, k7, k8⟩ := hSw.2.1.cells; obtain ⟨p0, p1, p2, p3, p4, p5, p6, p7, p8⟩ := hSw.2.2.cells; go_simp; (try with_reducible rfl))
  case rest21 =>
  simp only [Act.put, List.setIfInBounds_toArray, List.set_cons_zero, List.set_cons_succ]
  refine wpAnyH_take (i := 22) (oi := ?oi22) (v := ?v22) ?hi22 (by kernel_rfl) (by kernel_rfl) (by kernel_rfl) ?hQ22 (Or.inl ⟨?hw22, ?hy22⟩) hHeld ?rest22
  case hi22 => simp only [List.getElem?_toArray, List.getElem?_cons_succ, List.getElem?_cons_zero]; rfl
  case hQ22 => exact fun _ _ _ h => h
  case hw22 => rfl
  case hy22 => (intro w9 hSw; obtain ⟨k0, k1, k2, k3, k4, k5, k6, k7, k8⟩ := hSw.2.1.cells; obtain ⟨p0, p1, p2, p3, p4, p5, p6, p7, p8⟩ := hSw.2.2.cells; go_simp; (try with_reducible rfl))
  case rest22 =>
  simp only [Act.put, List.setIfInBounds_toArray, List.set_cons_zero, List.set_cons_succ]
  refine wpAnyH_take (i := 23) (oi := ?oi23) (v := ?v23) ?hi23 (by kernel_rfl) (by kernel_rfl) (by kernel_rfl) ?hQ23 (Or.inl ⟨?hw23, ?hy23⟩) hHeld ?rest23
  case hi23 => simp only [List.getElem?_toArray, List.getElem?_cons_succ, List.getElem?_cons_zero]; rfl
  case hQ23 => exact fun _ _ _ h => h
  case hw23 => rfl
  case hy23 => (intro w9 hSw; obtain ⟨k0, k1, k2, k3, k4, k5, k6, k7, k8⟩ := hSw.2.1.cells; obtain ⟨p0, p1, p2, p3, p4, p5, p6, p7, p8⟩ := hSw.2.2.cells; go_simp; (try with_reducible rfl))
  case rest23 =>
  simp only [Act.put, List.setIfInBounds_toArray, List.set_cons_zero, List.set_cons_succ]
  refine wpAnyH_take (i := 25) (oi := ?oi25) (v := ?v25) ?hi25 (by kernel_rfl) (by kernel_rfl) (by kernel_rfl) ?hQ25 (Or.inl ⟨?hw25, ?hy25⟩) hHeld ?rest25
  case hi25 => simp only [List.getElem?_toArray, List.getElem?_cons_succ, List.getElem?_cons_zero]; rfl
  case hQ25 => exact fun _ _ _ h => h
  case hw25 => rfl
  case hy25 => (intro w9 hSw; obtain ⟨k0, k1, k2, k3, k4, k5, k6, k7, k8⟩ := hSw.2.1.cells; obtain ⟨p0, p1, p2, p3, p4, p5, p6, p7, p8⟩ := hSw.2.2.cells; go_simp; (try with_reducible rfl))
  case rest25 =>
  simp only [Act.put, List.setIfInBounds_toArray, List.set_cons_zero, List.set_cons_succ]
  refine wpAnyH_take (i := 26) (oi := ?oi26) (v := ?v26) ?hi26 (by kernel_rfl) (by kernel_rfl) (by kernel_rfl) ?hQ26 (Or.inl ⟨?hw26, ?hy26⟩) hHeld ?rest26
  case hi26 => simp only [List.getElem?_toArray, List.getElem?_cons_succ, List.getElem?_cons_zero]; rfl
  case hQ26 => exact fun _ _ _ h => h
  case hw26 => rfl
  case hy26 => (intro w9 hSw; obtain ⟨k0, k1, k2, k3, k4, k5, k6, k7, k8⟩ := hSw.2.1.cells; obtain ⟨p0, p1, p2, p3, p4, p5, p6, p7, p8⟩ := hSw.2.2.cells; go_simp; (try with_reducible rfl))
  case rest26 =>
  simp only [Act.put, List.setIfInBounds_toArray, List.set_cons_zero, List.set_cons_succ]
  refine wpAnyH_take (i := 27) (oi := ?oi27) (v := ?v27) ?hi27 (by kernel_rfl) (by kernel_rfl) (by kernel_rfl) ?hQ27 (Or.inl ⟨?hw27, ?hy27⟩) hHeld ?rest27
  case hi27 => simp only [List.getElem?_toArray, List.getElem?_cons_succ, List.getElem?_cons_zero]; rfl
  case hQ27 => exact fun _ _ _ h => h
  case hw27 => rfl
  case hy27 => (intro w9 hSw; obtain ⟨k0, k1, k2, k3, k4, k5, k6, k7, k8⟩ := hSw.2.1.cells; obtain ⟨p0, p1, p2, p3, p4, p5, p6, p7, p8⟩ := hSw.2.2.cells; go_simp; (try with_reducible rfl))
  case rest27 =>
  simp only [Act.put, List.setIfInBounds_toArray, List.set_cons_zero, List.set_cons_succ]
  refine wpAnyH_take (i := 28) (oi := ?oi28) (v := ?v28) ?hi28 (by kernel_rfl) (by kernel_rfl) (by kernel_rfl) ?hQ28 (Or.inl ⟨?hw28, ?hy28⟩) hHeld ?rest28
  case hi28 => simp only [List.getElem?_toArray, List.getElem?_cons_succ, List.getElem?_cons_zero]; rfl
  case hQ28 => exact fun _ _ _ h => h
  case hw28 => rfl
  case hy28 => (intro w9 hSw; obtain ⟨k0, k1, k2, k3, k4, k5, k6, k7, k8⟩ := hSw.2.1.cells; obtain ⟨p0, p1, p2, p3, p4, p5, p6, p7, p8⟩ := hSw.2.2.cells; go_simp; (try with_reducible rfl))
  case rest28 =>
  simp only [Act.put, List.setIfInBounds_toArray, List.set_cons_zero, List.set_cons_succ]
  refine wpAnyH_calls_at 6 3 [4, 9, 14, 19, 24, 29] [.int .i64 X0, .int .i64 X1, .int .i64 X2, .int .i64 X3, .int .i64 X4, .int .i64 X5] (fun xs => ⟨#[.agg #[v1, .int .i64 r1, .bool f1, .int .i64 M1, .int .i64 S1, .int .i64 m1, .int .i64 s1, .bool t1, .int .i64 T1], .agg #[v2, .int .i64 r2, .bool f2, .int .i64 M2, .int .i64 S2, .int .i64 m2, .int .i64 s2, .bool t2, .int .i64 T2], .pointer (some ⟨w.heap.size, 0, none⟩), .pointer (some ⟨w.heap.size + 1, 0, none⟩), .int .i64 0, .pointer (some ⟨w.heap.size, 0, none⟩), v1, .pointer (some ⟨w.heap.size + 1, 0, none⟩), v2, xs.getD 0 undef, .pointer (some ⟨w.heap.size, 7, none⟩), .bool t1, .pointer (some ⟨w.heap.size + 1, 7, none⟩), .bool t2, xs.getD 1 undef, .pointer (some ⟨w.heap.size, 8, none⟩), .int .i64 T1, .pointer (some ⟨w.heap.size + 1, 8, none⟩), .int .i64 T2, xs.getD 2 undef, .pointer (some ⟨w.heap.size, 1, none⟩), .int .i64 r1, .pointer (some ⟨w.heap.size + 1, 1, none⟩), .int .i64 r2, xs.getD 3 undef, .pointer (some ⟨w.heap.size, 2, none⟩), .bool f1, .pointer (some ⟨w.heap.size + 1, 2, none⟩), .bool f2, xs.getD 4 undef, .pointer (some ⟨w.heap.size, 3, none⟩), .agg #[.int .i64 M1, .int .i64 S1], .pointer (some ⟨w.heap.size + 1, 3, none⟩), .agg #[.int .i64 M2, .int .i64 S2], xs.getD 5 undef, undef, undef], []⟩) (fun bs => #[true, true, true, true, bs.getD 0 true, true, true, true, true, bs.getD 1 true, true, true, true, true, bs.getD 2 true, true, true, true, true, bs.getD 3 true, true, true, true, true, bs.getD 4 true, true, true, true, true, bs.getD 5 true, false, false, false]) (Pts w w.heap.size (w.heap.size + 1) v1 v2 r1 f1 M1 S1 m1 s1 t1 T1 r2 f2 M2 S2 m2 s2 t2 T2) ?hl rfl rfl (fun _ h => h) ?hready ?hset ?hcall ?hdone hHeld
  case hl => kernel_rfl
  case hready =>
    intro bs hb
    obtain ⟨b0, b1, b2, b3, b4, b5, rfl⟩ := six bs hb
    cases b0 <;> cases b1 <;> cases b2 <;> cases b3 <;> cases b4 <;> cases b5 <;> kernel_rfl
  case hset =>
    intro bs k hb hk
    obtain ⟨b0, b1, b2, b3, b4, b5, rfl⟩ := six bs hb
    rcases (show k = 0 ∨ k = 1 ∨ k = 2 ∨ k = 3 ∨ k = 4 ∨ k = 5 from by omega) with rfl | rfl | rfl | rfl | rfl | rfl <;> rfl
  case hcall =>
    intro x k hx hk K w9 hJ hK
    have hJe := hJ.1
    obtain ⟨x0, x1, x2, x3, x4, x5, rfl⟩ := six x hx
    rcases (show k = 0 ∨ k = 1 ∨ k = 2 ∨ k = 3 ∨ k = 4 ∨ k = 5 from by omega) with rfl | rfl | rfl | rfl | rfl | rfl
    · refine wpOp_step (i := 4) (o := ?o0) ?hi0 (fun K' hK' => ?_)
      case hi0 => simp only [List.getElem?_toArray, List.getElem?_cons_succ, List.getElem?_cons_zero]; rfl
      rw [if_pos (by rfl)]
      go_simp
      go_at_call 13
      (with_reducible refine (K1 _ hJe).mono ?_)
      rintro e wz ⟨rfl, xz⟩
      exact hK' _ _ (hK wz (hJ.ext xz))
    · refine wpOp_step (i := 9) (o := ?o1) ?hi1 (fun K' hK' => ?_)
      case hi1 => simp only [List.getElem?_toArray, List.getElem?_cons_succ, List.getElem?_cons_zero]; rfl
      rw [if_pos (by rfl)]
      go_simp
      go_at_call 14
      (with_reducible refine (K2 _).mono ?_)
      rintro e wz ⟨rfl, xz⟩
      exact hK' _ _ (hK wz (hJ.ext xz))
    · refine wpOp_step (i := 14) (o := ?o2) ?hi2 (fun K' hK' => ?_)
      case hi2 => simp only [List.getElem?_toArray, List.getElem?_cons_succ, List.getElem?_cons_zero]; rfl
      rw [if_pos (by rfl)]
      go_simp
      go_at_call 15
      (with_reducible refine (K3 _).mono ?_)
      rintro e wz ⟨rfl, xz⟩
      exact hK' _ _ (hK wz (hJ.ext xz))
    · refine wpOp_step (i := 19) (o := ?o3) ?hi3 (fun K' hK' => ?_)
      case hi3 => simp only [List.getElem?_toArray, List.getElem?_cons_succ, List.getElem?_cons_zero]; rfl
      rw [if_pos (by rfl)]
      go_simp
      go_at_call 16
      (with_reducible refine (K4 _).mono ?_)
      rintro e wz ⟨rfl, xz⟩
      exact hK' _ _ (hK wz (hJ.ext xz))
    · refine wpOp_step (i := 24) (o := ?o4) ?hi4 (fun K' hK' => ?_)
      case hi4 => simp only [List.getElem?_toArray, List.getElem?_cons_succ, List.getElem?_cons_zero]; rfl
      rw [if_pos (by rfl)]
      go_simp
      go_at_call 14
      (with_reducible refine (K5 _).mono ?_)
      rintro e wz ⟨rfl, xz⟩
      exact hK' _ _ (hK wz (hJ.ext xz))
    · refine wpOp_step (i := 29) (o := ?o5) ?hi5 (fun K' hK' => ?_)
      case hi5 => simp only [List.getElem?_toArray, List.getElem?_cons_succ, List.getElem?_cons_zero]; rfl
      rw [if_pos (by rfl)]
      go_simp
      go_at_call 17
      (with_reducible refine (K6 _).mono ?_)
      rintro e wz ⟨rfl, xz⟩
      exact hK' _ _ (hK wz (hJ.ext xz))
  case hdone =>
    intro bs x w9 hb hx hJ hv
    obtain ⟨b0, b1, b2, b3, b4, b5, rfl⟩ := six bs hb
    obtain ⟨x0, x1, x2, x3, x4, x5, rfl⟩ := six x hx
    obtain ⟨e0, y0⟩ := hv 0 (by omega)
    obtain ⟨e1, y1⟩ := hv 1 (by omega)
    obtain ⟨e2, y2⟩ := hv 2 (by omega)
    obtain ⟨e3, y3⟩ := hv 3 (by omega)
    obtain ⟨e4, y4⟩ := hv 4 (by omega)
    obtain ⟨e5, y5⟩ := hv 5 (by omega)
    replace e0 : b0 = true := e0
    replace e1 : b1 = true := e1
    replace e2 : b2 = true := e2
    replace e3 : b3 = true := e3
    replace e4 : b4 = true := e4
    replace e5 : b5 = true := e5
    replace y0 : x0 = .int .i64 X0 := y0
    replace y1 : x1 = .int .i64 X1 := y1
    replace y2 : x2 = .int .i64 X2 := y2
    replace y3 : x3 = .int .i64 X3 := y3
    replace y4 : x4 = .int .i64 X4 := y4
    replace y5 : x5 = .int .i64 X5 := y5
    subst e0 e1 e2 e3 e4 e5 y0 y1 y2 y3 y4 y5
    clear hv hb hx K1 K2 K3 K4 K5 K6 hHeld
    refine wpAnyH_ready (rs := [30]) (by kernel_rfl) (by simp) (AllReadyH.cons (o := ?oa) ?ia (fun K hK => ?_) AllReadyH.nil)
    case ia => simp only [List.getElem?_toArray, List.getElem?_cons_succ, List.getElem?_cons_zero]; rfl
    rw [if_pos (by rfl)]
    go_simp
    refine hK.out _ _ (hJ.ext ((Ext.refl _).alloc _)) (fun hHeld => ?_)
    clear hK K
    simp only [List.setIfInBounds_toArray, List.set_cons_zero, List.set_cons_succ]
    refine wpAnyH_ready (rs := [31]) (by kernel_rfl) (by simp) (AllReadyH.cons (o := ?ob) ?ib (fun K hK => ?_) AllReadyH.nil)
    case ib => simp only [List.getElem?_toArray, List.getElem?_cons_succ, List.getElem?_cons_zero]; rfl
    rw [if_pos (by rfl)]
    go_simp
    go_at_call 12
    (with_reducible refine (O _ _ ?h).mono ?_)
    case h => exact IntsAt.mk [X0, X1, X2, X3, X4, X5] (heap_last _ _)
    rintro e wz ⟨rfl, xz⟩
    refine hK.out _ _ (Pts.ext hHeld xz) (fun hHeld2 => ?_)
    clear hK K
    simp only [List.setIfInBounds_toArray, List.set_cons_zero, List.set_cons_succ]
    refine wpAnyH_ready (rs := [32]) (by kernel_rfl) (by simp) (AllReadyH.cons (o := ?oc) ?ic (fun K hK => ?_) AllReadyH.nil)
    case ic => simp only [List.getElem?_toArray, List.getElem?_cons_succ, List.getElem?_cons_zero]; rfl
    rw [if_pos (by rfl)]
    go_simp
    refine hK.out _ _ hHeld2 (fun hHeld3 => ?_)
    clear hK K
    refine wpAnyH_done (by kernel_rfl) ?_ _
    have hfin := hHeld3.1
    go_wp2_with fail
    go_ret
    exact ⟨rfl, hfin⟩

set_option maxHeartbeats 4000000 in
set_option maxRecDepth 100000 in
theorem ptSame_any (a1 a2 : Option Addr) (c1 c2 : Nat) (l1 l2 : List (ByteArray × ByteArray)) (r1 : Int) (f1 : Bool) (M1 S1 m1 s1 : Int) (t1 : Bool) (T1 : Int) (r2 : Int) (f2 : Bool) (M2 S2 m2 s2 : Int) (t2 : Bool) (T2 : Int) (w : World)
    (n1 : (l1.length : Int) ≤ 9223372036854775807) (n2 : (l2.length : Int) ≤ 9223372036854775807) (h1 : LabA a1 l1 w) (h2 : LabA a2 l2 w) (i1 : I64 M1) (j1 : I64 S1) (i2 : I64 M2) (j2 : I64 S2) :
    Calls Try.prog 8 #[ptV (.slice a1 l1.length c1) r1 f1 M1 S1 m1 s1 t1 T1, ptV (.slice a2 l2.length c2) r2 f2 M2 S2 m2 s2 t2 T2] w fun e w' => e = .returned (.bool (cmpP l1 r1 f1 M1 S1 t1 T1 l2 r2 f2 M2 S2 t2 T2 == 0 && (m1 == m2 && s1 == s2))) ∧ Ext w w' := by
  have C := fun W (x : Ext w W) => ptCompare_any a1 a2 c1 c2 l1 l2 r1 f1 M1 S1 m1 s1 t1 T1 r2 f2 M2 S2 m2 s2 t2 T2 W n1 n2 (h1.ext x) (h2.ext x) i1 j1 i2 j2
  generalize cmpP l1 r1 f1 M1 S1 t1 T1 l2 r2 f2 M2 S2 t2 T2 = R at *
  obtain ⟨v1, hv1⟩ : ∃ v, Value.slice a1 l1.length c1 = v := ⟨_, rfl⟩
  obtain ⟨v2, hv2⟩ : ∃ v, Value.slice a2 l2.length c2 = v := ⟨_, rfl⟩
  rw [hv1, hv2] at C
  rw [hv1, hv2]
  unfold ptV at *
  clear hv1 hv2 h1 h2 n1 n2 i1 j1 i2 j2
  have hx : Ext w ((w.alloc (.cells #[v1, .int .i64 r1, .bool f1, .int .i64 M1, .int .i64 S1, .int .i64 m1, .int .i64 s1, .bool t1, .int .i64 T1] 26)).alloc (.cells #[v2, .int .i64 r2, .bool f2, .int .i64 M2, .int .i64 S2, .int .i64 m2, .int .i64 s2, .bool t2, .int .i64 T2] 26)) := ((Ext.refl _).alloc _).alloc _
  have g1 : PtIn w.heap.size v1 r1 f1 M1 S1 m1 s1 t1 T1 ((w.alloc (.cells #[v1, .int .i64 r1, .bool f1, .int .i64 M1, .int .i64 S1, .int .i64 m1, .int .i64 s1, .bool t1, .int .i64 T1] 26)).alloc (.cells #[v2, .int .i64 r2, .bool f2, .int .i64 M2, .int .i64 S2, .int .i64 m2, .int .i64 s2, .bool t2, .int .i64 T2] 26)) := heap_at2a _ _ _
  have g2 : PtIn (w.heap.size + 1) v2 r2 f2 M2 S2 m2 s2 t2 T2 ((w.alloc (.cells #[v1, .int .i64 r1, .bool f1, .int .i64 M1, .int .i64 S1, .int .i64 m1, .int .i64 s1, .bool t1, .int .i64 T1] 26)).alloc (.cells #[v2, .int .i64 r2, .bool f2, .int .i64 M2, .int .i64 S2, .int .i64 m2, .int .i64 s2, .bool t2, .int .i64 T2] 26)) := heap_at2b _ _ _
  have C2 := C _ hx
  obtain ⟨RB, hRB⟩ : ∃ x, (R == 0 && (m1 == m2 && s1 == s2)) = x := ⟨_, rfl⟩
  rw [hRB]
  by_cases hR : R = 0
  · subst hR
    by_cases hm : m1 = m2
    · subst hm
      by_cases hs : s1 = s2
      · subst hs
        have HV : Hid (RB = true) := Lib.hid (by rw [← hRB]; simp [])
        clear hRB
        obtain ⟨k0, k1, k2, k3, k4, k5, k6, k7, k8⟩ := g1.cells
        obtain ⟨p0, p1, p2, p3, p4, p5, p6, p7, p8⟩ := g2.cells
        go_enter Try.func8, Try.ntmps8
        go_wp2_with fail
        (with_reducible refine C2.mono ?_)
        rintro e w9 ⟨rfl, x9⟩
        clear k0 k1 k2 k3 k4 k5 k6 k7 k8 p0 p1 p2 p3 p4 p5 p6 p7 p8
        obtain ⟨k0, k1, k2, k3, k4, k5, k6, k7, k8⟩ := (g1.ext x9).cells
        obtain ⟨p0, p1, p2, p3, p4, p5, p6, p7, p8⟩ := (g2.ext x9).cells
        go_wp2_with fail
        go_ret
        exact ⟨retB HV.out.symm, hx.trans x9⟩
      · have HV : Hid (RB = false) := Lib.hid (by rw [← hRB]; simp [hs])
        clear hRB
        obtain ⟨k0, k1, k2, k3, k4, k5, k6, k7, k8⟩ := g1.cells
        obtain ⟨p0, p1, p2, p3, p4, p5, p6, p7, p8⟩ := g2.cells
        go_enter Try.func8, Try.ntmps8
        go_wp2_with fail
        (with_reducible refine C2.mono ?_)
        rintro e w9 ⟨rfl, x9⟩
        clear k0 k1 k2 k3 k4 k5 k6 k7 k8 p0 p1 p2 p3 p4 p5 p6 p7 p8
        obtain ⟨k0, k1, k2, k3, k4, k5, k6, k7, k8⟩ := (g1.ext x9).cells
        obtain ⟨p0, p1, p2, p3, p4, p5, p6, p7, p8⟩ := (g2.ext x9).cells
        go_wp2_with fail
        go_ret
        exact ⟨retB HV.out.symm, hx.trans x9⟩
    · have HV : Hid (RB = false) := Lib.hid (by rw [← hRB]; simp [hm])
      clear hRB
      obtain ⟨k0, k1, k2, k3, k4, k5, k6, k7, k8⟩ := g1.cells
      obtain ⟨p0, p1, p2, p3, p4, p5, p6, p7, p8⟩ := g2.cells
      go_enter Try.func8, Try.ntmps8
      go_wp2_with fail
      (with_reducible refine C2.mono ?_)
      rintro e w9 ⟨rfl, x9⟩
      clear k0 k1 k2 k3 k4 k5 k6 k7 k8 p0 p1 p2 p3 p4 p5 p6 p7 p8
      obtain ⟨k0, k1, k2, k3, k4, k5, k6, k7, k8⟩ := (g1.ext x9).cells
      obtain ⟨p0, p1, p2, p3, p4, p5, p6, p7, p8⟩ := (g2.ext x9).cells
      go_wp2_with fail
      go_ret
      exact ⟨retB HV.out.symm, hx.trans x9⟩
  · have HV : Hid (RB = false) := Lib.hid (by rw [← hRB]; simp [hR])
    clear hRB
    obtain ⟨k0, k1, k2, k3, k4, k5, k6, k7, k8⟩ := g1.cells
    obtain ⟨p0, p1, p2, p3, p4, p5, p6, p7, p8⟩ := g2.cells
    go_enter Try.func8, Try.ntmps8
    go_wp2_with fail
    (with_reducible refine C2.mono ?_)
    rintro e w9 ⟨rfl, x9⟩
    clear k0 k1 k2 k3 k4 k5 k6 k7 k8 p0 p1 p2 p3 p4 p5 p6 p7 p8
    obtain ⟨k0, k1, k2, k3, k4, k5, k6, k7, k8⟩ := (g1.ext x9).cells
    obtain ⟨p0, p1, p2, p3, p4, p5, p6, p7, p8⟩ := (g2.ext x9).cells
    go_wp2_with fail
    go_ret
    exact ⟨retB HV.out.symm, hx.trans x9⟩
end Go.Proofs.Ytbkhdjbhijmghaa
