/- The walk of sum.Compare. -/
import Derived.Test.YtbkhdjbhijmghaaNumF
namespace Go.Proofs.Ytbkhdjbhijmghaa
open Go.RowKit

/-- A decimal's number with so many digits behind the point. -/
def scN (M S : Int) (s : Int) : Nat := M.natAbs * 10 ^ (s - S).toNat
theorem scN_lt (M S s : Int) (hM : -9223372036854775807 ≤ M ∧ M ≤ 9223372036854775807) (hS : 0 ≤ S) (hs : s ≤ 18) : scN M S s < 10000000000000000000000000000000000000 := by
  unfold scN
  have h1 : 10 ^ (s - S).toNat ≤ 10 ^ 18 := Nat.pow_le_pow_right (by omega) (by omega)
  have h2 : M.natAbs ≤ 9223372036854775807 := by omega
  have h3 := Nat.mul_le_mul h2 h1
  have h4 : 9223372036854775807 * 10 ^ 18 < 10000000000000000000000000000000000000 := by decide
  omega
/-- What Compare tells. -/
def cmpD (m1 s1 m2 s2 : Int) : Int := ncmp (decide (m1 < 0)) (scN m1 s1 (max s1 s2)) (decide (m2 < 0)) (scN m2 s2 (max s1 s2))

theorem numberOf_sc (M S s : Int) (w : World) (hM : -9223372036854775807 ≤ M ∧ M ≤ 9223372036854775807) (hS : 0 ≤ S) (h : S ≤ s) (hs : s ≤ 18) :
    Calls Try.prog 36 #[.agg #[.int .i64 M, .int .i64 S], .int .i64 s] w fun e w' => e = .returned (.agg #[.bool (decide (M < 0)), .int .u64 (wd (scN M S s) 0 : Int), .int .u64 (wd (scN M S s) 1 : Int), .int .u64 (wd (scN M S s) 2 : Int), .int .u64 (wd (scN M S s) 3 : Int), .int .i64 s]) ∧ Ext w w' :=
  numberOf_any M S s (s - S).toNat w ⟨by omega, by omega⟩ (by omega) (by omega) (by have := scN_lt M S s hM hS hs; unfold scN at this; unfold W256; omega)

theorem cmp_keep {b c : Nat} {m s n t : Int} {w w' : World} (h1 : DecIn b m s w) (h2 : DecIn c n t w) (x : Ext w w') :
    w'.cell? ⟨b, 0, none⟩ = some (.int .i64 m) ∧ w'.cell? ⟨b, 1, none⟩ = some (.int .i64 s) ∧ w'.cell? ⟨c, 0, none⟩ = some (.int .i64 n) ∧ w'.cell? ⟨c, 1, none⟩ = some (.int .i64 t) :=
  ⟨(h1.ext x).cells.1, (h1.ext x).cells.2, (h2.ext x).cells.1, (h2.ext x).cells.2⟩

/-- Two decimals in memory, in two blocks; what was there stands. -/
def TwoIn (w : World) (b c : Nat) (m s n t : Int) (w' : World) : Prop := Ext w w' ∧ DecIn b m s w' ∧ DecIn c n t w'
theorem two_keep {w : World} {b c : Nat} {m s n t : Int} {w0 : World} (h : TwoIn w b c m s n t w0) {k : Nat} {args : Array Value} {v : Value} (C : Calls Try.prog k args w0 fun e w' => e = .returned v ∧ Ext w0 w') :
    Calls Try.prog k args w0 fun e w' => e = .returned v ∧ TwoIn w b c m s n t w' ∧ w'.cell? ⟨b, 0, none⟩ = some (.int .i64 m) ∧ w'.cell? ⟨b, 1, none⟩ = some (.int .i64 s) ∧ w'.cell? ⟨c, 0, none⟩ = some (.int .i64 n) ∧ w'.cell? ⟨c, 1, none⟩ = some (.int .i64 t) ∧ w'.frozen? ⟨b, 0, none⟩ = false ∧ w'.frozen? ⟨b, 1, none⟩ = false ∧ w'.frozen? ⟨c, 0, none⟩ = false ∧ w'.frozen? ⟨c, 1, none⟩ = false :=
  C.mono (fun _ _ ⟨he, x⟩ => ⟨he, ⟨h.1.trans x, h.2.1.ext x, h.2.2.ext x⟩, (h.2.1.ext x).cells.1, (h.2.1.ext x).cells.2, (h.2.2.ext x).cells.1, (h.2.2.ext x).cells.2, (h.2.1.ext x).free.1, (h.2.1.ext x).free.2, (h.2.2.ext x).free.1, (h.2.2.ext x).free.2⟩)

set_option maxHeartbeats 20000000 in
set_option maxRecDepth 100000 in
theorem Compare_any (M S M' S' : Int) (w : World) (hM : I64 M) (hS : I64 S) (hM' : I64 M') (hS' : I64 S') :
    Calls Try.prog 17 #[decV M S, decV M' S'] w fun e w' => e = .returned (.int .i64 (cmpD (cM M S) (cS M S) (cM M' S') (cS M' S'))) ∧ Ext w w' := by
  have C : ∀ w, Calls Try.prog 35 #[.agg #[.int .i64 M, .int .i64 S]] w fun e w' => e = .returned (.agg #[.int .i64 (cM M S), .int .i64 (cS M S)]) ∧ Ext w w' := fun w => counted_any M S w hM hS
  have C' : ∀ w, Calls Try.prog 35 #[.agg #[.int .i64 M', .int .i64 S']] w fun e w' => e = .returned (.agg #[.int .i64 (cM M' S'), .int .i64 (cS M' S')]) ∧ Ext w w' := fun w => counted_any M' S' w hM' hS'
  have hm1 := cM_range M S hM
  have hm2 := cM_range M' S' hM'
  have hs1 := cS_range M S
  have hs2 := cS_range M' S'
  generalize cM M S = m1 at *
  generalize cS M S = s1 at *
  generalize cM M' S' = m2 at *
  generalize cS M' S' = s2 at *
  clear hM hS hM' hS'
  obtain ⟨s, hs⟩ : ∃ s, s = max s1 s2 := ⟨_, rfl⟩
  have D1 := fun w => numberOf_sc m1 s1 s w hm1 hs1.1 (by omega) (by omega)
  have D2 := fun w => numberOf_sc m2 s2 s w hm2 hs2.1 (by omega) (by omega)
  have l1 := scN_lt m1 s1 s hm1 hs1.1 (by omega)
  have l2 := scN_lt m2 s2 s hm2 hs2.1 (by omega)
  unfold cmpD decV
  rw [← hs]
  generalize scN m1 s1 s = N1 at *
  generalize scN m2 s2 s = N2 at *
  have D3 : ∀ w, Calls Try.prog 37 #[.agg #[.bool (decide (m1 < 0)), .int .u64 (wd N1 0 : Int), .int .u64 (wd N1 1 : Int), .int .u64 (wd N1 2 : Int), .int .u64 (wd N1 3 : Int), .int .i64 s], .agg #[.bool (decide (m2 < 0)), .int .u64 (wd N2 0 : Int), .int .u64 (wd N2 1 : Int), .int .u64 (wd N2 2 : Int), .int .u64 (wd N2 3 : Int), .int .i64 s]] w fun e w' => e = .returned (.int .i64 (ncmp (decide (m1 < 0)) N1 (decide (m2 < 0)) N2)) ∧ Ext w w' := fun w => ncompare_any _ _ N1 N2 s w (by unfold W256; omega) (by unfold W256; omega)
  generalize ncmp (decide (m1 < 0)) N1 (decide (m2 < 0)) N2 = r at *
  generalize decide (m1 < 0) = n1 at *
  generalize decide (m2 < 0) = n2 at *
  clear l1 l2 hm1 hm2 hs1 hs2
  subst hs
  have hx : Ext w ((w.alloc (.cells #[.int .i64 M, .int .i64 S] 24)).alloc (.cells #[.int .i64 M', .int .i64 S'] 24)) := ((Ext.refl _).alloc _).alloc _
  have h1 : DecIn w.heap.size M S ((w.alloc (.cells #[.int .i64 M, .int .i64 S] 24)).alloc (.cells #[.int .i64 M', .int .i64 S'] 24)) := heap_at2a _ _ _
  have h2 : DecIn (w.heap.size + 1) M' S' ((w.alloc (.cells #[.int .i64 M, .int .i64 S] 24)).alloc (.cells #[.int .i64 M', .int .i64 S'] 24)) := heap_at2b _ _ _
  go_enter Try.func17, Try.ntmps17
  go_wp2_with fail
  generalize (w.alloc (.cells #[.int .i64 M, .int .i64 S] 24)).alloc (.cells #[.int .i64 M', .int .i64 S'] 24) = W at *
  obtain ⟨c0, c1⟩ := h1.cells
  obtain ⟨d0, d1⟩ := h2.cells
  have hP : TwoIn w w.heap.size (w.heap.size + 1) M S M' S' W.drew := ⟨hx.drew, h1.ext (Ext.refl W).drew, h2.ext (Ext.refl W).drew⟩
  have E1 := fun w0 (h : TwoIn w w.heap.size (w.heap.size + 1) M S M' S' w0) => two_keep h (C w0)
  have E2 := fun w0 (h : TwoIn w w.heap.size (w.heap.size + 1) M S M' S' w0) => two_keep h (C' w0)
  clear C C'
  go_region_with (first
    | (go_at_call 35; (with_reducible refine (E1 _ ?h).mono ?_); (case h => first | exact H | exact hP); rintro e wz ⟨rfl, H, p0, p1, q0, q1, f0, f1, g0, g1⟩)
    | (go_at_call 35; (with_reducible refine (E2 _ ?h).mono ?_); (case h => first | exact H | exact hP); rintro e wz ⟨rfl, H, p0, p1, q0, q1, f0, f1, g0, g1⟩))
  all_goals
    have hxz := ext_setDec (ext_setDec H.1 (Nat.le_refl _) m1 s1) (Nat.le_succ _) m2 s2
    have K1 : DecIn w.heap.size m1 s1 (setDec (setDec wz w.heap.size m1 s1) (w.heap.size + 1) m2 s2) := (heap_setDec _ _ _ _ _ (by omega)).trans (H.2.1.stored m1 s1)
    have K2 : DecIn (w.heap.size + 1) m2 s2 (setDec (setDec wz w.heap.size m1 s1) (w.heap.size + 1) m2 s2) := DecIn.stored (M := M') (S := S') ((heap_setDec _ _ _ _ _ (by omega)).trans H.2.2) m2 s2
    unfold setDec at hxz K1 K2
    generalize ((((wz.setCell ⟨w.heap.size, 0, none⟩ (.int .i64 m1)).setCell ⟨w.heap.size, 1, none⟩ (.int .i64 s1)).setCell ⟨w.heap.size + 1, 0, none⟩ (.int .i64 m2)).setCell ⟨w.heap.size + 1, 1, none⟩ (.int .i64 s2)) = V at *
    clear p0 p1 q0 q1 f0 f1 g0 g1 H c0 c1 d0 d1 h1 h2 hx hP
    obtain ⟨k0, k1⟩ := K1.cells
    obtain ⟨l0, l1⟩ := K2.cells
    go_wp2_with fail
    have hP : TwoIn w w.heap.size (w.heap.size + 1) m1 s1 m2 s2 V.drew := ⟨hxz.drew, K1.ext (Ext.refl V).drew, K2.ext (Ext.refl V).drew⟩
    have F1 := fun w0 (h : TwoIn w w.heap.size (w.heap.size + 1) m1 s1 m2 s2 w0) => two_keep h (D1 w0)
    have F2 := fun w0 (h : TwoIn w w.heap.size (w.heap.size + 1) m1 s1 m2 s2 w0) => two_keep h (D2 w0)
    have F3 := fun w0 (h : TwoIn w w.heap.size (w.heap.size + 1) m1 s1 m2 s2 w0) => two_keep h (D3 w0)
    clear D1 D2 D3 E1 E2 K1 K2
    go_region_held3 (fun w' => w'.cell? ⟨w.heap.size, 0, none⟩ = some (.int .i64 m1) ∧ w'.cell? ⟨w.heap.size, 1, none⟩ = some (.int .i64 s1) ∧ w'.cell? ⟨w.heap.size + 1, 0, none⟩ = some (.int .i64 m2) ∧ w'.cell? ⟨w.heap.size + 1, 1, none⟩ = some (.int .i64 s2)) (first | exact ⟨p0, p1, q0, q1⟩ | exact ⟨k0, k1, l0, l1⟩ | go_keep) (first
      | (go_at_call 36; (with_reducible refine (F1 _ ?h).mono ?_); (case h => first | exact H | exact hP); rintro e wy ⟨rfl, H, p0, p1, q0, q1, -, -, -, -⟩)
      | (go_at_call 36; (with_reducible refine (F2 _ ?h).mono ?_); (case h => first | exact H | exact hP); rintro e wy ⟨rfl, H, p0, p1, q0, q1, -, -, -, -⟩)
      | (go_at_call 37; (with_reducible refine (F3 _ ?h).mono ?_); (case h => first | exact H | exact hP); rintro e wy ⟨rfl, H, p0, p1, q0, q1, -, -, -, -⟩))
    all_goals
      go_wp2_with fail
      go_ret
      exact ⟨rfl, H.1⟩
end Go.Proofs.Ytbkhdjbhijmghaa
