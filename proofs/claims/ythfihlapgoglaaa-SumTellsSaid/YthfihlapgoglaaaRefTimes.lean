/- The walk of the document's Times. -/
import Derived.Test.YthfihlapgoglaaaRefBad
import Derived.Test.YthfihlapgoglaaaRefAdd
namespace Go.Proofs.Ythfihlapgoglaaa
open Go.RowKit

set_option maxHeartbeats 16000000 in
set_option maxRecDepth 100000 in
theorem RTimes_good (A1 T1 A2 T2 : Int) (w : World) (i1 : I64 A1) (i2 : I64 A2) (g1 : goodB A1 T1 = true) (g2 : goodB A2 T2 = true) :
    Calls Try.prog 12 #[decV A1 T1, decV A2 T2] w fun e w' => e = .returned (.tuple #[decV (decMv (!(decide (A1 < 0) == decide (A2 < 0))) (A1.natAbs * A2.natAbs) (T1 + T2).toNat) (decSv (A1.natAbs * A2.natAbs) (T1 + T2).toNat), .bool (decOk (A1.natAbs * A2.natAbs) (T1 + T2).toNat)]) ∧ Ext w w' := by
  obtain ⟨b1, b2, _⟩ := good_range g1
  obtain ⟨b3, b4, _⟩ := good_range g2
  have G1 := fun w => RGood_any A1 T1 w i1 (by unfold I64; omega)
  have G2 := fun w => RGood_any A2 T2 w i2 (by unfold I64; omega)
  rw [g1] at G1
  rw [g2] at G2
  have hx : Ext w (((w.alloc (.cells #[.int .i64 A1, .int .i64 T1] 25)).alloc (.cells #[.int .i64 A2, .int .i64 T2] 25)).alloc (.cells #[.int .i64 0, .int .i64 0] 25)) := (((Ext.refl _).alloc _).alloc _).alloc _
  have h1 : DecIn w.heap.size A1 T1 (((w.alloc (.cells #[.int .i64 A1, .int .i64 T1] 25)).alloc (.cells #[.int .i64 A2, .int .i64 T2] 25)).alloc (.cells #[.int .i64 0, .int .i64 0] 25)) := heap_at3a _ _ _ _
  have h2 : DecIn (w.heap.size + 1) A2 T2 (((w.alloc (.cells #[.int .i64 A1, .int .i64 T1] 25)).alloc (.cells #[.int .i64 A2, .int .i64 T2] 25)).alloc (.cells #[.int .i64 0, .int .i64 0] 25)) := heap_at3b _ _ _ _
  have h3 : DecIn (w.heap.size + 2) 0 0 (((w.alloc (.cells #[.int .i64 A1, .int .i64 T1] 25)).alloc (.cells #[.int .i64 A2, .int .i64 T2] 25)).alloc (.cells #[.int .i64 0, .int .i64 0] 25)) := heap_at3c _ _ _ _
  have AM1 := fun w => amount_any A1 w i1
  have AM2 := fun w => amount_any A2 w i2
  have l1 := digs_len19 i1
  have l2 := digs_len19 i2
  have PR := fun a b W (h : DigV a (digs A1.natAbs) W) (h2 : DigV b (digs A2.natAbs) W) => product_dig a b _ _ W h h2 (by omega) (by omega) (digs_lt _) (digs_lt _)
  rw [valD_digs, valD_digs] at PR
  have lN : (digs (A1.natAbs * A2.natAbs)).length ≤ 38 := digs_length (by
    have e1 := digs_pow l1
    have e2 := digs_pow l2
    have := Nat.mul_lt_mul'' e1 e2
    rw [← Nat.pow_add] at this
    exact this)
  have DE : ∀ (n : Bool) (v : Value) (W : World), DigV v (digs (A1.natAbs * A2.natAbs)) W → Calls Try.prog 32 #[.bool n, v, .int .i64 (IntKind.i64.wrap (T1 + T2))] W fun e w' => e = .returned (.tuple #[.agg #[.int .i64 (decMv n (A1.natAbs * A2.natAbs) (T1 + T2).toNat), .int .i64 (decSv (A1.natAbs * A2.natAbs) (T1 + T2).toNat)], .bool (decOk (A1.natAbs * A2.natAbs) (T1 + T2).toNat)]) ∧ Ext W w' := fun n v W h => by
    have := decimal_raw n _ (T1 + T2).toNat v W h (by omega) (by omega)
    rw [show (((T1 + T2).toNat : Nat) : Int) = IntKind.i64.wrap (T1 + T2) from by rw [IntWalk.i64_in _ (by omega)]; omega] at this
    exact this
  generalize A1.natAbs * A2.natAbs = N at *
  generalize (T1 + T2).toNat = T at *
  generalize digs A1.natAbs = D1 at *
  generalize digs A2.natAbs = D2 at *
  generalize digs N = DN at *
  unfold decV at *
  clear g1 g2 i1 i2 l1 l2 lN b1 b2 b3 b4
  go_enter Try.func12, Try.ntmps12
  obtain ⟨c0, c1⟩ := h1.cells
  obtain ⟨d0, d1⟩ := h2.cells
  go_wp2_with fail
  (with_reducible refine (G1 _).mono ?_)
  rintro e w1 ⟨rfl, x1⟩
  replace h1 := h1.ext x1
  replace h2 := h2.ext x1
  replace h3 := h3.ext x1
  replace hx := hx.trans x1
  clear c0 c1 d0 d1
  obtain ⟨c0, c1⟩ := h1.cells
  obtain ⟨d0, d1⟩ := h2.cells
  go_wp2_with fail
  (with_reducible refine (G2 _).mono ?_)
  rintro e W ⟨rfl, x2⟩
  have k1 := h1.ext x2
  have k2 := h2.ext x2
  have k3 := h3.ext x2
  replace hx := hx.trans x2
  clear c0 c1 d0 d1 G1 G2 h1 h2 h3
  obtain ⟨c0, c1⟩ := k1.cells
  obtain ⟨d0, d1⟩ := k2.cells
  have Y : Ext W W.drew := (Ext.refl _).drew
  have nb0 : w.heap.size + 1 + 1 ≠ w.heap.size := by omega
  go_wp2_with fail
  go_region_held3 (fun w' => w'.cell? ⟨w.heap.size, 0, none⟩ = some (.int .i64 A1) ∧ w'.cell? ⟨w.heap.size, 1, none⟩ = some (.int .i64 T1) ∧ w'.cell? ⟨w.heap.size + 1, 0, none⟩ = some (.int .i64 A2) ∧ w'.cell? ⟨w.heap.size + 1, 1, none⟩ = some (.int .i64 T2)) (first | exact ⟨p0, p1, q0, q1⟩ | exact ⟨c0, c1, d0, d1⟩ | go_keep) (first
    | (go_at_call 34; (with_reducible refine (AM1 _).mono ?_); rintro e wz ⟨⟨a1, rfl, hA1⟩, xz⟩; (try replace hA2 := hA2.ext xz); replace Y := Y.trans xz; have p0 := (k1.ext Y).cells.1; have p1 := (k1.ext Y).cells.2; have q0 := (k2.ext Y).cells.1; have q1 := (k2.ext Y).cells.2; have n3 := k3.ext Y; have s0 := n3.cells.1; have s1 := n3.cells.2; have f0 := n3.free.1; have f1 := n3.free.2)
    | (go_at_call 34; (with_reducible refine (AM2 _).mono ?_); rintro e wz ⟨⟨a2, rfl, hA2⟩, xz⟩; (try replace hA1 := hA1.ext xz); replace Y := Y.trans xz; have p0 := (k1.ext Y).cells.1; have p1 := (k1.ext Y).cells.2; have q0 := (k2.ext Y).cells.1; have q1 := (k2.ext Y).cells.2; have n3 := k3.ext Y; have s0 := n3.cells.1; have s1 := n3.cells.2; have f0 := n3.free.1; have f1 := n3.free.2)
    | (go_at_call 33; (with_reducible refine (PR _ _ _ ?h ?h2).mono ?_); (case h => exact hA1); (case h2 => exact hA2); rintro e wz ⟨⟨t1, rfl, hP⟩, xz⟩; replace Y := Y.trans xz; have p0 := (k1.ext Y).cells.1; have p1 := (k1.ext Y).cells.2; have q0 := (k2.ext Y).cells.1; have q1 := (k2.ext Y).cells.2; have n3 := k3.ext Y; have s0 := n3.cells.1; have s1 := n3.cells.2; have f0 := n3.free.1; have f1 := n3.free.2)
    | (go_at_call 32; (with_reducible refine (DE _ _ _ ?h).mono ?_); (case h => exact hP); rintro e wy ⟨rfl, xz⟩; replace Y := Y.trans xz; have p0 := (k1.ext Y).cells.1; have p1 := (k1.ext Y).cells.2; have q0 := (k2.ext Y).cells.1; have q1 := (k2.ext Y).cells.2; have n3 := k3.ext Y; have s0 := n3.cells.1; have s1 := n3.cells.2; have f0 := n3.free.1; have f1 := n3.free.2))
  all_goals
    go_wp2_with fail
    refine bodyPost_ret (v := .tuple #[.agg #[.int .i64 (decMv (!(decide (A1 < 0) == decide (A2 < 0))) N T), .int .i64 (decSv N T)], .bool (decOk N T)]) ?_ rfl ⟨rfl, ext_setDec (hx.trans Y) (by omega) _ _⟩
    obtain ⟨t0, t1⟩ := (n3.stored (decMv (!(decide (A1 < 0) == decide (A2 < 0))) N T) (decSv N T)).cells
    change (results Try.f12 _).run Try.prog (setDec wy (w.heap.size + 2) (decMv (!(decide (A1 < 0) == decide (A2 < 0))) N T) (decSv N T)) = .ok _ (setDec wy (w.heap.size + 2) (decMv (!(decide (A1 < 0) == decide (A2 < 0))) N T) (decSv N T))
    generalize setDec wy (w.heap.size + 2) (decMv (!(decide (A1 < 0) == decide (A2 < 0))) N T) (decSv N T) = W' at *
    simp [results, Try.results12, go_sem, t0, t1]

theorem RTimes_any (m1 s1 m2 s2 : Int) (w : World) (hM1 : I64 m1) (hS1 : I64 s1) (hM2 : I64 m2) (hS2 : I64 s2) :
    Calls Try.prog 12 #[decV m1 s1, decV m2 s2] w fun e w' => e = .returned (.tuple #[decV (mulM m1 s1 m2 s2) (mulS m1 s1 m2 s2), .bool (mulOk m1 s1 m2 s2)]) ∧ Ext w w' := by
  by_cases g : goodB m1 s1 = true ∧ goodB m2 s2 = true
  · obtain ⟨g1, g2⟩ := g
    have := RTimes_good m1 s1 m2 s2 w hM1 hM2 g1 g2
    unfold mulM mulS mulOk
    rw [g1, g2]
    exact this
  · have h := RTimes_bad m1 s1 m2 s2 w hM1 hS1 hM2 hS2 g
    have hb : (goodB m1 s1 && goodB m2 s2) = false := by
      cases e1 : goodB m1 s1
      · rfl
      · cases e2 : goodB m2 s2
        · rfl
        · exact absurd ⟨e1, e2⟩ g
    unfold mulM mulS mulOk
    rw [← Bool.and_assoc, hb]
    exact h
end Go.Proofs.Ythfihlapgoglaaa
