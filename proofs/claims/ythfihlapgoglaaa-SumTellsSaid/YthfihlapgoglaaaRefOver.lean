/- The walk of the document's Over. -/
import Derived.Test.YthfihlapgoglaaaRefBad
import Derived.Test.YthfihlapgoglaaaRefAdd
import Derived.Test.YthfihlapgoglaaaRefQ
import Derived.Test.YthfihlapgoglaaaLawOver
namespace Go.Proofs.Ythfihlapgoglaaa
open Go.RowKit

set_option maxHeartbeats 16000000 in
set_option maxRecDepth 100000 in
theorem ROver_good (A1 T1 A2 T2 : Int) (w : World) (i1 : I64 A1) (i2 : I64 A2) (g1 : goodB A1 T1 = true) (g2 : goodB A2 T2 = true) (hz : A2 ≠ 0) :
    Calls Try.prog 14 #[decV A1 T1, decV A2 T2] w fun e w' => e = .returned (.tuple #[decV (ovR A1 T1 A2 T2).1.1 (ovR A1 T1 A2 T2).1.2, .bool (ovR A1 T1 A2 T2).2]) ∧ Ext w w' := by
  obtain ⟨b1, b2, _⟩ := good_range g1
  obtain ⟨b3, b4, _⟩ := good_range g2
  have G1 := fun w => RGood_any A1 T1 w i1 (by unfold I64; omega)
  have G2 := fun w => RGood_any A2 T2 w i2 (by unfold I64; omega)
  rw [g1] at G1
  rw [g2] at G2
  have hx : Ext w (((w.alloc (.cells #[.int .i64 A1, .int .i64 T1] 25)).alloc (.cells #[.int .i64 A2, .int .i64 T2] 25)).alloc (.cells #[.int .i64 0, .int .i64 0] 25)) := (((Ext.refl _).alloc _).alloc _).alloc _
  have h1 : DecIn w.heap.size A1 T1 (((w.alloc (.cells #[.int .i64 A1, .int .i64 T1] 25)).alloc (.cells #[.int .i64 A2, .int .i64 T2] 25)).alloc (.cells #[.int .i64 0, .int .i64 0] 25)) := heap_at3a _ _ _ _
  have h2 : DecIn (w.heap.size + 1) A2 T2 (((w.alloc (.cells #[.int .i64 A1, .int .i64 T1] 25)).alloc (.cells #[.int .i64 A2, .int .i64 T2] 25)).alloc (.cells #[.int .i64 0, .int .i64 0] 25)) := heap_at3b _ _ _ _
  have h3 : DecIn (w.heap.size + 2) 0 0 (((w.alloc (.cells #[.int .i64 A1, .int .i64 T1] 25)).alloc (.cells #[.int .i64 A2, .int .i64 T2] 25)).alloc (.cells #[.int .i64 0, .int .i64 0] 25)) := heap_at3c _ _ _ _
  have AM1 := fun w => amount_any A1 w i1
  have AM2 := fun w => amount_any A2 w i2
  have l1 := digs_len19 i1
  have l2 := digs_len19 i2
  have hb : 0 < A2.natAbs := by omega
  have lN : (digs (A1.natAbs * 10 ^ (18 + T2 - T1).toNat)).length ≤ 55 := by
    rw [← tensD_digs]
    have := tensD_len (digs A1.natAbs) (18 + T2 - T1).toNat
    omega
  have TE : ∀ v W, DigV v (digs A1.natAbs) W → Calls Try.prog 39 #[v, .int .i64 (IntKind.i64.wrap (IntKind.i64.wrap (18 + T2) - T1))] W fun e w' => (∃ v', e = .returned v' ∧ DigV v' (digs (A1.natAbs * 10 ^ (18 + T2 - T1).toNat)) w') ∧ Ext W w' := fun v W h => by
    rw [show IntKind.i64.wrap (IntKind.i64.wrap (18 + T2) - T1) = ((18 + T2 - T1).toNat : Int) from by rw [IntWalk.i64_in (18 + T2) (by omega), IntWalk.i64_in _ (by omega)]; omega, ← tensD_digs]
    exact tens_any v _ _ W h (by omega) (by omega)
  have QU := fun a b W (h : DigV a (digs (A1.natAbs * 10 ^ (18 + T2 - T1).toNat)) W) (h2 : DigV b (digs A2.natAbs) W) => quotient_dig a b _ _ W h h2 (by omega) (by omega) (digs_lt _) hb
  rw [valD_digs] at QU
  have lQ : (digs (A1.natAbs * 10 ^ (18 + T2 - T1).toNat / A2.natAbs)).length ≤ 55 := Nat.le_trans (digs_len_le (Nat.div_le_self _ _)) lN
  have DE : ∀ (n : Bool) (v : Value) (W : World), DigV v (digs (A1.natAbs * 10 ^ (18 + T2 - T1).toNat / A2.natAbs)) W → Calls Try.prog 32 #[.bool n, v, .int .i64 18] W fun e w' => e = .returned (.tuple #[.agg #[.int .i64 (decMv n (A1.natAbs * 10 ^ (18 + T2 - T1).toNat / A2.natAbs) 18), .int .i64 (decSv (A1.natAbs * 10 ^ (18 + T2 - T1).toNat / A2.natAbs) 18)], .bool (decOk (A1.natAbs * 10 ^ (18 + T2 - T1).toNat / A2.natAbs) 18)]) ∧ Ext W w' := fun n v W h =>
    decimal18 n _ v W h (by omega)
  have hRv : Hid (ovR A1 T1 A2 T2 = if A1.natAbs * 10 ^ (18 + T2 - T1).toNat % A2.natAbs = 0 then ((decMv (!(decide (A1 < 0) == decide (A2 < 0))) (A1.natAbs * 10 ^ (18 + T2 - T1).toNat / A2.natAbs) 18, decSv (A1.natAbs * 10 ^ (18 + T2 - T1).toNat / A2.natAbs) 18), decOk (A1.natAbs * 10 ^ (18 + T2 - T1).toNat / A2.natAbs) 18) else ((0, 0), false)) := Lib.hid rfl
  generalize ovR A1 T1 A2 T2 = RV at *
  generalize A1.natAbs * 10 ^ (18 + T2 - T1).toNat / A2.natAbs = Q at *
  generalize A1.natAbs * 10 ^ (18 + T2 - T1).toNat % A2.natAbs = R at *
  generalize A1.natAbs * 10 ^ (18 + T2 - T1).toNat = N at *
  generalize digs A1.natAbs = D1 at *
  generalize digs A2.natAbs = D2 at *
  generalize digs N = DN at *
  generalize digs Q = DQ at *
  unfold decV at *
  clear g1 g2 i1 i2 l1 l2 lN lQ b1 b2 b3 b4 hb
  go_enter Try.func14, Try.ntmps14
  obtain ⟨c0, c1⟩ := h1.cells
  obtain ⟨d0, d1⟩ := h2.cells
  go_wp2_with fail
  (with_reducible refine (G1 _).mono ?_)
  rintro e w1 ⟨rfl, x1⟩
  replace h1 := h1.ext x1
  replace h2 := h2.ext x1
  replace h3 := h3.ext x1
  replace hx := hx.trans x1
  clear c0 c1 d0 d1
  obtain ⟨c0, c1⟩ := h1.cells
  obtain ⟨d0, d1⟩ := h2.cells
  go_wp2_with fail
  (with_reducible refine (G2 _).mono ?_)
  rintro e W ⟨rfl, x2⟩
  have k1 := h1.ext x2
  have k2 := h2.ext x2
  have k3 := h3.ext x2
  replace hx := hx.trans x2
  clear c0 c1 d0 d1 G1 G2 h1 h2 h3
  obtain ⟨c0, c1⟩ := k1.cells
  obtain ⟨d0, d1⟩ := k2.cells
  have Y : Ext W W.drew := (Ext.refl _).drew
  have hY0 : True := trivial
  go_upto_region 3 with fail
  go_cut [6, 7] (fun x y wx => DigV x DQ wx ∧ DigV y (digs R) wx ∧ Ext W wx)
  case first =>
    go_region_held3 (fun w' => w'.cell? ⟨w.heap.size, 0, none⟩ = some (.int .i64 A1) ∧ w'.cell? ⟨w.heap.size, 1, none⟩ = some (.int .i64 T1) ∧ w'.cell? ⟨w.heap.size + 1, 0, none⟩ = some (.int .i64 A2) ∧ w'.cell? ⟨w.heap.size + 1, 1, none⟩ = some (.int .i64 T2)) (first | exact ⟨p0, p1, q0, q1⟩ | exact ⟨c0, c1, d0, d1⟩ | go_keep) (first
      | (go_at_call 34; (with_reducible refine (AM1 _).mono ?_); rintro e wz ⟨⟨a1, rfl, hA1⟩, xz⟩; (try replace hA2 := hA2.ext xz); replace Y := Y.trans xz; have p0 := (k1.ext Y).cells.1; have p1 := (k1.ext Y).cells.2; have q0 := (k2.ext Y).cells.1; have q1 := (k2.ext Y).cells.2)
      | (go_at_call 34; (with_reducible refine (AM2 _).mono ?_); rintro e wz ⟨⟨a2, rfl, hA2⟩, xz⟩; (try replace hA1 := hA1.ext xz); (try replace hX := hX.ext xz); replace Y := Y.trans xz; have p0 := (k1.ext Y).cells.1; have p1 := (k1.ext Y).cells.2; have q0 := (k2.ext Y).cells.1; have q1 := (k2.ext Y).cells.2)
      | (go_at_call 39; (with_reducible refine (TE _ _ ?h).mono ?_); (case h => exact hA1); rintro e wz ⟨⟨t1, rfl, hX⟩, xz⟩; (try replace hA2 := hA2.ext xz); replace Y := Y.trans xz; have p0 := (k1.ext Y).cells.1; have p1 := (k1.ext Y).cells.2; have q0 := (k2.ext Y).cells.1; have q1 := (k2.ext Y).cells.2)
      | (go_at_call 38; (with_reducible refine (QU _ _ _ ?h ?h2).mono ?_); (case h => exact hX); (case h2 => exact hA2); rintro e wz ⟨⟨t2, t3, rfl, hQ, hR⟩, xz⟩; replace Y := Y.trans xz; have p0 := (k1.ext Y).cells.1; have p1 := (k1.ext Y).cells.2; have q0 := (k2.ext Y).cells.1; have q1 := (k2.ext Y).cells.2))
    all_goals
      go_wp2_with fail
      go_meet
      case rel => exact ⟨hQ, hR, Y⟩
  case rest =>
    obtain ⟨hQ, hR, xc⟩ := hcut
    have m1 := k1.ext xc
    have m2 := k2.ext xc
    have m3 := k3.ext xc
    have hxc := hx.trans xc
    clear c0 c1 d0 d1 k1 k2 k3 AM1 AM2 TE QU Y hY0
    obtain ⟨c0, c1⟩ := m1.cells
    obtain ⟨d0, d1⟩ := m2.cells
    obtain ⟨s0, s1⟩ := m3.cells
    obtain ⟨f0, f1⟩ := m3.free
    obtain ⟨pr, cr, rfl⟩ := hR.form
    by_cases hR0 : R = 0
    · have hlen : (digs R).length = 0 := by rw [hR0, digs_zero]; rfl
      have hRv2 := hRv.out
      rw [if_pos hR0] at hRv2
      replace hRv2 := Lib.hid hRv2
      rw [hlen]
      clear hRv hlen hR
      go_wp2_with fail
      (with_reducible refine (DE _ _ _ ?h).mono ?_)
      case h => exact hQ
      rintro e wd ⟨rfl, Yd⟩
      have n3 := m3.ext Yd
      clear c0 c1 d0 d1 s0 s1 f0 f1
      obtain ⟨s0, s1⟩ := n3.cells
      obtain ⟨f0, f1⟩ := n3.free
      go_wp2_with fail
      rw [hRv2.out]
      dsimp only
      clear hRv2 DE
      generalize decMv (!(decide (A1 < 0) == decide (A2 < 0))) Q 18 = RM at *
      generalize decSv Q 18 = RS at *
      generalize decOk Q 18 = RO at *
      refine bodyPost_ret (v := .tuple #[.agg #[.int .i64 RM, .int .i64 RS], .bool RO]) ?_ rfl ⟨rfl, ext_setDec (hxc.trans Yd) (by omega) _ _⟩
      obtain ⟨e0, e1⟩ := (n3.stored RM RS).cells
      change (results Try.f14 _).run Try.prog (setDec wd (w.heap.size + 2) RM RS) = .ok _ (setDec wd (w.heap.size + 2) RM RS)
      generalize setDec wd (w.heap.size + 2) RM RS = W' at *
      simp [results, Try.results14, go_sem, e0, e1]
    · have hlen : 0 < (digs R).length := by
        rcases Nat.eq_zero_or_pos (digs R).length with h | h
        · exfalso
          have := valD_digs R
          rw [List.eq_nil_of_length_eq_zero h] at this
          exact hR0 this.symm
        · exact h
      have hRv2 := hRv.out
      rw [if_neg hR0] at hRv2
      replace hRv2 := Lib.hid hRv2
      generalize (digs R).length = nr at *
      clear hRv
      go_wp2_with fail
      rw [hRv2.out]
      dsimp only
      refine bodyPost_ret (v := .tuple #[.agg #[.int .i64 0, .int .i64 0], .bool false]) ?_ rfl ⟨rfl, ext_setDec hxc (by omega) _ _⟩
      obtain ⟨e0, e1⟩ := (m3.stored 0 0).cells
      change (results Try.f14 _).run Try.prog (setDec wc (w.heap.size + 2) 0 0) = .ok _ (setDec wc (w.heap.size + 2) 0 0)
      generalize setDec wc (w.heap.size + 2) 0 0 = W' at *
      simp [results, Try.results14, go_sem, e0, e1]
end Go.Proofs.Ythfihlapgoglaaa
