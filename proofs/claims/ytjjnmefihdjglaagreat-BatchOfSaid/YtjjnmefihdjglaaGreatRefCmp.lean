import Derived.Test.YtjjnmefihdjglaaGreatGD
import Derived.Deep.RegionHeld3
import Derived.Deep.DeepCutAuto
import Derived.Deep.DeepCutAuto
namespace Go.Proofs.YtjjnmefihdjglaaGreat
open Go.RowKit
theorem cM_in (M S : Int) (hM : I64 M) : (I64 (cM M S) ∧ cM M S ≠ -9223372036854775808) ∧ 0 ≤ cS M S ∧ cS M S ≤ 18 := by
 unfold cM cS
 by_cases g : goodB M S = true
 ·rw [if_pos g, if_pos g]
  obtain ⟨a, b, c⟩ := good_range g
  exact ⟨⟨hM, c⟩, a, b⟩
 ·rw [if_neg g, if_neg g]
  exact ⟨⟨by unfold I64; omega, by omega⟩, by omega, by omega⟩
theorem digs_len19 {M : Int} (hM : I64 M) : (digs M.natAbs).length ≤ 19 := digs_length (by
 have h10 : (9223372036854775808 : Nat) < 10 ^ 19 := by decide
 unfold I64 at hM
 omega)
theorem tensD_len (l : List Nat) (n : Nat) : (tensD l n).length ≤ l.length + n := by
 unfold tensD
 split
 ·simp
 ·rw [List.length_append, List.length_replicate]; exact Nat.le_refl _
theorem absN_len {M S : Int} (hM : I64 M) (hS : 0 ≤ S ∧ S ≤ 18) : (digs (absN M S)).length ≤ 37 := by
 unfold absN
 rw [← tensD_digs]
 have := tensD_len (digs M.natAbs) (18 - S).toNat
 have := digs_len19 hM
 omega
theorem tens18 (M S : Int) (hM : I64 M) (hS : 0 ≤ S ∧ S ≤ 18) (v : Value) (w : World) (h : DigV v (digs M.natAbs) w) :
  Calls Tryz.prog 94 #[v, .int .i64 (IntKind.i64.wrap (18 - S))] w fun e w' => (∃ v', e = .returned v' ∧ DigV v' (digs (absN M S)) w') ∧ Ext w w' := by
 have := digs_len19 hM
 unfold absN
 rw [show IntKind.i64.wrap (18 - S) = ((18 - S).toNat : Int) from by rw [IntWalk.i64_in _ (by omega)]; omega, ← tensD_digs]
 exact tens_any v _ _ w h (by omega) (by omega)
set_option maxHeartbeats 16000000 in
set_option maxRecDepth 100000 in
theorem RCompare_any (M1 S1 M2 S2 : Int) (w : World) (hM1 : I64 M1) (hS1 : I64 S1) (hM2 : I64 M2) (hS2 : I64 S2) :
  Calls Tryz.prog 64 #[decV M1 S1, decV M2 S2] w fun e w' => e = .returned (.int .i64 (rcV (cM M1 S1) (cS M1 S1) (cM M2 S2) (cS M2 S2))) ∧ Ext w w' := by
 have G1 := fun w => RGood_any M1 S1 w hM1 hS1
 have G2 := fun w => RGood_any M2 S2 w hM2 hS2
 obtain ⟨⟨i1, j1⟩, r1⟩ := cM_in M1 S1 hM1
 obtain ⟨⟨i2, j2⟩, r2⟩ := cM_in M2 S2 hM2
 have hx : Ext w ((w.alloc (.cells #[.int .i64 M1, .int .i64 S1] 38)).alloc (.cells #[.int .i64 M2, .int .i64 S2] 38)) := ((Ext.refl _).alloc _).alloc _
 have h1 : DecIn w.heap.size M1 S1 ((w.alloc (.cells #[.int .i64 M1, .int .i64 S1] 38)).alloc (.cells #[.int .i64 M2, .int .i64 S2] 38)) := heap_at2a _ _ _
 have h2 : DecIn (w.heap.size + 1) M2 S2 ((w.alloc (.cells #[.int .i64 M1, .int .i64 S1] 38)).alloc (.cells #[.int .i64 M2, .int .i64 S2] 38)) := heap_at2b _ _ _
 unfold decV at *
 obtain ⟨A1, eA1⟩ : ∃ x, cM M1 S1 = x := ⟨_, rfl⟩
 obtain ⟨T1, eT1⟩ : ∃ x, cS M1 S1 = x := ⟨_, rfl⟩
 obtain ⟨A2, eA2⟩ : ∃ x, cM M2 S2 = x := ⟨_, rfl⟩
 obtain ⟨T2, eT2⟩ : ∃ x, cS M2 S2 = x := ⟨_, rfl⟩
 rw [eA1, eT1, eA2, eT2]
 rw [eA1] at i1
 rw [eA2] at i2
 rw [eT1] at r1
 rw [eT2] at r2
 obtain ⟨RV, hRV⟩ : ∃ x, rcV A1 T1 A2 T2 = x := ⟨_, rfl⟩
 rw [hRV]
 by_cases g1 : goodB M1 S1 = true
 ·rw [g1] at G1
  by_cases g2 : goodB M2 S2 = true
  ·rw [g2] at G2
   go_enter Tryz.func64, Tryz.ntmps64
   obtain ⟨c0, c1⟩ := h1.cells
   obtain ⟨d0, d1⟩ := h2.cells
   go_wp2_with fail
   (with_reducible refine (G1 _).mono ?_)
   rintro e w1 ⟨rfl, x1⟩
   replace h1 := h1.ext x1
   replace h2 := h2.ext x1
   replace hx := hx.trans x1
   clear c0 c1 d0 d1
   obtain ⟨c0, c1⟩ := h1.cells
   obtain ⟨d0, d1⟩ := h2.cells
   obtain ⟨f0, f1⟩ := h1.free
   go_wp2_with fail
   (with_reducible refine (G2 _).mono ?_)
   rintro e w2 ⟨rfl, x2⟩
   replace h1 := h1.ext x2
   replace h2 := h2.ext x2
   replace hx := hx.trans x2
   clear c0 c1 d0 d1 f0 f1
   obtain ⟨W, hW⟩ : ∃ W, w2 = W := ⟨_, rfl⟩
   have k1 : DecIn w.heap.size (cM M1 S1) (cS M1 S1) w2 := by unfold cM cS; rw [if_pos g1, if_pos g1]; exact h1
   have k2 : DecIn (w.heap.size + 1) (cM M2 S2) (cS M2 S2) w2 := by unfold cM cS; rw [if_pos g2, if_pos g2]; exact h2
   rw [hW] at k1 k2 hx ⊢
   clear hW
   rw [eA1, eT1] at k1
   rw [eA2, eT2] at k2
   clear eA1 eT1 eA2 eT2 G1 G2 h1 h2 j1 j2
   have AM1 := fun w => amount_any A1 w i1
   have AM2 := fun w => amount_any A2 w i2
   have TE1 := fun v w h => tens18 A1 T1 i1 r1 v w h
   have TE2 := fun v w h => tens18 A2 T2 i2 r2 v w h
   have l1 := absN_len i1 r1
   have l2 := absN_len i2 r2
   obtain ⟨c0, c1⟩ := k1.cells
   obtain ⟨d0, d1⟩ := k2.cells
   have Y : Ext W W.drew := (Ext.refl _).drew
   have hY0 : True := trivial
   go_upto_region 5 with fail
   go_cut [5, 6] (fun x y wx => DigV x (digs (absN A1 T1)) wx ∧ DigV y (digs (absN A2 T2)) wx ∧ Ext W wx)
   case first =>
    go_region_held3 (fun w' => w'.cell? ⟨w.heap.size, 0, none⟩ = some (.int .i64 A1) ∧ w'.cell? ⟨w.heap.size, 1, none⟩ = some (.int .i64 T1) ∧ w'.cell? ⟨w.heap.size + 1, 0, none⟩ = some (.int .i64 A2) ∧ w'.cell? ⟨w.heap.size + 1, 1, none⟩ = some (.int .i64 T2)) (first | exact ⟨p0, p1, q0, q1⟩ | exact ⟨c0, c1, d0, d1⟩ | go_keep) (first
     | (go_at_call 95; (with_reducible refine (AM1 _).mono ?_); rintro e wz ⟨⟨a1, rfl, hA1⟩, xz⟩; (try replace hA2 := hA2.ext xz); (try replace hX := hX.ext xz); (try replace hZ := hZ.ext xz); replace Y := Y.trans xz; have p0 := (k1.ext Y).cells.1; have p1 := (k1.ext Y).cells.2; have q0 := (k2.ext Y).cells.1; have q1 := (k2.ext Y).cells.2)
     | (go_at_call 95; (with_reducible refine (AM2 _).mono ?_); rintro e wz ⟨⟨a2, rfl, hA2⟩, xz⟩; (try replace hA1 := hA1.ext xz); (try replace hX := hX.ext xz); (try replace hZ := hZ.ext xz); replace Y := Y.trans xz; have p0 := (k1.ext Y).cells.1; have p1 := (k1.ext Y).cells.2; have q0 := (k2.ext Y).cells.1; have q1 := (k2.ext Y).cells.2)
     | (go_at_call 94; (with_reducible refine (TE1 _ _ ?h).mono ?_); (case h => exact hA1); rintro e wz ⟨⟨t1, rfl, hX⟩, xz⟩; (try replace hA1 := hA1.ext xz); (try replace hA2 := hA2.ext xz); (try replace hZ := hZ.ext xz); replace Y := Y.trans xz; have p0 := (k1.ext Y).cells.1; have p1 := (k1.ext Y).cells.2; have q0 := (k2.ext Y).cells.1; have q1 := (k2.ext Y).cells.2)
     | (go_at_call 94; (with_reducible refine (TE2 _ _ ?h).mono ?_); (case h => exact hA2); rintro e wz ⟨⟨t2, rfl, hZ⟩, xz⟩; (try replace hA1 := hA1.ext xz); (try replace hA2 := hA2.ext xz); (try replace hX := hX.ext xz); replace Y := Y.trans xz; have p0 := (k1.ext Y).cells.1; have p1 := (k1.ext Y).cells.2; have q0 := (k2.ext Y).cells.1; have q1 := (k2.ext Y).cells.2))
    all_goals
     go_wp2_with fail
     go_meet
     case rel => exact ⟨hX, hZ, Y⟩
   case rest =>
    obtain ⟨hX, hZ, xc⟩ := hcut
    have m1 := k1.ext xc
    have m2 := k2.ext xc
    have hxc := hx.trans xc
    clear c0 c1 d0 d1 k1 k2 AM1 AM2 TE1 TE2 Y hY0
    obtain ⟨c0, c1⟩ := m1.cells
    obtain ⟨d0, d1⟩ := m2.cells
    have CX := fun W h h' => dcompare_any u5 u6 _ _ W (hX.ext h) (hZ.ext h') (by omega) (by omega)
    have CZ := fun W h h' => dcompare_any u6 u5 _ _ W (hZ.ext h) (hX.ext h') (by omega) (by omega)
    rw [cmpDg_digs] at CX CZ
    by_cases n1 : A1 < 0
    ·by_cases n2 : A2 < 0
     ·have HV : Hid (RV = cmpN (absN A2 T2) (absN A1 T1)) := Lib.hid (by rw [← hRV]; unfold rcV; rw [if_pos ⟨n1, n2⟩])
      clear hRV
      go_wp2_with fail
      (with_reducible refine (CZ _ (Ext.refl _) (Ext.refl _)).mono ?_)
      rintro e w9 ⟨rfl, x9⟩
      go_wp2_with fail
      go_ret
      exact ⟨retI HV.out.symm, hxc.trans x9⟩
     ·have HV : Hid (RV = -1) := Lib.hid (by rw [← hRV]; unfold rcV; rw [if_neg (fun h => n2 h.2), if_pos n1])
      clear hRV
      go_wp2_with fail
      go_ret
      exact ⟨retI HV.out.symm, hxc⟩
    ·by_cases n2 : A2 < 0
     ·have HV : Hid (RV = 1) := Lib.hid (by rw [← hRV]; unfold rcV; rw [if_neg (fun h => n1 h.1), if_neg n1, if_pos n2])
      clear hRV
      go_wp2_with fail
      go_ret
      exact ⟨retI HV.out.symm, hxc⟩
     ·have HV : Hid (RV = cmpN (absN A1 T1) (absN A2 T2)) := Lib.hid (by rw [← hRV]; unfold rcV; rw [if_neg (fun h => n1 h.1), if_neg n1, if_neg n2])
      clear hRV
      go_wp2_with fail
      (with_reducible refine (CX _ (Ext.refl _) (Ext.refl _)).mono ?_)
      rintro e w9 ⟨rfl, x9⟩
      go_wp2_with fail
      go_ret
      exact ⟨retI HV.out.symm, hxc.trans x9⟩
  ·rw [show goodB M2 S2 = false from by simpa using g2] at G2
   go_enter Tryz.func64, Tryz.ntmps64
   obtain ⟨c0, c1⟩ := h1.cells
   obtain ⟨d0, d1⟩ := h2.cells
   go_wp2_with fail
   (with_reducible refine (G1 _).mono ?_)
   rintro e w1 ⟨rfl, x1⟩
   replace h1 := h1.ext x1
   replace h2 := h2.ext x1
   replace hx := hx.trans x1
   clear c0 c1 d0 d1
   obtain ⟨c0, c1⟩ := h1.cells
   obtain ⟨d0, d1⟩ := h2.cells
   obtain ⟨f0, f1⟩ := h1.free
   go_wp2_with fail
   (with_reducible refine (G2 _).mono ?_)
   rintro e w2 ⟨rfl, x2⟩
   replace h1 := h1.ext x2
   replace h2 := h2.ext x2
   replace hx := hx.trans x2
   clear c0 c1 d0 d1 f0 f1
   obtain ⟨f0, f1⟩ := h2.free
   have k1 : DecIn w.heap.size (cM M1 S1) (cS M1 S1) (setDec w2 (w.heap.size + 1) 0 0) := by unfold cM cS; rw [if_pos g1, if_pos g1]; exact (heap_setDec _ _ _ _ _ (by omega)).trans h1
   have k2 : DecIn (w.heap.size + 1) (cM M2 S2) (cS M2 S2) (setDec w2 (w.heap.size + 1) 0 0) := by unfold cM cS; rw [if_neg g2, if_neg g2]; exact h2.stored 0 0
   obtain ⟨d0, d1⟩ := h2.cells
   replace hx := ext_setDec hx (Nat.le_succ _) 0 0
   go_upto_region 5 with fail
   change Code.wp _ _ _ _ (setDec w2 (w.heap.size + 1) 0 0)
   generalize setDec w2 (w.heap.size + 1) 0 0 = W at *
   clear d0 d1 f0 f1
   rw [eA1, eT1] at k1
   rw [eA2, eT2] at k2
   clear eA1 eT1 eA2 eT2 G1 G2 h1 h2 j1 j2
   have AM1 := fun w => amount_any A1 w i1
   have AM2 := fun w => amount_any A2 w i2
   have TE1 := fun v w h => tens18 A1 T1 i1 r1 v w h
   have TE2 := fun v w h => tens18 A2 T2 i2 r2 v w h
   have l1 := absN_len i1 r1
   have l2 := absN_len i2 r2
   obtain ⟨c0, c1⟩ := k1.cells
   obtain ⟨d0, d1⟩ := k2.cells
   have Y : Ext W W.drew := (Ext.refl _).drew
   have hY0 : True := trivial
   go_upto_region 5 with fail
   go_cut [5, 6] (fun x y wx => DigV x (digs (absN A1 T1)) wx ∧ DigV y (digs (absN A2 T2)) wx ∧ Ext W wx)
   case first =>
    go_region_held3 (fun w' => w'.cell? ⟨w.heap.size, 0, none⟩ = some (.int .i64 A1) ∧ w'.cell? ⟨w.heap.size, 1, none⟩ = some (.int .i64 T1) ∧ w'.cell? ⟨w.heap.size + 1, 0, none⟩ = some (.int .i64 A2) ∧ w'.cell? ⟨w.heap.size + 1, 1, none⟩ = some (.int .i64 T2)) (first | exact ⟨p0, p1, q0, q1⟩ | exact ⟨c0, c1, d0, d1⟩ | go_keep) (first
     | (go_at_call 95; (with_reducible refine (AM1 _).mono ?_); rintro e wz ⟨⟨a1, rfl, hA1⟩, xz⟩; (try replace hA2 := hA2.ext xz); (try replace hX := hX.ext xz); (try replace hZ := hZ.ext xz); replace Y := Y.trans xz; have p0 := (k1.ext Y).cells.1; have p1 := (k1.ext Y).cells.2; have q0 := (k2.ext Y).cells.1; have q1 := (k2.ext Y).cells.2)
     | (go_at_call 95; (with_reducible refine (AM2 _).mono ?_); rintro e wz ⟨⟨a2, rfl, hA2⟩, xz⟩; (try replace hA1 := hA1.ext xz); (try replace hX := hX.ext xz); (try replace hZ := hZ.ext xz); replace Y := Y.trans xz; have p0 := (k1.ext Y).cells.1; have p1 := (k1.ext Y).cells.2; have q0 := (k2.ext Y).cells.1; have q1 := (k2.ext Y).cells.2)
     | (go_at_call 94; (with_reducible refine (TE1 _ _ ?h).mono ?_); (case h => exact hA1); rintro e wz ⟨⟨t1, rfl, hX⟩, xz⟩; (try replace hA1 := hA1.ext xz); (try replace hA2 := hA2.ext xz); (try replace hZ := hZ.ext xz); replace Y := Y.trans xz; have p0 := (k1.ext Y).cells.1; have p1 := (k1.ext Y).cells.2; have q0 := (k2.ext Y).cells.1; have q1 := (k2.ext Y).cells.2)
     | (go_at_call 94; (with_reducible refine (TE2 _ _ ?h).mono ?_); (case h => exact hA2); rintro e wz ⟨⟨t2, rfl, hZ⟩, xz⟩; (try replace hA1 := hA1.ext xz); (try replace hA2 := hA2.ext xz); (try replace hX := hX.ext xz); replace Y := Y.trans xz; have p0 := (k1.ext Y).cells.1; have p1 := (k1.ext Y).cells.2; have q0 := (k2.ext Y).cells.1; have q1 := (k2.ext Y).cells.2))
    all_goals
     go_wp2_with fail
     go_meet
     case rel => exact ⟨hX, hZ, Y⟩
   case rest =>
    obtain ⟨hX, hZ, xc⟩ := hcut
    have m1 := k1.ext xc
    have m2 := k2.ext xc
    have hxc := hx.trans xc
    clear c0 c1 d0 d1 k1 k2 AM1 AM2 TE1 TE2 Y hY0
    obtain ⟨c0, c1⟩ := m1.cells
    obtain ⟨d0, d1⟩ := m2.cells
    have CX := fun W h h' => dcompare_any u5 u6 _ _ W (hX.ext h) (hZ.ext h') (by omega) (by omega)
    have CZ := fun W h h' => dcompare_any u6 u5 _ _ W (hZ.ext h) (hX.ext h') (by omega) (by omega)
    rw [cmpDg_digs] at CX CZ
    by_cases n1 : A1 < 0
    ·by_cases n2 : A2 < 0
     ·have HV : Hid (RV = cmpN (absN A2 T2) (absN A1 T1)) := Lib.hid (by rw [← hRV]; unfold rcV; rw [if_pos ⟨n1, n2⟩])
      clear hRV
      go_wp2_with fail
      (with_reducible refine (CZ _ (Ext.refl _) (Ext.refl _)).mono ?_)
      rintro e w9 ⟨rfl, x9⟩
      go_wp2_with fail
      go_ret
      exact ⟨retI HV.out.symm, hxc.trans x9⟩
     ·have HV : Hid (RV = -1) := Lib.hid (by rw [← hRV]; unfold rcV; rw [if_neg (fun h => n2 h.2), if_pos n1])
      clear hRV
      go_wp2_with fail
      go_ret
      exact ⟨retI HV.out.symm, hxc⟩
    ·by_cases n2 : A2 < 0
     ·have HV : Hid (RV = 1) := Lib.hid (by rw [← hRV]; unfold rcV; rw [if_neg (fun h => n1 h.1), if_neg n1, if_pos n2])
      clear hRV
      go_wp2_with fail
      go_ret
      exact ⟨retI HV.out.symm, hxc⟩
     ·have HV : Hid (RV = cmpN (absN A1 T1) (absN A2 T2)) := Lib.hid (by rw [← hRV]; unfold rcV; rw [if_neg (fun h => n1 h.1), if_neg n1, if_neg n2])
      clear hRV
      go_wp2_with fail
      (with_reducible refine (CX _ (Ext.refl _) (Ext.refl _)).mono ?_)
      rintro e w9 ⟨rfl, x9⟩
      go_wp2_with fail
      go_ret
      exact ⟨retI HV.out.symm, hxc.trans x9⟩
 ·rw [show goodB M1 S1 = false from by simpa using g1] at G1
  by_cases g2 : goodB M2 S2 = true
  ·rw [g2] at G2
   go_enter Tryz.func64, Tryz.ntmps64
   obtain ⟨c0, c1⟩ := h1.cells
   obtain ⟨d0, d1⟩ := h2.cells
   go_wp2_with fail
   (with_reducible refine (G1 _).mono ?_)
   rintro e w1 ⟨rfl, x1⟩
   replace h1 := h1.ext x1
   replace h2 := h2.ext x1
   replace hx := hx.trans x1
   clear c0 c1 d0 d1
   obtain ⟨c0, c1⟩ := h1.cells
   obtain ⟨d0, d1⟩ := h2.cells
   obtain ⟨f0, f1⟩ := h1.free
   go_wp2_with fail
   (with_reducible refine (G2 _).mono ?_)
   rintro e w2 ⟨rfl, x2⟩
   have h3 : DecIn w.heap.size 0 0 w2 := (h1.stored 0 0).ext x2
   have h4 : DecIn (w.heap.size + 1) M2 S2 w2 := DecIn.ext ((heap_setDec _ _ _ _ _ (by omega)).trans h2) x2
   replace hx := (ext_setDec hx (Nat.le_refl _) 0 0).trans x2
   clear h1 h2
   have h1 := h3
   have h2 := h4
   clear c0 c1 d0 d1 f0 f1
   obtain ⟨W, hW⟩ : ∃ W, w2 = W := ⟨_, rfl⟩
   have k1 : DecIn w.heap.size (cM M1 S1) (cS M1 S1) w2 := by unfold cM cS; rw [if_neg g1, if_neg g1]; exact h1
   have k2 : DecIn (w.heap.size + 1) (cM M2 S2) (cS M2 S2) w2 := by unfold cM cS; rw [if_pos g2, if_pos g2]; exact h2
   rw [hW] at k1 k2 hx ⊢
   clear hW
   rw [eA1, eT1] at k1
   rw [eA2, eT2] at k2
   clear eA1 eT1 eA2 eT2 G1 G2 h1 h2 j1 j2
   have AM1 := fun w => amount_any A1 w i1
   have AM2 := fun w => amount_any A2 w i2
   have TE1 := fun v w h => tens18 A1 T1 i1 r1 v w h
   have TE2 := fun v w h => tens18 A2 T2 i2 r2 v w h
   have l1 := absN_len i1 r1
   have l2 := absN_len i2 r2
   obtain ⟨c0, c1⟩ := k1.cells
   obtain ⟨d0, d1⟩ := k2.cells
   have Y : Ext W W.drew := (Ext.refl _).drew
   have hY0 : True := trivial
   go_upto_region 5 with fail
   go_cut [5, 6] (fun x y wx => DigV x (digs (absN A1 T1)) wx ∧ DigV y (digs (absN A2 T2)) wx ∧ Ext W wx)
   case first =>
    go_region_held3 (fun w' => w'.cell? ⟨w.heap.size, 0, none⟩ = some (.int .i64 A1) ∧ w'.cell? ⟨w.heap.size, 1, none⟩ = some (.int .i64 T1) ∧ w'.cell? ⟨w.heap.size + 1, 0, none⟩ = some (.int .i64 A2) ∧ w'.cell? ⟨w.heap.size + 1, 1, none⟩ = some (.int .i64 T2)) (first | exact ⟨p0, p1, q0, q1⟩ | exact ⟨c0, c1, d0, d1⟩ | go_keep) (first
     | (go_at_call 95; (with_reducible refine (AM1 _).mono ?_); rintro e wz ⟨⟨a1, rfl, hA1⟩, xz⟩; (try replace hA2 := hA2.ext xz); (try replace hX := hX.ext xz); (try replace hZ := hZ.ext xz); replace Y := Y.trans xz; have p0 := (k1.ext Y).cells.1; have p1 := (k1.ext Y).cells.2; have q0 := (k2.ext Y).cells.1; have q1 := (k2.ext Y).cells.2)
     | (go_at_call 95; (with_reducible refine (AM2 _).mono ?_); rintro e wz ⟨⟨a2, rfl, hA2⟩, xz⟩; (try replace hA1 := hA1.ext xz); (try replace hX := hX.ext xz); (try replace hZ := hZ.ext xz); replace Y := Y.trans xz; have p0 := (k1.ext Y).cells.1; have p1 := (k1.ext Y).cells.2; have q0 := (k2.ext Y).cells.1; have q1 := (k2.ext Y).cells.2)
     | (go_at_call 94; (with_reducible refine (TE1 _ _ ?h).mono ?_); (case h => exact hA1); rintro e wz ⟨⟨t1, rfl, hX⟩, xz⟩; (try replace hA1 := hA1.ext xz); (try replace hA2 := hA2.ext xz); (try replace hZ := hZ.ext xz); replace Y := Y.trans xz; have p0 := (k1.ext Y).cells.1; have p1 := (k1.ext Y).cells.2; have q0 := (k2.ext Y).cells.1; have q1 := (k2.ext Y).cells.2)
     | (go_at_call 94; (with_reducible refine (TE2 _ _ ?h).mono ?_); (case h => exact hA2); rintro e wz ⟨⟨t2, rfl, hZ⟩, xz⟩; (try replace hA1 := hA1.ext xz); (try replace hA2 := hA2.ext xz); (try replace hX := hX.ext xz); replace Y := Y.trans xz; have p0 := (k1.ext Y).cells.1; have p1 := (k1.ext Y).cells.2; have q0 := (k2.ext Y).cells.1; have q1 := (k2.ext Y).cells.2))
    all_goals
     go_wp2_with fail
     go_meet
     case rel => exact ⟨hX, hZ, Y⟩
   case rest =>
    obtain ⟨hX, hZ, xc⟩ := hcut
    have m1 := k1.ext xc
    have m2 := k2.ext xc
    have hxc := hx.trans xc
    clear c0 c1 d0 d1 k1 k2 AM1 AM2 TE1 TE2 Y hY0
    obtain ⟨c0, c1⟩ := m1.cells
    obtain ⟨d0, d1⟩ := m2.cells
    have CX := fun W h h' => dcompare_any u5 u6 _ _ W (hX.ext h) (hZ.ext h') (by omega) (by omega)
    have CZ := fun W h h' => dcompare_any u6 u5 _ _ W (hZ.ext h) (hX.ext h') (by omega) (by omega)
    rw [cmpDg_digs] at CX CZ
    by_cases n1 : A1 < 0
    ·by_cases n2 : A2 < 0
     ·have HV : Hid (RV = cmpN (absN A2 T2) (absN A1 T1)) := Lib.hid (by rw [← hRV]; unfold rcV; rw [if_pos ⟨n1, n2⟩])
      clear hRV
      go_wp2_with fail
      (with_reducible refine (CZ _ (Ext.refl _) (Ext.refl _)).mono ?_)
      rintro e w9 ⟨rfl, x9⟩
      go_wp2_with fail
      go_ret
      exact ⟨retI HV.out.symm, hxc.trans x9⟩
     ·have HV : Hid (RV = -1) := Lib.hid (by rw [← hRV]; unfold rcV; rw [if_neg (fun h => n2 h.2), if_pos n1])
      clear hRV
      go_wp2_with fail
      go_ret
      exact ⟨retI HV.out.symm, hxc⟩
    ·by_cases n2 : A2 < 0
     ·have HV : Hid (RV = 1) := Lib.hid (by rw [← hRV]; unfold rcV; rw [if_neg (fun h => n1 h.1), if_neg n1, if_pos n2])
      clear hRV
      go_wp2_with fail
      go_ret
      exact ⟨retI HV.out.symm, hxc⟩
     ·have HV : Hid (RV = cmpN (absN A1 T1) (absN A2 T2)) := Lib.hid (by rw [← hRV]; unfold rcV; rw [if_neg (fun h => n1 h.1), if_neg n1, if_neg n2])
      clear hRV
      go_wp2_with fail
      (with_reducible refine (CX _ (Ext.refl _) (Ext.refl _)).mono ?_)
      rintro e w9 ⟨rfl, x9⟩
      go_wp2_with fail
      go_ret
      exact ⟨retI HV.out.symm, hxc.trans x9⟩
  ·rw [show goodB M2 S2 = false from by simpa using g2] at G2
   go_enter Tryz.func64, Tryz.ntmps64
   obtain ⟨c0, c1⟩ := h1.cells
   obtain ⟨d0, d1⟩ := h2.cells
   go_wp2_with fail
   (with_reducible refine (G1 _).mono ?_)
   rintro e w1 ⟨rfl, x1⟩
   replace h1 := h1.ext x1
   replace h2 := h2.ext x1
   replace hx := hx.trans x1
   clear c0 c1 d0 d1
   obtain ⟨c0, c1⟩ := h1.cells
   obtain ⟨d0, d1⟩ := h2.cells
   obtain ⟨f0, f1⟩ := h1.free
   go_wp2_with fail
   (with_reducible refine (G2 _).mono ?_)
   rintro e w2 ⟨rfl, x2⟩
   have h3 : DecIn w.heap.size 0 0 w2 := (h1.stored 0 0).ext x2
   have h4 : DecIn (w.heap.size + 1) M2 S2 w2 := DecIn.ext ((heap_setDec _ _ _ _ _ (by omega)).trans h2) x2
   replace hx := (ext_setDec hx (Nat.le_refl _) 0 0).trans x2
   clear h1 h2
   have h1 := h3
   have h2 := h4
   clear c0 c1 d0 d1 f0 f1
   obtain ⟨f0, f1⟩ := h2.free
   have k1 : DecIn w.heap.size (cM M1 S1) (cS M1 S1) (setDec w2 (w.heap.size + 1) 0 0) := by unfold cM cS; rw [if_neg g1, if_neg g1]; exact (heap_setDec _ _ _ _ _ (by omega)).trans h1
   have k2 : DecIn (w.heap.size + 1) (cM M2 S2) (cS M2 S2) (setDec w2 (w.heap.size + 1) 0 0) := by unfold cM cS; rw [if_neg g2, if_neg g2]; exact h2.stored 0 0
   obtain ⟨d0, d1⟩ := h2.cells
   replace hx := ext_setDec hx (Nat.le_succ _) 0 0
   go_upto_region 5 with fail
   change Code.wp _ _ _ _ (setDec w2 (w.heap.size + 1) 0 0)
   generalize setDec w2 (w.heap.size + 1) 0 0 = W at *
   clear d0 d1 f0 f1
   rw [eA1, eT1] at k1
   rw [eA2, eT2] at k2
   clear eA1 eT1 eA2 eT2 G1 G2 h1 h2 j1 j2
   have AM1 := fun w => amount_any A1 w i1
   have AM2 := fun w => amount_any A2 w i2
   have TE1 := fun v w h => tens18 A1 T1 i1 r1 v w h
   have TE2 := fun v w h => tens18 A2 T2 i2 r2 v w h
   have l1 := absN_len i1 r1
   have l2 := absN_len i2 r2
   obtain ⟨c0, c1⟩ := k1.cells
   obtain ⟨d0, d1⟩ := k2.cells
   have Y : Ext W W.drew := (Ext.refl _).drew
   have hY0 : True := trivial
   go_upto_region 5 with fail
   go_cut [5, 6] (fun x y wx => DigV x (digs (absN A1 T1)) wx ∧ DigV y (digs (absN A2 T2)) wx ∧ Ext W wx)
   case first =>
    go_region_held3 (fun w' => w'.cell? ⟨w.heap.size, 0, none⟩ = some (.int .i64 A1) ∧ w'.cell? ⟨w.heap.size, 1, none⟩ = some (.int .i64 T1) ∧ w'.cell? ⟨w.heap.size + 1, 0, none⟩ = some (.int .i64 A2) ∧ w'.cell? ⟨w.heap.size + 1, 1, none⟩ = some (.int .i64 T2)) (first | exact ⟨p0, p1, q0, q1⟩ | exact ⟨c0, c1, d0, d1⟩ | go_keep) (first
     | (go_at_call 95; (with_reducible refine (AM1 _).mono ?_); rintro e wz ⟨⟨a1, rfl, hA1⟩, xz⟩; (try replace hA2 := hA2.ext xz); (try replace hX := hX.ext xz); (try replace hZ := hZ.ext xz); replace Y := Y.trans xz; have p0 := (k1.ext Y).cells.1; have p1 := (k1.ext Y).cells.2; have q0 := (k2.ext Y).cells.1; have q1 := (k2.ext Y).cells.2)
     | (go_at_call 95; (with_reducible refine (AM2 _).mono ?_); rintro e wz ⟨⟨a2, rfl, hA2⟩, xz⟩; (try replace hA1 := hA1.ext xz); (try replace hX := hX.ext xz); (try replace hZ := hZ.ext xz); replace Y := Y.trans xz; have p0 := (k1.ext Y).cells.1; have p1 := (k1.ext Y).cells.2; have q0 := (k2.ext Y).cells.1; have q1 := (k2.ext Y).cells.2)
     | (go_at_call 94; (with_reducible refine (TE1 _ _ ?h).mono ?_); (case h => exact hA1); rintro e wz ⟨⟨t1, rfl, hX⟩, xz⟩; (try replace hA1 := hA1.ext xz); (try replace hA2 := hA2.ext xz); (try replace hZ := hZ.ext xz); replace Y := Y.trans xz; have p0 := (k1.ext Y).cells.1; have p1 := (k1.ext Y).cells.2; have q0 := (k2.ext Y).cells.1; have q1 := (k2.ext Y).cells.2)
     | (go_at_call 94; (with_reducible refine (TE2 _ _ ?h).mono ?_); (case h => exact hA2); rintro e wz ⟨⟨t2, rfl, hZ⟩, xz⟩; (try replace hA1 := hA1.ext xz); (try replace hA2 := hA2.ext xz); (try replace hX := hX.ext xz); replace Y := Y.trans xz; have p0 := (k1.ext Y).cells.1; have p1 := (k1.ext Y).cells.2; have q0 := (k2.ext Y).cells.1; have q1 := (k2.ext Y).cells.2))
    all_goals
     go_wp2_with fail
     go_meet
     case rel => exact ⟨hX, hZ, Y⟩
   case rest =>
    obtain ⟨hX, hZ, xc⟩ := hcut
    have m1 := k1.ext xc
    have m2 := k2.ext xc
    have hxc := hx.trans xc
    clear c0 c1 d0 d1 k1 k2 AM1 AM2 TE1 TE2 Y hY0
    obtain ⟨c0, c1⟩ := m1.cells
    obtain ⟨d0, d1⟩ := m2.cells
    have CX := fun W h h' => dcompare_any u5 u6 _ _ W (hX.ext h) (hZ.ext h') (by omega) (by omega)
    have CZ := fun W h h' => dcompare_any u6 u5 _ _ W (hZ.ext h) (hX.ext h') (by omega) (by omega)
    rw [cmpDg_digs] at CX CZ
    by_cases n1 : A1 < 0
    ·by_cases n2 : A2 < 0
     ·have HV : Hid (RV = cmpN (absN A2 T2) (absN A1 T1)) := Lib.hid (by rw [← hRV]; unfold rcV; rw [if_pos ⟨n1, n2⟩])
      clear hRV
      go_wp2_with fail
      (with_reducible refine (CZ _ (Ext.refl _) (Ext.refl _)).mono ?_)
      rintro e w9 ⟨rfl, x9⟩
      go_wp2_with fail
      go_ret
      exact ⟨retI HV.out.symm, hxc.trans x9⟩
     ·have HV : Hid (RV = -1) := Lib.hid (by rw [← hRV]; unfold rcV; rw [if_neg (fun h => n2 h.2), if_pos n1])
      clear hRV
      go_wp2_with fail
      go_ret
      exact ⟨retI HV.out.symm, hxc⟩
    ·by_cases n2 : A2 < 0
     ·have HV : Hid (RV = 1) := Lib.hid (by rw [← hRV]; unfold rcV; rw [if_neg (fun h => n1 h.1), if_neg n1, if_pos n2])
      clear hRV
      go_wp2_with fail
      go_ret
      exact ⟨retI HV.out.symm, hxc⟩
     ·have HV : Hid (RV = cmpN (absN A1 T1) (absN A2 T2)) := Lib.hid (by rw [← hRV]; unfold rcV; rw [if_neg (fun h => n1 h.1), if_neg n1, if_neg n2])
      clear hRV
      go_wp2_with fail
      (with_reducible refine (CX _ (Ext.refl _) (Ext.refl _)).mono ?_)
      rintro e w9 ⟨rfl, x9⟩
      go_wp2_with fail
      go_ret
      exact ⟨retI HV.out.symm, hxc.trans x9⟩
end Go.Proofs.YtjjnmefihdjglaaGreat
