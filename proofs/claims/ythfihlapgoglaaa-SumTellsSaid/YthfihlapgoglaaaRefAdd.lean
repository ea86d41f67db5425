/- The walk of the document's Add. -/
import Derived.Test.YthfihlapgoglaaaRefCmp
import Derived.Deep.RegionWith
namespace Go.Proofs.Ythfihlapgoglaaa
open Go.RowKit

theorem digs_pow {N k : Nat} (h : (digs N).length ≤ k) : N < 10 ^ k := by
  have h1 := valD_lt (digs N) (digs_lt N)
  rw [valD_digs] at h1
  exact Nat.lt_of_lt_of_le h1 (Nat.pow_le_pow_right (by omega) h)
theorem decimal_raw (neg : Bool) (N s : Nat) (v : Value) (w : World) (hv : DigV v (digs N) w) (hs : s < 1000) (hl : (digs N).length < 100000) :
    Calls Try.prog 32 #[.bool neg, v, .int .i64 s] w fun e w' => e = .returned (.tuple #[.agg #[.int .i64 (decMv neg N s), .int .i64 (decSv N s)], .bool (decOk N s)]) ∧ Ext w w' :=
  decimal_any neg N s v (digs N) w hv (trimD_digs _) hs hl hl
theorem decimal18 (neg : Bool) (N : Nat) (v : Value) (w : World) (hv : DigV v (digs N) w) (hl : (digs N).length < 100000) :
    Calls Try.prog 32 #[.bool neg, v, .int .i64 18] w fun e w' => e = .returned (.tuple #[.agg #[.int .i64 (decMv neg N 18), .int .i64 (decSv N 18)], .bool (decOk N 18)]) ∧ Ext w w' :=
  decimal_raw neg N 18 v w hv (by omega) hl

set_option maxHeartbeats 16000000 in
set_option maxRecDepth 100000 in
theorem RAdd_good (A1 T1 A2 T2 : Int) (w : World) (i1 : I64 A1) (i2 : I64 A2) (g1 : goodB A1 T1 = true) (g2 : goodB A2 T2 = true) :
    Calls Try.prog 27 #[decV A1 T1, decV A2 T2] w fun e w' => e = .returned (.tuple #[decV (decMv (raB A1 T1 A2 T2) (raN A1 T1 A2 T2) 18) (decSv (raN A1 T1 A2 T2) 18), .bool (decOk (raN A1 T1 A2 T2) 18)]) ∧ Ext w w' := by
  obtain ⟨b1, b2, _⟩ := good_range g1
  obtain ⟨b3, b4, _⟩ := good_range g2
  have G1 := fun w => RGood_any A1 T1 w i1 (by unfold I64; omega)
  have G2 := fun w => RGood_any A2 T2 w i2 (by unfold I64; omega)
  rw [g1] at G1
  rw [g2] at G2
  have r1 : 0 ≤ T1 ∧ T1 ≤ 18 := ⟨b1, b2⟩
  have r2 : 0 ≤ T2 ∧ T2 ≤ 18 := ⟨b3, b4⟩
  have hx : Ext w (((w.alloc (.cells #[.int .i64 A1, .int .i64 T1] 25)).alloc (.cells #[.int .i64 A2, .int .i64 T2] 25)).alloc (.cells #[.int .i64 0, .int .i64 0] 25)) := (((Ext.refl _).alloc _).alloc _).alloc _
  have h1 : DecIn w.heap.size A1 T1 (((w.alloc (.cells #[.int .i64 A1, .int .i64 T1] 25)).alloc (.cells #[.int .i64 A2, .int .i64 T2] 25)).alloc (.cells #[.int .i64 0, .int .i64 0] 25)) := heap_at3a _ _ _ _
  have h2 : DecIn (w.heap.size + 1) A2 T2 (((w.alloc (.cells #[.int .i64 A1, .int .i64 T1] 25)).alloc (.cells #[.int .i64 A2, .int .i64 T2] 25)).alloc (.cells #[.int .i64 0, .int .i64 0] 25)) := heap_at3b _ _ _ _
  have h3 : DecIn (w.heap.size + 2) 0 0 (((w.alloc (.cells #[.int .i64 A1, .int .i64 T1] 25)).alloc (.cells #[.int .i64 A2, .int .i64 T2] 25)).alloc (.cells #[.int .i64 0, .int .i64 0] 25)) := heap_at3c _ _ _ _
  unfold decV at *
  have AM1 := fun w => amount_any A1 w i1
  have AM2 := fun w => amount_any A2 w i2
  have TE1 := fun v w h => tens18 A1 T1 i1 r1 v w h
  have TE2 := fun v w h => tens18 A2 T2 i2 r2 v w h
  have l1 := absN_len i1 r1
  have l2 := absN_len i2 r2
  go_enter Try.func27, Try.ntmps27
  obtain ⟨c0, c1⟩ := h1.cells
  obtain ⟨d0, d1⟩ := h2.cells
  go_wp2_with fail
  (with_reducible refine (G1 _).mono ?_)
  rintro e w1 ⟨rfl, x1⟩
  replace h1 := h1.ext x1
  replace h2 := h2.ext x1
  replace h3 := h3.ext x1
  replace hx := hx.trans x1
  clear c0 c1 d0 d1
  obtain ⟨c0, c1⟩ := h1.cells
  obtain ⟨d0, d1⟩ := h2.cells
  go_wp2_with fail
  (with_reducible refine (G2 _).mono ?_)
  rintro e W ⟨rfl, x2⟩
  have k1 := h1.ext x2
  have k2 := h2.ext x2
  have k3 := h3.ext x2
  replace hx := hx.trans x2
  clear c0 c1 d0 d1 G1 G2 h1 h2 h3
  obtain ⟨c0, c1⟩ := k1.cells
  obtain ⟨d0, d1⟩ := k2.cells
  have Y : Ext W W.drew := (Ext.refl _).drew
  have hY0 : True := trivial
  go_upto_region 3 with fail
  go_cut [6, 7] (fun x y wx => DigV x (digs (absN A1 T1)) wx ∧ DigV y (digs (absN A2 T2)) wx ∧ Ext W wx)
  case first =>
    go_region_held3 (fun w' => w'.cell? ⟨w.heap.size, 0, none⟩ = some (.int .i64 A1) ∧ w'.cell? ⟨w.heap.size, 1, none⟩ = some (.int .i64 T1) ∧ w'.cell? ⟨w.heap.size + 1, 0, none⟩ = some (.int .i64 A2) ∧ w'.cell? ⟨w.heap.size + 1, 1, none⟩ = some (.int .i64 T2)) (first | exact ⟨p0, p1, q0, q1⟩ | exact ⟨c0, c1, d0, d1⟩ | go_keep) (first
      | (go_at_call 34; (with_reducible refine (AM1 _).mono ?_); rintro e wz ⟨⟨a1, rfl, hA1⟩, xz⟩; (try replace hA2 := hA2.ext xz); (try replace hX := hX.ext xz); (try replace hZ := hZ.ext xz); replace Y := Y.trans xz; have p0 := (k1.ext Y).cells.1; have p1 := (k1.ext Y).cells.2; have q0 := (k2.ext Y).cells.1; have q1 := (k2.ext Y).cells.2)
      | (go_at_call 34; (with_reducible refine (AM2 _).mono ?_); rintro e wz ⟨⟨a2, rfl, hA2⟩, xz⟩; (try replace hA1 := hA1.ext xz); (try replace hX := hX.ext xz); (try replace hZ := hZ.ext xz); replace Y := Y.trans xz; have p0 := (k1.ext Y).cells.1; have p1 := (k1.ext Y).cells.2; have q0 := (k2.ext Y).cells.1; have q1 := (k2.ext Y).cells.2)
      | (go_at_call 39; (with_reducible refine (TE1 _ _ ?h).mono ?_); (case h => exact hA1); rintro e wz ⟨⟨t1, rfl, hX⟩, xz⟩; (try replace hA1 := hA1.ext xz); (try replace hA2 := hA2.ext xz); (try replace hZ := hZ.ext xz); replace Y := Y.trans xz; have p0 := (k1.ext Y).cells.1; have p1 := (k1.ext Y).cells.2; have q0 := (k2.ext Y).cells.1; have q1 := (k2.ext Y).cells.2)
      | (go_at_call 39; (with_reducible refine (TE2 _ _ ?h).mono ?_); (case h => exact hA2); rintro e wz ⟨⟨t2, rfl, hZ⟩, xz⟩; (try replace hA1 := hA1.ext xz); (try replace hA2 := hA2.ext xz); (try replace hX := hX.ext xz); replace Y := Y.trans xz; have p0 := (k1.ext Y).cells.1; have p1 := (k1.ext Y).cells.2; have q0 := (k2.ext Y).cells.1; have q1 := (k2.ext Y).cells.2))
    all_goals
      go_wp2_with fail
      go_meet
      case rel => exact ⟨hX, hZ, Y⟩
  case rest =>
    obtain ⟨hX, hZ, xc⟩ := hcut
    have m1 := k1.ext xc
    have m2 := k2.ext xc
    have m3 := k3.ext xc
    have hxc := hx.trans xc
    clear c0 c1 d0 d1 k1 k2 k3 AM1 AM2 TE1 TE2 Y hY0
    obtain ⟨c0, c1⟩ := m1.cells
    obtain ⟨d0, d1⟩ := m2.cells
    by_cases n1 : A1 < 0
    · by_cases n2 : A2 < 0
      · have hlN : (digs (absN A1 T1 + absN A2 T2)).length ≤ 38 := digs_length (k := 38) (by have := digs_pow l1; have := digs_pow l2; omega)
        have PL := fun W (h : DigV u6 (digs (absN A1 T1)) W) (h2 : DigV u7 (digs (absN A2 T2)) W) => plus_dig u6 u7 _ _ W h h2 (by omega) (by omega) (digs_lt _) (digs_lt _)
        rw [valD_digs, valD_digs] at PL
        have HB : raB A1 T1 A2 T2 = true := by unfold raB; rw [if_pos (by rw [decide_eq_true n1, decide_eq_true n2])]; exact decide_eq_true n1
        have HN : raN A1 T1 A2 T2 = (absN A1 T1 + absN A2 T2) := by unfold raN; rw [if_pos (by rw [decide_eq_true n1, decide_eq_true n2])]
        have DE := fun v W (h : DigV v (digs (absN A1 T1 + absN A2 T2)) W) => decimal18 true (absN A1 T1 + absN A2 T2) v W h (by omega)
        have HV := Lib.hid (And.intro HB HN)
        clear HB HN
        go_wp2_with fail
        go_region_with (first
          | (go_at_call 48; (with_reducible refine (PL _ ?h ?h2).mono ?_); (case h => first | exact hX | exact hX.ext (Ext.refl _).drew); (case h2 => first | exact hZ | exact hZ.ext (Ext.refl _).drew); rintro e wp ⟨⟨vp, rfl, hP⟩, xp⟩; have Yp := (by first | exact (Ext.refl wc).drew.trans xp | exact xp : Ext wc wp); have p0 := (m1.ext Yp).cells.1; have q0 := (m2.ext Yp).cells.1)
          | (go_at_call 32; (with_reducible refine (DE _ _ ?h).mono ?_); (case h => exact hP); rintro e wd ⟨rfl, xd⟩; have Yd := Yp.trans xd; have n3 := m3.ext Yd; have f0 := n3.free.1; have f1 := n3.free.2; have s0 := n3.cells.1; have s1 := n3.cells.2))
        all_goals
          go_wp2_with fail
          obtain ⟨hB, hN⟩ := HV.out
          rw [hB, hN]
          clear HV PL DE
          generalize decMv true (absN A1 T1 + absN A2 T2) 18 = RM at *
          generalize decSv (absN A1 T1 + absN A2 T2) 18 = RS at *
          generalize decOk (absN A1 T1 + absN A2 T2) 18 = RO at *
          refine bodyPost_ret (v := .tuple #[.agg #[.int .i64 RM, .int .i64 RS], .bool RO]) ?_ rfl ⟨rfl, ext_setDec (hxc.trans Yd) (by omega) _ _⟩
          obtain ⟨e0, e1⟩ := (n3.stored RM RS).cells
          change (results Try.f27 _).run Try.prog (setDec wd (w.heap.size + 2) RM RS) = .ok _ (setDec wd (w.heap.size + 2) RM RS)
          generalize setDec wd (w.heap.size + 2) RM RS = W' at *
          simp [results, Try.results27, go_sem, e0, e1]
      · by_cases hge : absN A2 T2 ≤ absN A1 T1
        · have hlN : (digs (absN A1 T1 - absN A2 T2)).length ≤ 38 := Nat.le_trans (digs_len_le (Nat.sub_le _ _)) (Nat.le_trans l1 (by omega))
          have PL := fun W (h : DigV u6 (digs (absN A1 T1)) W) (h2 : DigV u7 (digs (absN A2 T2)) W) => minus_dig u6 u7 _ _ W h h2 (by omega) (digs_len_le hge) (digs_lt _) (digs_lt _) (by rw [valD_digs, valD_digs]; exact hge)
          rw [valD_digs, valD_digs] at PL
          have HB : raB A1 T1 A2 T2 = true := by unfold raB; rw [if_neg (by rw [decide_eq_true n1, decide_eq_false n2]; decide), if_pos hge]; exact decide_eq_true n1
          have HN : raN A1 T1 A2 T2 = (absN A1 T1 - absN A2 T2) := by unfold raN; rw [if_neg (by rw [decide_eq_true n1, decide_eq_false n2]; decide), if_pos hge]
          have DE := fun v W (h : DigV v (digs (absN A1 T1 - absN A2 T2)) W) => decimal18 true (absN A1 T1 - absN A2 T2) v W h (by omega)
          have HV := Lib.hid (And.intro HB HN)
          clear HB HN
          have CX := dcompare_any u6 u7 _ _ wc hX hZ (by omega) (by omega)
          rw [cmpDg_digs] at CX
          obtain ⟨cv, hcv, ecv⟩ : ∃ cv, (0 ≤ cv) ∧ cmpN (absN A1 T1) (absN A2 T2) = cv := ⟨_, (by unfold cmpN; rw [if_neg (by omega)]; split <;> omega), rfl⟩
          rw [ecv] at CX
          clear ecv
          go_wp2_with fail
          (with_reducible refine CX.mono ?_)
          rintro e w9 ⟨rfl, x9⟩
          replace hX := hX.ext x9
          replace hZ := hZ.ext x9
          replace m1 := m1.ext x9
          replace m2 := m2.ext x9
          replace m3 := m3.ext x9
          replace hxc := hxc.trans x9
          clear c0 c1 d0 d1 CX
          obtain ⟨c0, c1⟩ := m1.cells
          obtain ⟨d0, d1⟩ := m2.cells
          go_wp2_with fail
          go_region_with (first
            | (go_at_call 49; (with_reducible refine (PL _ ?h ?h2).mono ?_); (case h => first | exact hX | exact hX.ext (Ext.refl _).drew); (case h2 => first | exact hZ | exact hZ.ext (Ext.refl _).drew); rintro e wp ⟨⟨vp, rfl, hP⟩, xp⟩; have Yp := (by first | exact (Ext.refl w9).drew.trans xp | exact xp : Ext w9 wp); have p0 := (m1.ext Yp).cells.1; have q0 := (m2.ext Yp).cells.1)
            | (go_at_call 32; (with_reducible refine (DE _ _ ?h).mono ?_); (case h => exact hP.1); rintro e wd ⟨rfl, xd⟩; have Yd := Yp.trans xd; have n3 := m3.ext Yd; have f0 := n3.free.1; have f1 := n3.free.2; have s0 := n3.cells.1; have s1 := n3.cells.2))
          all_goals
            go_wp2_with fail
            obtain ⟨hB, hN⟩ := HV.out
            rw [hB, hN]
            clear HV PL DE
            generalize decMv true (absN A1 T1 - absN A2 T2) 18 = RM at *
            generalize decSv (absN A1 T1 - absN A2 T2) 18 = RS at *
            generalize decOk (absN A1 T1 - absN A2 T2) 18 = RO at *
            refine bodyPost_ret (v := .tuple #[.agg #[.int .i64 RM, .int .i64 RS], .bool RO]) ?_ rfl ⟨rfl, ext_setDec (hxc.trans Yd) (by omega) _ _⟩
            obtain ⟨e0, e1⟩ := (n3.stored RM RS).cells
            change (results Try.f27 _).run Try.prog (setDec wd (w.heap.size + 2) RM RS) = .ok _ (setDec wd (w.heap.size + 2) RM RS)
            generalize setDec wd (w.heap.size + 2) RM RS = W' at *
            simp [results, Try.results27, go_sem, e0, e1]
        · have hlN : (digs (absN A2 T2 - absN A1 T1)).length ≤ 38 := Nat.le_trans (digs_len_le (Nat.sub_le _ _)) (Nat.le_trans l2 (by omega))
          have PL := fun W (h : DigV u6 (digs (absN A1 T1)) W) (h2 : DigV u7 (digs (absN A2 T2)) W) => minus_dig u7 u6 _ _ W h2 h (by omega) (digs_len_le (by omega)) (digs_lt _) (digs_lt _) (by rw [valD_digs, valD_digs]; omega)
          rw [valD_digs, valD_digs] at PL
          have HB : raB A1 T1 A2 T2 = (decide (A2 < 0)) := by unfold raB; rw [if_neg (by rw [decide_eq_true n1, decide_eq_false n2]; decide), if_neg hge]
          have HN : raN A1 T1 A2 T2 = (absN A2 T2 - absN A1 T1) := by unfold raN; rw [if_neg (by rw [decide_eq_true n1, decide_eq_false n2]; decide), if_neg hge]
          have DE := fun v W (h : DigV v (digs (absN A2 T2 - absN A1 T1)) W) => decimal18 (decide (A2 < 0)) (absN A2 T2 - absN A1 T1) v W h (by omega)
          have HV := Lib.hid (And.intro HB HN)
          clear HB HN
          have CX := dcompare_any u6 u7 _ _ wc hX hZ (by omega) (by omega)
          rw [cmpDg_digs] at CX
          obtain ⟨cv, hcv, ecv⟩ : ∃ cv, (cv < 0) ∧ cmpN (absN A1 T1) (absN A2 T2) = cv := ⟨_, (by unfold cmpN; rw [if_pos (by omega)]; omega), rfl⟩
          rw [ecv] at CX
          clear ecv
          go_wp2_with fail
          (with_reducible refine CX.mono ?_)
          rintro e w9 ⟨rfl, x9⟩
          replace hX := hX.ext x9
          replace hZ := hZ.ext x9
          replace m1 := m1.ext x9
          replace m2 := m2.ext x9
          replace m3 := m3.ext x9
          replace hxc := hxc.trans x9
          clear c0 c1 d0 d1 CX
          obtain ⟨c0, c1⟩ := m1.cells
          obtain ⟨d0, d1⟩ := m2.cells
          go_wp2_with fail
          go_region_with (first
            | (go_at_call 49; (with_reducible refine (PL _ ?h ?h2).mono ?_); (case h => first | exact hX | exact hX.ext (Ext.refl _).drew); (case h2 => first | exact hZ | exact hZ.ext (Ext.refl _).drew); rintro e wp ⟨⟨vp, rfl, hP⟩, xp⟩; have Yp := (by first | exact (Ext.refl w9).drew.trans xp | exact xp : Ext w9 wp); have p0 := (m1.ext Yp).cells.1; have q0 := (m2.ext Yp).cells.1)
            | (go_at_call 32; (with_reducible refine (DE _ _ ?h).mono ?_); (case h => exact hP.1); rintro e wd ⟨rfl, xd⟩; have Yd := Yp.trans xd; have n3 := m3.ext Yd; have f0 := n3.free.1; have f1 := n3.free.2; have s0 := n3.cells.1; have s1 := n3.cells.2))
          all_goals
            go_wp2_with fail
            obtain ⟨hB, hN⟩ := HV.out
            rw [hB, hN]
            clear HV PL DE
            generalize decMv (decide (A2 < 0)) (absN A2 T2 - absN A1 T1) 18 = RM at *
            generalize decSv (absN A2 T2 - absN A1 T1) 18 = RS at *
            generalize decOk (absN A2 T2 - absN A1 T1) 18 = RO at *
            refine bodyPost_ret (v := .tuple #[.agg #[.int .i64 RM, .int .i64 RS], .bool RO]) ?_ rfl ⟨rfl, ext_setDec (hxc.trans Yd) (by omega) _ _⟩
            obtain ⟨e0, e1⟩ := (n3.stored RM RS).cells
            change (results Try.f27 _).run Try.prog (setDec wd (w.heap.size + 2) RM RS) = .ok _ (setDec wd (w.heap.size + 2) RM RS)
            generalize setDec wd (w.heap.size + 2) RM RS = W' at *
            simp [results, Try.results27, go_sem, e0, e1]
    · by_cases n2 : A2 < 0
      · by_cases hge : absN A2 T2 ≤ absN A1 T1
        · have hlN : (digs (absN A1 T1 - absN A2 T2)).length ≤ 38 := Nat.le_trans (digs_len_le (Nat.sub_le _ _)) (Nat.le_trans l1 (by omega))
          have PL := fun W (h : DigV u6 (digs (absN A1 T1)) W) (h2 : DigV u7 (digs (absN A2 T2)) W) => minus_dig u6 u7 _ _ W h h2 (by omega) (digs_len_le hge) (digs_lt _) (digs_lt _) (by rw [valD_digs, valD_digs]; exact hge)
          rw [valD_digs, valD_digs] at PL
          have HB : raB A1 T1 A2 T2 = (decide (A1 < 0)) := by unfold raB; rw [if_neg (by rw [decide_eq_false n1, decide_eq_true n2]; decide), if_pos hge]
          have HN : raN A1 T1 A2 T2 = (absN A1 T1 - absN A2 T2) := by unfold raN; rw [if_neg (by rw [decide_eq_false n1, decide_eq_true n2]; decide), if_pos hge]
          have DE := fun v W (h : DigV v (digs (absN A1 T1 - absN A2 T2)) W) => decimal18 (decide (A1 < 0)) (absN A1 T1 - absN A2 T2) v W h (by omega)
          have HV := Lib.hid (And.intro HB HN)
          clear HB HN
          have CX := dcompare_any u6 u7 _ _ wc hX hZ (by omega) (by omega)
          rw [cmpDg_digs] at CX
          obtain ⟨cv, hcv, ecv⟩ : ∃ cv, (0 ≤ cv) ∧ cmpN (absN A1 T1) (absN A2 T2) = cv := ⟨_, (by unfold cmpN; rw [if_neg (by omega)]; split <;> omega), rfl⟩
          rw [ecv] at CX
          clear ecv
          go_wp2_with fail
          (with_reducible refine CX.mono ?_)
          rintro e w9 ⟨rfl, x9⟩
          replace hX := hX.ext x9
          replace hZ := hZ.ext x9
          replace m1 := m1.ext x9
          replace m2 := m2.ext x9
          replace m3 := m3.ext x9
          replace hxc := hxc.trans x9
          clear c0 c1 d0 d1 CX
          obtain ⟨c0, c1⟩ := m1.cells
          obtain ⟨d0, d1⟩ := m2.cells
          go_wp2_with fail
          go_region_with (first
            | (go_at_call 49; (with_reducible refine (PL _ ?h ?h2).mono ?_); (case h => first | exact hX | exact hX.ext (Ext.refl _).drew); (case h2 => first | exact hZ | exact hZ.ext (Ext.refl _).drew); rintro e wp ⟨⟨vp, rfl, hP⟩, xp⟩; have Yp := (by first | exact (Ext.refl w9).drew.trans xp | exact xp : Ext w9 wp); have p0 := (m1.ext Yp).cells.1; have q0 := (m2.ext Yp).cells.1)
            | (go_at_call 32; (with_reducible refine (DE _ _ ?h).mono ?_); (case h => exact hP.1); rintro e wd ⟨rfl, xd⟩; have Yd := Yp.trans xd; have n3 := m3.ext Yd; have f0 := n3.free.1; have f1 := n3.free.2; have s0 := n3.cells.1; have s1 := n3.cells.2))
          all_goals
            go_wp2_with fail
            obtain ⟨hB, hN⟩ := HV.out
            rw [hB, hN]
            clear HV PL DE
            generalize decMv (decide (A1 < 0)) (absN A1 T1 - absN A2 T2) 18 = RM at *
            generalize decSv (absN A1 T1 - absN A2 T2) 18 = RS at *
            generalize decOk (absN A1 T1 - absN A2 T2) 18 = RO at *
            refine bodyPost_ret (v := .tuple #[.agg #[.int .i64 RM, .int .i64 RS], .bool RO]) ?_ rfl ⟨rfl, ext_setDec (hxc.trans Yd) (by omega) _ _⟩
            obtain ⟨e0, e1⟩ := (n3.stored RM RS).cells
            change (results Try.f27 _).run Try.prog (setDec wd (w.heap.size + 2) RM RS) = .ok _ (setDec wd (w.heap.size + 2) RM RS)
            generalize setDec wd (w.heap.size + 2) RM RS = W' at *
            simp [results, Try.results27, go_sem, e0, e1]
        · have hlN : (digs (absN A2 T2 - absN A1 T1)).length ≤ 38 := Nat.le_trans (digs_len_le (Nat.sub_le _ _)) (Nat.le_trans l2 (by omega))
          have PL := fun W (h : DigV u6 (digs (absN A1 T1)) W) (h2 : DigV u7 (digs (absN A2 T2)) W) => minus_dig u7 u6 _ _ W h2 h (by omega) (digs_len_le (by omega)) (digs_lt _) (digs_lt _) (by rw [valD_digs, valD_digs]; omega)
          rw [valD_digs, valD_digs] at PL
          have HB : raB A1 T1 A2 T2 = true := by unfold raB; rw [if_neg (by rw [decide_eq_false n1, decide_eq_true n2]; decide), if_neg hge]; exact decide_eq_true n2
          have HN : raN A1 T1 A2 T2 = (absN A2 T2 - absN A1 T1) := by unfold raN; rw [if_neg (by rw [decide_eq_false n1, decide_eq_true n2]; decide), if_neg hge]
          have DE := fun v W (h : DigV v (digs (absN A2 T2 - absN A1 T1)) W) => decimal18 true (absN A2 T2 - absN A1 T1) v W h (by omega)
          have HV := Lib.hid (And.intro HB HN)
          clear HB HN
          have CX := dcompare_any u6 u7 _ _ wc hX hZ (by omega) (by omega)
          rw [cmpDg_digs] at CX
          obtain ⟨cv, hcv, ecv⟩ : ∃ cv, (cv < 0) ∧ cmpN (absN A1 T1) (absN A2 T2) = cv := ⟨_, (by unfold cmpN; rw [if_pos (by omega)]; omega), rfl⟩
          rw [ecv] at CX
          clear ecv
          go_wp2_with fail
          (with_reducible refine CX.mono ?_)
          rintro e w9 ⟨rfl, x9⟩
          replace hX := hX.ext x9
          replace hZ := hZ.ext x9
          replace m1 := m1.ext x9
          replace m2 := m2.ext x9
          replace m3 := m3.ext x9
          replace hxc := hxc.trans x9
          clear c0 c1 d0 d1 CX
          obtain ⟨c0, c1⟩ := m1.cells
          obtain ⟨d0, d1⟩ := m2.cells
          go_wp2_with fail
          go_region_with (first
            | (go_at_call 49; (with_reducible refine (PL _ ?h ?h2).mono ?_); (case h => first | exact hX | exact hX.ext (Ext.refl _).drew); (case h2 => first | exact hZ | exact hZ.ext (Ext.refl _).drew); rintro e wp ⟨⟨vp, rfl, hP⟩, xp⟩; have Yp := (by first | exact (Ext.refl w9).drew.trans xp | exact xp : Ext w9 wp); have p0 := (m1.ext Yp).cells.1; have q0 := (m2.ext Yp).cells.1)
            | (go_at_call 32; (with_reducible refine (DE _ _ ?h).mono ?_); (case h => exact hP.1); rintro e wd ⟨rfl, xd⟩; have Yd := Yp.trans xd; have n3 := m3.ext Yd; have f0 := n3.free.1; have f1 := n3.free.2; have s0 := n3.cells.1; have s1 := n3.cells.2))
          all_goals
            go_wp2_with fail
            obtain ⟨hB, hN⟩ := HV.out
            rw [hB, hN]
            clear HV PL DE
            generalize decMv true (absN A2 T2 - absN A1 T1) 18 = RM at *
            generalize decSv (absN A2 T2 - absN A1 T1) 18 = RS at *
            generalize decOk (absN A2 T2 - absN A1 T1) 18 = RO at *
            refine bodyPost_ret (v := .tuple #[.agg #[.int .i64 RM, .int .i64 RS], .bool RO]) ?_ rfl ⟨rfl, ext_setDec (hxc.trans Yd) (by omega) _ _⟩
            obtain ⟨e0, e1⟩ := (n3.stored RM RS).cells
            change (results Try.f27 _).run Try.prog (setDec wd (w.heap.size + 2) RM RS) = .ok _ (setDec wd (w.heap.size + 2) RM RS)
            generalize setDec wd (w.heap.size + 2) RM RS = W' at *
            simp [results, Try.results27, go_sem, e0, e1]
      · have hlN : (digs (absN A1 T1 + absN A2 T2)).length ≤ 38 := digs_length (k := 38) (by have := digs_pow l1; have := digs_pow l2; omega)
        have PL := fun W (h : DigV u6 (digs (absN A1 T1)) W) (h2 : DigV u7 (digs (absN A2 T2)) W) => plus_dig u6 u7 _ _ W h h2 (by omega) (by omega) (digs_lt _) (digs_lt _)
        rw [valD_digs, valD_digs] at PL
        have HB : raB A1 T1 A2 T2 = (decide (A1 < 0)) := by unfold raB; rw [if_pos (by rw [decide_eq_false n1, decide_eq_false n2])]
        have HN : raN A1 T1 A2 T2 = (absN A1 T1 + absN A2 T2) := by unfold raN; rw [if_pos (by rw [decide_eq_false n1, decide_eq_false n2])]
        have DE := fun v W (h : DigV v (digs (absN A1 T1 + absN A2 T2)) W) => decimal18 (decide (A1 < 0)) (absN A1 T1 + absN A2 T2) v W h (by omega)
        have HV := Lib.hid (And.intro HB HN)
        clear HB HN
        go_wp2_with fail
        go_region_with (first
          | (go_at_call 48; (with_reducible refine (PL _ ?h ?h2).mono ?_); (case h => first | exact hX | exact hX.ext (Ext.refl _).drew); (case h2 => first | exact hZ | exact hZ.ext (Ext.refl _).drew); rintro e wp ⟨⟨vp, rfl, hP⟩, xp⟩; have Yp := (by first | exact (Ext.refl wc).drew.trans xp | exact xp : Ext wc wp); have p0 := (m1.ext Yp).cells.1; have q0 := (m2.ext Yp).cells.1)
          | (go_at_call 32; (with_reducible refine (DE _ _ ?h).mono ?_); (case h => exact hP); rintro e wd ⟨rfl, xd⟩; have Yd := Yp.trans xd; have n3 := m3.ext Yd; have f0 := n3.free.1; have f1 := n3.free.2; have s0 := n3.cells.1; have s1 := n3.cells.2))
        all_goals
          go_wp2_with fail
          obtain ⟨hB, hN⟩ := HV.out
          rw [hB, hN]
          clear HV PL DE
          generalize decMv (decide (A1 < 0)) (absN A1 T1 + absN A2 T2) 18 = RM at *
          generalize decSv (absN A1 T1 + absN A2 T2) 18 = RS at *
          generalize decOk (absN A1 T1 + absN A2 T2) 18 = RO at *
          refine bodyPost_ret (v := .tuple #[.agg #[.int .i64 RM, .int .i64 RS], .bool RO]) ?_ rfl ⟨rfl, ext_setDec (hxc.trans Yd) (by omega) _ _⟩
          obtain ⟨e0, e1⟩ := (n3.stored RM RS).cells
          change (results Try.f27 _).run Try.prog (setDec wd (w.heap.size + 2) RM RS) = .ok _ (setDec wd (w.heap.size + 2) RM RS)
          generalize setDec wd (w.heap.size + 2) RM RS = W' at *
          simp [results, Try.results27, go_sem, e0, e1]
end Go.Proofs.Ythfihlapgoglaaa
