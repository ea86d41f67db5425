/- The walks of stamp.Seconds, dec.Norm. -/
import Derived.Test.YtiancppdcfahaaaDoorStampB
import Derived.Test.YtiancppdcfahaaaDoorLawSum2
namespace Go.Proofs.YtiancppdcfahaaaDoor
open Go.RowKit

theorem tmod10 (m : Int) : m.tmod 10 = 0 ↔ m.natAbs % 10 = 0 := by
  have : (m.tmod 10).natAbs = m.natAbs % 10 := by rw [Int.natAbs_tmod]; rfl
  omega
theorem tdiv10 (m : Int) : (m.tdiv 10).natAbs = m.natAbs / 10 := by rw [Int.natAbs_tdiv]; rfl
theorem tdiv10_sign (m : Int) (h : m.tmod 10 = 0) : m = m.tdiv 10 * 10 := by
  have := Int.mul_tdiv_add_tmod m 10
  rw [h] at this
  omega

/-- What dec.Norm tells: a number's one form, if there is one. -/
theorem canZ_step {m : Int} {s : Nat} (h : m.tmod 10 = 0) : canZ m (s + 1) = canZ (m.tdiv 10) s := by
  have h1 := canZ_ups (m.tdiv 10) s 1
  rw [show (10 : Int) ^ 1 = 10 from rfl, ← tdiv10_sign m h] at h1
  exact h1
theorem canZ_last {m : Int} {s : Nat} (hm : I64 m) (h : s = 0 ∨ m.tmod 10 ≠ 0) : canZ m s = if goodB m s then ((m, (s : Int)), true) else ((0, 0), false) := by
  have h10 : s = 0 ∨ m.natAbs % 10 ≠ 0 := h.imp_right (fun h1 h2 => h1 ((tmod10 m).2 h2))
  by_cases hg : goodB m s = true
  · rw [if_pos hg]
    have := canZ_good hg hm
    rw [Int.toNat_natCast] at this
    exact this
  · rw [if_neg hg]
    have hs := strip_good m.natAbs s h10
    have ok : decOk m.natAbs s = false := by
      unfold decOk
      rw [hs]
      apply decide_eq_false
      intro hc
      apply hg
      unfold I64 at hm
      exact good_mk (by omega) (by simp only [] at hc; omega) (by simp only [] at hc; omega) (by omega)
    have hb : (canZ m s).2 = false := ok
    have := canZ_bad hb
    exact Prod.ext this hb

set_option maxHeartbeats 8000000 in
set_option maxRecDepth 100000 in
theorem DNorm_any (m : Int) (s : Nat) (w : World) (hm : I64 m) (hs : s < 1000) :
    Calls Tryd.prog 11 #[.int .i64 m, .int .i64 s] w fun e w' => e = .returned (.tuple #[decV (canZ m s).1.1 (canZ m s).1.2, .bool (canZ m s).2]) ∧ Ext w w' := by
  have hx : Ext w (w.alloc (.cells #[.int .i64 0, .int .i64 0] 23)) := (Ext.refl _).alloc _
  have h2 : DecIn w.heap.size 0 0 (w.alloc (.cells #[.int .i64 0, .int .i64 0] 23)) := heap_last _ _
  by_cases h0 : m = 0 ∧ 0 < s
  · obtain ⟨rfl, hs0⟩ := h0
    rw [canZ_zero]
    go_enter Tryd.func11, Tryd.ntmps11
    go_wp2_with fail
    exact bodyPost_ret (v := .tuple #[decV 0 0, .bool true]) (by simp [results, Tryd.results11, go_sem, decV]) rfl ⟨rfl, hx⟩
  · by_cases hm0 : m = 0
    · obtain rfl : s = 0 := by omega
      subst hm0
      rw [canZ_zero]
      have G := fun w => Good_any 0 0 w hm hm
      rw [good_zero] at G
      unfold decV at G
      go_enter Tryd.func11, Tryd.ntmps11
      go_wp2_with fail
      refine wp_loop_rounds 1 ?_
      rw [rounds_succ]
      go_wp2_with fail
      refine (G _).mono ?_
      rintro e w1 ⟨rfl, x1⟩
      have hx2 := (hx.alloc (.cells #[.int .i64 0, .int .i64 0] 23)).trans x1
      have k6 : DecIn (w.heap.size + 1) 0 0 w1 := DecIn.ext (heap_at2b _ _ _) x1
      replace h2 := (h2.ext ((Ext.refl _).alloc (.cells #[.int .i64 0, .int .i64 0] 23))).ext x1
      obtain ⟨c0, c1⟩ := k6.cells
      obtain ⟨d0, d1⟩ := h2.cells
      obtain ⟨f0, f1⟩ := h2.free
      go_wp2_with fail
      refine bodyPost_ret (v := .tuple #[decV 0 0, .bool true]) ?_ rfl ⟨rfl, ext_setDec hx2 (Nat.le_refl _) _ _⟩
      obtain ⟨t0, t1⟩ := (h2.stored 0 0).cells
      change (results Tryd.f11 _).run Tryd.prog (setDec w1 w.heap.size 0 0) = .ok _ (setDec w1 w.heap.size 0 0)
      generalize setDec w1 w.heap.size 0 0 = W' at *
      simp [results, Tryd.results11, go_sem, t0, t1, decV]
    · go_enter Tryd.func11, Tryd.ntmps11
      go_wp2_with fail
      generalize w.alloc (.cells #[.int .i64 0, .int .i64 0] 23) = W at *
      go_loopw [0, 1] (fun x y wr => ∃ (m' : Int) (s' : Nat), x = .int .i64 m' ∧ y = .int .i64 s' ∧ I64 m' ∧ m' ≠ 0 ∧ s' < 1000 ∧ Hid (canZ m' s' = canZ m s) ∧ wr = W) (fun _ y _ => (intOf y).toNat)
      case atStart => exact ⟨m, s, rfl, rfl, hm, hm0, hs, rfl, rfl⟩
      case round =>
        obtain ⟨m', s', rfl, rfl, l1, l2, l3, hcz, rfl⟩ := hrel
        by_cases hs0 : 0 < s'
        · by_cases hz : m'.tmod 10 = 0
          · have hst : Hid (canZ (m'.tdiv 10) (s' - 1) = canZ m s) := Lib.hid (by rw [← hcz.out, ← canZ_step hz, show s' - 1 + 1 = s' from by omega])
            have hq := tdiv_range m' 10 (by omega) l1
            have hne : m'.tdiv 10 ≠ 0 := fun h => l2 (by rw [tdiv10_sign m' hz, h]; rfl)
            have n0 : binOp .eql 2 (.int .i64 (m'.tmod 10)) (.int .i64 0) = pure (.bool true) := by
              simp only [go_sem]; rw [show (m'.tmod 10 == 0) = true from by simpa using hz]
            have HQ := Lib.hid hq
            unfold I64 at hq l1
            clear hcz hz
            go_wp2_with fail
            go_roundw
            case rel => exact ⟨m'.tdiv 10, s' - 1, rfl, vI (by omega), HQ.out, hne, by omega, hst, trivial⟩
            case measure => simp only [intOf]; omega
          · have n0 : binOp .eql 2 (.int .i64 (m'.tmod 10)) (.int .i64 0) = pure (.bool false) := by
              simp only [go_sem]; rw [show (m'.tmod 10 == 0) = false from by simpa using hz]
            have hstop : s' = 0 ∨ m'.tmod 10 ≠ 0 := .inr hz
            clear hz
            replace hcz : Hid ((if goodB m' s' then ((m', (s' : Int)), true) else ((0, 0), false)) = canZ m s) := Lib.hid ((canZ_last l1 hstop).symm.trans hcz.out)
            have G := fun w => Good_any m' s' w l1 (by unfold I64; omega)
            unfold decV at G
            unfold I64 at l1
            clear hstop
            cases hg : goodB m' s'
            · rw [hg] at G hcz
              rw [if_neg (by decide)] at hcz
              clear hg
              go_wp2_with fail
              refine (G _).mono ?_
              rintro e w1 ⟨rfl, x1⟩
              have k6 : DecIn wr.heap.size m' s' w1 := DecIn.ext (heap_last _ _) x1
              have x2 := ((Ext.refl wr).alloc (.cells #[.int .i64 m', .int .i64 s'] 23)).trans x1
              replace h2 := h2.ext x2
              replace hx := hx.trans x2
              obtain ⟨c0, c1⟩ := k6.cells
              obtain ⟨d0, d1⟩ := h2.cells
              obtain ⟨f0, f1⟩ := h2.free
              go_wp2_with fail
              rw [← hcz.out]
              refine bodyPost_ret (v := .tuple #[decV (0) (0), .bool false]) ?_ rfl ⟨rfl, ext_setDec hx (Nat.le_refl _) _ _⟩
              obtain ⟨t0, t1⟩ := (h2.stored (0) (0)).cells
              change (results Tryd.f11 _).run Tryd.prog (setDec w1 w.heap.size (0) (0)) = .ok _ (setDec w1 w.heap.size (0) (0))
              generalize setDec w1 w.heap.size (0) (0) = W' at *
              simp [results, Tryd.results11, go_sem, t0, t1, decV]
            · rw [hg] at G hcz
              rw [if_pos rfl] at hcz
              clear hg
              go_wp2_with fail
              refine (G _).mono ?_
              rintro e w1 ⟨rfl, x1⟩
              have k6 : DecIn wr.heap.size m' s' w1 := DecIn.ext (heap_last _ _) x1
              have x2 := ((Ext.refl wr).alloc (.cells #[.int .i64 m', .int .i64 s'] 23)).trans x1
              replace h2 := h2.ext x2
              replace hx := hx.trans x2
              obtain ⟨c0, c1⟩ := k6.cells
              obtain ⟨d0, d1⟩ := h2.cells
              obtain ⟨f0, f1⟩ := h2.free
              go_wp2_with fail
              rw [← hcz.out]
              refine bodyPost_ret (v := .tuple #[decV (m') (s'), .bool true]) ?_ rfl ⟨rfl, ext_setDec hx (Nat.le_refl _) _ _⟩
              obtain ⟨t0, t1⟩ := (h2.stored (m') (s')).cells
              change (results Tryd.f11 _).run Tryd.prog (setDec w1 w.heap.size (m') (s')) = .ok _ (setDec w1 w.heap.size (m') (s'))
              generalize setDec w1 w.heap.size (m') (s') = W' at *
              simp [results, Tryd.results11, go_sem, t0, t1, decV]
        · have hstop : s' = 0 ∨ m'.tmod 10 ≠ 0 := .inl (by omega)
          replace hcz : Hid ((if goodB m' s' then ((m', (s' : Int)), true) else ((0, 0), false)) = canZ m s) := Lib.hid ((canZ_last l1 hstop).symm.trans hcz.out)
          have G := fun w => Good_any m' s' w l1 (by unfold I64; omega)
          unfold decV at G
          unfold I64 at l1
          clear hstop
          cases hg : goodB m' s'
          · rw [hg] at G hcz
            rw [if_neg (by decide)] at hcz
            clear hg
            go_wp2_with fail
            refine (G _).mono ?_
            rintro e w1 ⟨rfl, x1⟩
            have k6 : DecIn wr.heap.size m' s' w1 := DecIn.ext (heap_last _ _) x1
            have x2 := ((Ext.refl wr).alloc (.cells #[.int .i64 m', .int .i64 s'] 23)).trans x1
            replace h2 := h2.ext x2
            replace hx := hx.trans x2
            obtain ⟨c0, c1⟩ := k6.cells
            obtain ⟨d0, d1⟩ := h2.cells
            obtain ⟨f0, f1⟩ := h2.free
            go_wp2_with fail
            rw [← hcz.out]
            refine bodyPost_ret (v := .tuple #[decV (0) (0), .bool false]) ?_ rfl ⟨rfl, ext_setDec hx (Nat.le_refl _) _ _⟩
            obtain ⟨t0, t1⟩ := (h2.stored (0) (0)).cells
            change (results Tryd.f11 _).run Tryd.prog (setDec w1 w.heap.size (0) (0)) = .ok _ (setDec w1 w.heap.size (0) (0))
            generalize setDec w1 w.heap.size (0) (0) = W' at *
            simp [results, Tryd.results11, go_sem, t0, t1, decV]
          · rw [hg] at G hcz
            rw [if_pos rfl] at hcz
            clear hg
            go_wp2_with fail
            refine (G _).mono ?_
            rintro e w1 ⟨rfl, x1⟩
            have k6 : DecIn wr.heap.size m' s' w1 := DecIn.ext (heap_last _ _) x1
            have x2 := ((Ext.refl wr).alloc (.cells #[.int .i64 m', .int .i64 s'] 23)).trans x1
            replace h2 := h2.ext x2
            replace hx := hx.trans x2
            obtain ⟨c0, c1⟩ := k6.cells
            obtain ⟨d0, d1⟩ := h2.cells
            obtain ⟨f0, f1⟩ := h2.free
            go_wp2_with fail
            rw [← hcz.out]
            refine bodyPost_ret (v := .tuple #[decV (m') (s'), .bool true]) ?_ rfl ⟨rfl, ext_setDec hx (Nat.le_refl _) _ _⟩
            obtain ⟨t0, t1⟩ := (h2.stored (m') (s')).cells
            change (results Tryd.f11 _).run Tryd.prog (setDec w1 w.heap.size (m') (s')) = .ok _ (setDec w1 w.heap.size (m') (s'))
            generalize setDec w1 w.heap.size (m') (s') = W' at *
            simp [results, Tryd.results11, go_sem, t0, t1, decV]
end Go.Proofs.YtiancppdcfahaaaDoor
