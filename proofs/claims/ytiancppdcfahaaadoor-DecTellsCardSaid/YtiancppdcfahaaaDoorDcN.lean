/- The walks of dec.Norm and the document's Norm, with any int of digits (alias Tryd; printed by tools/mkdcn.py). -/
import Derived.Test.YtiancppdcfahaaaDoorStampC
import Derived.Test.YtiancppdcfahaaaDoorRefE
namespace Go.Proofs.YtiancppdcfahaaaDoor
open Go.RowKit

set_option maxHeartbeats 8000000 in
set_option maxRecDepth 100000 in
theorem DNorm_nat (m : Int) (s : Nat) (w : World) (hm : I64 m) (hs : s ≤ 9223372036854775807) :
    Calls Tryd.prog 11 #[.int .i64 m, .int .i64 s] w fun e w' => e = .returned (.tuple #[decV (canZ m s).1.1 (canZ m s).1.2, .bool (canZ m s).2]) ∧ Ext w w' := by
  have hx : Ext w (w.alloc (.cells #[.int .i64 0, .int .i64 0] 23)) := (Ext.refl _).alloc _
  have h2 : DecIn w.heap.size 0 0 (w.alloc (.cells #[.int .i64 0, .int .i64 0] 23)) := heap_last _ _
  by_cases h0 : m = 0 ∧ 0 < s
  · obtain ⟨rfl, hs0⟩ := h0
    rw [canZ_zero]
    go_enter Tryd.func11, Tryd.ntmps11
    go_wp2_with fail
    exact bodyPost_ret (v := .tuple #[decV 0 0, .bool true]) (by simp [results, Tryd.results11, go_sem, decV]) rfl ⟨rfl, hx⟩
  · by_cases hm0 : m = 0
    · obtain rfl : s = 0 := by omega
      subst hm0
      rw [canZ_zero]
      have G := fun w => Good_any 0 0 w hm hm
      rw [good_zero] at G
      unfold decV at G
      go_enter Tryd.func11, Tryd.ntmps11
      go_wp2_with fail
      refine wp_loop_rounds 1 ?_
      rw [rounds_succ]
      go_wp2_with fail
      refine (G _).mono ?_
      rintro e w1 ⟨rfl, x1⟩
      have hx2 := (hx.alloc (.cells #[.int .i64 0, .int .i64 0] 23)).trans x1
      have k6 : DecIn (w.heap.size + 1) 0 0 w1 := DecIn.ext (heap_at2b _ _ _) x1
      replace h2 := (h2.ext ((Ext.refl _).alloc (.cells #[.int .i64 0, .int .i64 0] 23))).ext x1
      obtain ⟨c0, c1⟩ := k6.cells
      obtain ⟨d0, d1⟩ := h2.cells
      obtain ⟨f0, f1⟩ := h2.free
      go_wp2_with fail
      refine bodyPost_ret (v := .tuple #[decV 0 0, .bool true]) ?_ rfl ⟨rfl, ext_setDec hx2 (Nat.le_refl _) _ _⟩
      obtain ⟨t0, t1⟩ := (h2.stored 0 0).cells
      change (results Tryd.f11 _).run Tryd.prog (setDec w1 w.heap.size 0 0) = .ok _ (setDec w1 w.heap.size 0 0)
      generalize setDec w1 w.heap.size 0 0 = W' at *
      simp [results, Tryd.results11, go_sem, t0, t1, decV]
    · go_enter Tryd.func11, Tryd.ntmps11
      go_wp2_with fail
      generalize w.alloc (.cells #[.int .i64 0, .int .i64 0] 23) = W at *
      go_loopw [0, 1] (fun x y wr => ∃ (m' : Int) (s' : Nat), x = .int .i64 m' ∧ y = .int .i64 s' ∧ I64 m' ∧ m' ≠ 0 ∧ s' ≤ 9223372036854775807 ∧ Hid (canZ m' s' = canZ m s) ∧ wr = W) (fun _ y _ => (intOf y).toNat)
      case atStart => exact ⟨m, s, rfl, rfl, hm, hm0, hs, rfl, rfl⟩
      case round =>
        obtain ⟨m', s', rfl, rfl, l1, l2, l3, hcz, rfl⟩ := hrel
        by_cases hs0 : 0 < s'
        · by_cases hz : m'.tmod 10 = 0
          · have hst : Hid (canZ (m'.tdiv 10) (s' - 1) = canZ m s) := Lib.hid (by rw [← hcz.out, ← canZ_step hz, show s' - 1 + 1 = s' from by omega])
            have hq := tdiv_range m' 10 (by omega) l1
            have hne : m'.tdiv 10 ≠ 0 := fun h => l2 (by rw [tdiv10_sign m' hz, h]; rfl)
            have n0 : binOp .eql 2 (.int .i64 (m'.tmod 10)) (.int .i64 0) = pure (.bool true) := by
              simp only [go_sem]; rw [show (m'.tmod 10 == 0) = true from by simpa using hz]
            have HQ := Lib.hid hq
            unfold I64 at hq l1
            clear hcz hz
            go_wp2_with fail
            go_roundw
            case rel => exact ⟨m'.tdiv 10, s' - 1, rfl, vI (by omega), HQ.out, hne, by omega, hst, trivial⟩
            case measure => simp only [intOf]; omega
          · have n0 : binOp .eql 2 (.int .i64 (m'.tmod 10)) (.int .i64 0) = pure (.bool false) := by
              simp only [go_sem]; rw [show (m'.tmod 10 == 0) = false from by simpa using hz]
            have hstop : s' = 0 ∨ m'.tmod 10 ≠ 0 := .inr hz
            clear hz
            replace hcz : Hid ((if goodB m' s' then ((m', (s' : Int)), true) else ((0, 0), false)) = canZ m s) := Lib.hid ((canZ_last l1 hstop).symm.trans hcz.out)
            have G := fun w => Good_any m' s' w l1 (by unfold I64; omega)
            unfold decV at G
            unfold I64 at l1
            clear hstop
            cases hg : goodB m' s'
            · rw [hg] at G hcz
              rw [if_neg (by decide)] at hcz
              clear hg
              go_wp2_with fail
              refine (G _).mono ?_
              rintro e w1 ⟨rfl, x1⟩
              have k6 : DecIn wr.heap.size m' s' w1 := DecIn.ext (heap_last _ _) x1
              have x2 := ((Ext.refl wr).alloc (.cells #[.int .i64 m', .int .i64 s'] 23)).trans x1
              replace h2 := h2.ext x2
              replace hx := hx.trans x2
              obtain ⟨c0, c1⟩ := k6.cells
              obtain ⟨d0, d1⟩ := h2.cells
              obtain ⟨f0, f1⟩ := h2.free
              go_wp2_with fail
              rw [← hcz.out]
              refine bodyPost_ret (v := .tuple #[decV (0) (0), .bool false]) ?_ rfl ⟨rfl, ext_setDec hx (Nat.le_refl _) _ _⟩
              obtain ⟨t0, t1⟩ := (h2.stored (0) (0)).cells
              change (results Tryd.f11 _).run Tryd.prog (setDec w1 w.heap.size (0) (0)) = .ok _ (setDec w1 w.heap.size (0) (0))
              generalize setDec w1 w.heap.size (0) (0) = W' at *
              simp [results, Tryd.results11, go_sem, t0, t1, decV]
            · rw [hg] at G hcz
              rw [if_pos rfl] at hcz
              clear hg
              go_wp2_with fail
              refine (G _).mono ?_
              rintro e w1 ⟨rfl, x1⟩
              have k6 : DecIn wr.heap.size m' s' w1 := DecIn.ext (heap_last _ _) x1
              have x2 := ((Ext.refl wr).alloc (.cells #[.int .i64 m', .int .i64 s'] 23)).trans x1
              replace h2 := h2.ext x2
              replace hx := hx.trans x2
              obtain ⟨c0, c1⟩ := k6.cells
              obtain ⟨d0, d1⟩ := h2.cells
              obtain ⟨f0, f1⟩ := h2.free
              go_wp2_with fail
              rw [← hcz.out]
              refine bodyPost_ret (v := .tuple #[decV (m') (s'), .bool true]) ?_ rfl ⟨rfl, ext_setDec hx (Nat.le_refl _) _ _⟩
              obtain ⟨t0, t1⟩ := (h2.stored (m') (s')).cells
              change (results Tryd.f11 _).run Tryd.prog (setDec w1 w.heap.size (m') (s')) = .ok _ (setDec w1 w.heap.size (m') (s'))
              generalize setDec w1 w.heap.size (m') (s') = W' at *
              simp [results, Tryd.results11, go_sem, t0, t1, decV]
        · have hstop : s' = 0 ∨ m'.tmod 10 ≠ 0 := .inl (by omega)
          replace hcz : Hid ((if goodB m' s' then ((m', (s' : Int)), true) else ((0, 0), false)) = canZ m s) := Lib.hid ((canZ_last l1 hstop).symm.trans hcz.out)
          have G := fun w => Good_any m' s' w l1 (by unfold I64; omega)
          unfold decV at G
          unfold I64 at l1
          clear hstop
          cases hg : goodB m' s'
          · rw [hg] at G hcz
            rw [if_neg (by decide)] at hcz
            clear hg
            go_wp2_with fail
            refine (G _).mono ?_
            rintro e w1 ⟨rfl, x1⟩
            have k6 : DecIn wr.heap.size m' s' w1 := DecIn.ext (heap_last _ _) x1
            have x2 := ((Ext.refl wr).alloc (.cells #[.int .i64 m', .int .i64 s'] 23)).trans x1
            replace h2 := h2.ext x2
            replace hx := hx.trans x2
            obtain ⟨c0, c1⟩ := k6.cells
            obtain ⟨d0, d1⟩ := h2.cells
            obtain ⟨f0, f1⟩ := h2.free
            go_wp2_with fail
            rw [← hcz.out]
            refine bodyPost_ret (v := .tuple #[decV (0) (0), .bool false]) ?_ rfl ⟨rfl, ext_setDec hx (Nat.le_refl _) _ _⟩
            obtain ⟨t0, t1⟩ := (h2.stored (0) (0)).cells
            change (results Tryd.f11 _).run Tryd.prog (setDec w1 w.heap.size (0) (0)) = .ok _ (setDec w1 w.heap.size (0) (0))
            generalize setDec w1 w.heap.size (0) (0) = W' at *
            simp [results, Tryd.results11, go_sem, t0, t1, decV]
          · rw [hg] at G hcz
            rw [if_pos rfl] at hcz
            clear hg
            go_wp2_with fail
            refine (G _).mono ?_
            rintro e w1 ⟨rfl, x1⟩
            have k6 : DecIn wr.heap.size m' s' w1 := DecIn.ext (heap_last _ _) x1
            have x2 := ((Ext.refl wr).alloc (.cells #[.int .i64 m', .int .i64 s'] 23)).trans x1
            replace h2 := h2.ext x2
            replace hx := hx.trans x2
            obtain ⟨c0, c1⟩ := k6.cells
            obtain ⟨d0, d1⟩ := h2.cells
            obtain ⟨f0, f1⟩ := h2.free
            go_wp2_with fail
            rw [← hcz.out]
            refine bodyPost_ret (v := .tuple #[decV (m') (s'), .bool true]) ?_ rfl ⟨rfl, ext_setDec hx (Nat.le_refl _) _ _⟩
            obtain ⟨t0, t1⟩ := (h2.stored (m') (s')).cells
            change (results Tryd.f11 _).run Tryd.prog (setDec w1 w.heap.size (m') (s')) = .ok _ (setDec w1 w.heap.size (m') (s'))
            generalize setDec w1 w.heap.size (m') (s') = W' at *
            simp [results, Tryd.results11, go_sem, t0, t1, decV]
set_option maxHeartbeats 8000000 in
set_option maxRecDepth 100000 in
theorem decimal_nat (neg : Bool) (N s : Nat) (v : Value) (l : List Nat) (w : World) (hv : DigV v l w) (hN : trimD l = digs N) (hs : s ≤ 9223372036854775807) (hl : l.length < 100000) (hl2 : (digs N).length < 100000) :
    Calls Tryd.prog 23 #[.bool neg, v, .int .i64 s] w fun e w' => e = .returned (.tuple #[decV (decMv neg N s) (decSv N s), .bool (decOk N s)]) ∧ Ext w w' := by
  have C1 := fun w (h : DigV v l w) => trim_any v l w h hl
  have hx : Ext w (w.alloc (.cells #[.int .i64 0, .int .i64 0] 23)) := (Ext.refl _).alloc _
  have h2 : DecIn w.heap.size 0 0 (w.alloc (.cells #[.int .i64 0, .int .i64 0] 23)) := heap_last _ _
  go_enter Tryd.func23, Tryd.ntmps23
  go_wp2_with fail
  refine (C1 _ (hv.ext hx)).mono ?_
  rintro e w1 ⟨⟨v1, rfl, hv1⟩, rfl⟩
  rw [hN] at hv1
  clear hv hN C1
  by_cases h0 : N = 0
  · have hr : Hid (decMv neg N s = 0 ∧ decSv N s = 0 ∧ decOk N s = true) := by
      subst h0
      unfold Hid decMv decSv
      have : decOk 0 s = true := by unfold decOk; rw [strip_zero]; rfl
      rw [if_pos this, if_pos this, strip_zero]
      cases neg <;> exact ⟨rfl, rfl, this⟩
    subst h0
    rw [digs_zero] at hv1
    obtain ⟨p, c, rfl⟩ := hv1.form
    obtain ⟨d0, d1⟩ := h2.cells
    obtain ⟨f0, f1⟩ := h2.free
    rw [List.length_nil] at *
    go_wp2_with fail
    obtain ⟨r1, r2, r3⟩ := hr.out
    rw [r1, r2, r3]
    exact bodyPost_ret (v := .tuple #[decV 0 0, .bool true]) (by simp [results, Tryd.results23, go_sem, decV]) rfl ⟨rfl, hx⟩
  · obtain ⟨p0, c0, hform⟩ := hv1.form
    have hne : ((digs N).length : Int) ≠ 0 := by have := List.length_pos_iff.2 (digs_ne (Nat.pos_of_ne_zero h0)); omega
    generalize w.alloc (.cells #[.int .i64 0, .int .i64 0] 23) = W at *
    subst hform
    go_wp2_with fail
    go_loopw [1, 2] (fun v' t wr => ∃ N' s' : Nat, 0 < N' ∧ N' ≤ N ∧ t = .int .i64 s' ∧ s' ≤ 9223372036854775807 ∧ DigV v' (digs N') W ∧ (digs N').length < 100000 ∧ Hid (strip N' s' = strip N s) ∧ wr = W) (fun _ t _ => (intOf t).toNat)
    case atStart => exact ⟨N, s, by omega, Nat.le_refl _, rfl, hs, hv1, hl2, rfl, rfl⟩
    case round =>
      obtain ⟨N', s', l1, l2, rfl, l3, hv', l4, hst, rfl⟩ := hrel
      have C2 := fun u (h : DigV u (digs N') wr) => within_digs u N' wr h l4
      have hpos : 0 < (digs N').length := List.length_pos_iff.2 (digs_ne l1)
      obtain ⟨b, o, c, rfl, hc, hb, hcell⟩ := hv'.pos hpos
      obtain ⟨k, hk⟩ : ∃ k, (digs N').length = k + 1 := ⟨(digs N').length - 1, by omega⟩
      have hlast := hcell k (by omega)
      rw [digs_last l1 k (by omega) (by omega)] at hlast
      have htk := digs_tenth l1
      rw [hk] at hv' hc ⊢
      by_cases hs0 : 0 < s'
      · by_cases hz : N' % 10 = 0
        · have hst' : Hid (strip (N' / 10) (s' - 1) = strip N s) := by
            have h := hst.out
            rw [show s' = (s' - 1) + 1 from by omega, strip, if_pos hz] at h
            exact h
          have hnew : DigV (.slice (some ⟨b, o, none⟩) k c) (digs (N' / 10)) wr := by
            rw [← htk]
            refine .inr ⟨b, o, c, by rw [List.length_take, hk]; congr 1; omega, by rw [List.length_take]; omega, hb, fun i hi => ?_⟩
            have hi2 : i < (digs N').length := by rw [List.length_take] at hi; omega
            rw [List.getElem_take]
            exact hcell i hi2
          have hlen : (digs (N' / 10)).length < 100000 := by rw [← htk, List.length_take]; omega
          rw [hz] at hlast
          clear hcell htk hst
          go_wp2_with fail
          exact ⟨⟨N' / 10, s' - 1, by omega, by omega, vI (by omega), by omega, hnew, hlen, hst', trivial⟩, by simp only [intOf]; omega⟩
        · replace hst : Hid ((N', s') = strip N s) := by
            have h := hst.out
            rw [show s' = (s' - 1) + 1 from by omega, strip, if_neg hz] at h
            rw [← h]; exact Lib.hid (by rw [show s' - 1 + 1 = s' from by omega])
          generalize N' % 10 = r at *
          clear hcell htk
          by_cases hm : N' ≤ 9223372036854775807
          · rw [if_pos hm, decide_eq_true hm] at C2
            by_cases hb : s' ≤ 18
            · have HM := Lib.hid (And.intro hb hm)
              have hok : Hid (decOk N s = true) := Lib.hid (by unfold decOk; rw [← hst.out]; exact decide_eq_true ⟨hb, hm⟩)
              have hn2 : IntKind.i64.wrap (-(N' : Int)) = -(N' : Int) := IntWalk.i64_in _ (by omega)
              clear hm
              go_wp2_with fail
              refine (C2 _ hv').mono ?_
              rintro e w2 ⟨rfl, x2⟩
              replace h2 := h2.ext x2
              replace hx := hx.trans x2
              obtain ⟨d0, d1⟩ := h2.cells
              obtain ⟨f0, f1⟩ := h2.free
              cases neg
              · go_wp2_with fail
                refine bodyPost_ret (v := .tuple #[decV N' s', .bool true]) ?_ rfl ⟨?_, ext_setDec hx (Nat.le_refl _) _ _⟩
                · obtain ⟨e0, e1⟩ := (h2.stored N' s').cells
                  change (results Tryd.f23 _).run Tryd.prog (setDec w2 w.heap.size N' s') = .ok _ (setDec w2 w.heap.size N' s')
                  generalize setDec w2 w.heap.size N' s' = W' at *
                  simp [results, Tryd.results23, go_sem, e0, e1, decV]
                · unfold decMv decSv
                  rw [hok.out, ← hst.out]; rfl
              · go_wp2_with fail
                refine bodyPost_ret (v := .tuple #[decV (-(N' : Int)) s', .bool true]) ?_ rfl ⟨?_, ext_setDec hx (Nat.le_refl _) _ _⟩
                · obtain ⟨e0, e1⟩ := (h2.stored (-(N' : Int)) s').cells
                  change (results Tryd.f23 _).run Tryd.prog (setDec w2 w.heap.size (-(N' : Int)) s') = .ok _ (setDec w2 w.heap.size (-(N' : Int)) s')
                  generalize setDec w2 w.heap.size (-(N' : Int)) s' = W' at *
                  simp [results, Tryd.results23, go_sem, e0, e1, decV]
                · unfold decMv decSv
                  rw [hok.out, ← hst.out]; rfl
            · have hok : Hid (decOk N s = false) := Lib.hid (by unfold decOk; rw [← hst.out]; exact decide_eq_false (by simp only []; omega))
              go_wp2_with fail
              refine (C2 _ hv').mono ?_
              rintro e w2 ⟨rfl, x2⟩
              replace h2 := h2.ext x2
              replace hx := hx.trans x2
              obtain ⟨d0, d1⟩ := h2.cells
              obtain ⟨f0, f1⟩ := h2.free
              go_wp2_with fail
              refine bodyPost_ret (v := .tuple #[decV 0 0, .bool false]) ?_ rfl ⟨?_, ext_setDec hx (Nat.le_refl _) _ _⟩
              · obtain ⟨e0, e1⟩ := (h2.stored 0 0).cells
                change (results Tryd.f23 _).run Tryd.prog (setDec w2 w.heap.size 0 0) = .ok _ (setDec w2 w.heap.size 0 0)
                generalize setDec w2 w.heap.size 0 0 = W' at *
                simp [results, Tryd.results23, go_sem, e0, e1, decV]
              · unfold decMv decSv
                rw [hok.out]; rfl
          · rw [if_neg hm, decide_eq_false hm] at C2
            have hok : Hid (decOk N s = false) := Lib.hid (by unfold decOk; rw [← hst.out]; exact decide_eq_false (by simp only []; omega))
            go_wp2_with fail
            refine (C2 _ hv').mono ?_
            rintro e w2 ⟨rfl, x2⟩
            replace h2 := h2.ext x2
            replace hx := hx.trans x2
            obtain ⟨d0, d1⟩ := h2.cells
            obtain ⟨f0, f1⟩ := h2.free
            go_wp2_with fail
            refine bodyPost_ret (v := .tuple #[decV 0 0, .bool false]) ?_ rfl ⟨?_, ext_setDec hx (Nat.le_refl _) _ _⟩
            · obtain ⟨e0, e1⟩ := (h2.stored 0 0).cells
              change (results Tryd.f23 _).run Tryd.prog (setDec w2 w.heap.size 0 0) = .ok _ (setDec w2 w.heap.size 0 0)
              generalize setDec w2 w.heap.size 0 0 = W' at *
              simp [results, Tryd.results23, go_sem, e0, e1, decV]
            · unfold decMv decSv
              rw [hok.out]; rfl
      · replace hst : Hid ((N', s') = strip N s) := by
          have h := hst.out
          rw [show s' = 0 from by omega, strip] at h
          rw [← h]; exact Lib.hid (by rw [show s' = 0 from by omega])
        clear hcell htk
        by_cases hm : N' ≤ 9223372036854775807
        · rw [if_pos hm, decide_eq_true hm] at C2
          by_cases hb : s' ≤ 18
          · have HM := Lib.hid (And.intro hb hm)
            have hok : Hid (decOk N s = true) := Lib.hid (by unfold decOk; rw [← hst.out]; exact decide_eq_true ⟨hb, hm⟩)
            have hn2 : IntKind.i64.wrap (-(N' : Int)) = -(N' : Int) := IntWalk.i64_in _ (by omega)
            clear hm
            go_wp2_with fail
            refine (C2 _ hv').mono ?_
            rintro e w2 ⟨rfl, x2⟩
            replace h2 := h2.ext x2
            replace hx := hx.trans x2
            obtain ⟨d0, d1⟩ := h2.cells
            obtain ⟨f0, f1⟩ := h2.free
            cases neg
            · go_wp2_with fail
              refine bodyPost_ret (v := .tuple #[decV N' s', .bool true]) ?_ rfl ⟨?_, ext_setDec hx (Nat.le_refl _) _ _⟩
              · obtain ⟨e0, e1⟩ := (h2.stored N' s').cells
                change (results Tryd.f23 _).run Tryd.prog (setDec w2 w.heap.size N' s') = .ok _ (setDec w2 w.heap.size N' s')
                generalize setDec w2 w.heap.size N' s' = W' at *
                simp [results, Tryd.results23, go_sem, e0, e1, decV]
              · unfold decMv decSv
                rw [hok.out, ← hst.out]; rfl
            · go_wp2_with fail
              refine bodyPost_ret (v := .tuple #[decV (-(N' : Int)) s', .bool true]) ?_ rfl ⟨?_, ext_setDec hx (Nat.le_refl _) _ _⟩
              · obtain ⟨e0, e1⟩ := (h2.stored (-(N' : Int)) s').cells
                change (results Tryd.f23 _).run Tryd.prog (setDec w2 w.heap.size (-(N' : Int)) s') = .ok _ (setDec w2 w.heap.size (-(N' : Int)) s')
                generalize setDec w2 w.heap.size (-(N' : Int)) s' = W' at *
                simp [results, Tryd.results23, go_sem, e0, e1, decV]
              · unfold decMv decSv
                rw [hok.out, ← hst.out]; rfl
          · exfalso; omega
        · rw [if_neg hm, decide_eq_false hm] at C2
          have hok : Hid (decOk N s = false) := Lib.hid (by unfold decOk; rw [← hst.out]; exact decide_eq_false (by simp only []; omega))
          go_wp2_with fail
          refine (C2 _ hv').mono ?_
          rintro e w2 ⟨rfl, x2⟩
          replace h2 := h2.ext x2
          replace hx := hx.trans x2
          obtain ⟨d0, d1⟩ := h2.cells
          obtain ⟨f0, f1⟩ := h2.free
          go_wp2_with fail
          refine bodyPost_ret (v := .tuple #[decV 0 0, .bool false]) ?_ rfl ⟨?_, ext_setDec hx (Nat.le_refl _) _ _⟩
          · obtain ⟨e0, e1⟩ := (h2.stored 0 0).cells
            change (results Tryd.f23 _).run Tryd.prog (setDec w2 w.heap.size 0 0) = .ok _ (setDec w2 w.heap.size 0 0)
            generalize setDec w2 w.heap.size 0 0 = W' at *
            simp [results, Tryd.results23, go_sem, e0, e1, decV]
          · unfold decMv decSv
            rw [hok.out]; rfl

set_option maxHeartbeats 8000000 in
set_option maxRecDepth 100000 in
theorem RNorm_nat (m : Int) (s : Nat) (w : World) (hm : I64 m) (hs : s ≤ 9223372036854775807) :
    Calls Tryd.prog 12 #[.int .i64 m, .int .i64 s] w fun e w' => e = .returned (.tuple #[decV (decMv (decide (m < 0)) m.natAbs s) (decSv m.natAbs s), .bool (decOk m.natAbs s)]) ∧ Ext w w' := by
  have hlen : (digs m.natAbs).length ≤ 19 := digs_length (by unfold I64 at hm; have : (9223372036854775808 : Nat) < 10 ^ 19 := by decide
                                                             omega)
  have C1 := fun w => amount_any m w hm
  have C2 : ∀ v w, DigV v (digs m.natAbs) w → Calls Tryd.prog 23 #[.bool (decide (m < 0)), v, .int .i64 s] w fun e w' => e = .returned (.tuple #[.agg #[.int .i64 (decMv (decide (m < 0)) m.natAbs s), .int .i64 (decSv m.natAbs s)], .bool (decOk m.natAbs s)]) ∧ Ext w w' := fun v w h => decimal_nat (decide (m < 0)) m.natAbs s v (digs m.natAbs) w h (trimD_digs _) hs (by omega) (by omega)
  generalize decMv (decide (m < 0)) m.natAbs s = R1 at *
  generalize decSv m.natAbs s = R2 at *
  generalize decOk m.natAbs s = R3 at *
  generalize digs m.natAbs = l at *
  have hx : Ext w (w.alloc (.cells #[.int .i64 0, .int .i64 0] 23)) := (Ext.refl _).alloc _
  have h2 : DecIn w.heap.size 0 0 (w.alloc (.cells #[.int .i64 0, .int .i64 0] 23)) := heap_last _ _
  go_enter Tryd.func12, Tryd.ntmps12
  go_wp2_with fail
  refine (C1 _).mono ?_
  rintro e w1 ⟨⟨v, rfl, hv⟩, x1⟩
  go_wp2_with fail
  refine (C2 _ _ hv).mono ?_
  rintro e w2 ⟨rfl, x2⟩
  replace h2 := (h2.ext x1).ext x2
  replace hx := (hx.trans x1).trans x2
  obtain ⟨d0, d1⟩ := h2.cells
  obtain ⟨f0, f1⟩ := h2.free
  go_wp2_with fail
  refine bodyPost_ret (v := .tuple #[decV R1 R2, .bool R3]) ?_ rfl ⟨rfl, ext_setDec hx (Nat.le_refl _) _ _⟩
  obtain ⟨e0, e1⟩ := (h2.stored R1 R2).cells
  change (results Tryd.f12 _).run Tryd.prog (setDec w2 w.heap.size R1 R2) = .ok _ (setDec w2 w.heap.size R1 R2)
  generalize setDec w2 w.heap.size R1 R2 = W' at *
  simp [results, Tryd.results12, go_sem, e0, e1, decV]


set_option maxHeartbeats 8000000 in
set_option maxRecDepth 100000 in
theorem DNorm_neg (m s : Int) (w : World) (hm : I64 m) (hs : I64 s) (hn : s < 0) :
    Calls Tryd.prog 11 #[.int .i64 m, .int .i64 s] w fun e w' => e = .returned (.tuple #[decV 0 0, .bool false]) ∧ Ext w w' := by
  have hx : Ext w (w.alloc (.cells #[.int .i64 0, .int .i64 0] 23)) := (Ext.refl _).alloc _
  have h2 : DecIn w.heap.size 0 0 (w.alloc (.cells #[.int .i64 0, .int .i64 0] 23)) := heap_last _ _
  have G := fun w => Good_any m s w hm hs
  have hg : goodB m s = false := by
    cases h : goodB m s
    · rfl
    · have := (good_of h).1.1; omega
  rw [hg] at G
  unfold decV at G
  unfold I64 at hm hs
  clear hg
  have fin : ∀ w1 : World, Ext (w.alloc (.cells #[.int .i64 0, .int .i64 0] 23)) w1 → True := fun _ _ => trivial
  by_cases h0 : m = 0
  · subst h0
    go_enter Tryd.func11, Tryd.ntmps11
    go_wp2_with fail
    refine wp_loop_rounds 1 ?_
    rw [rounds_succ]
    go_wp2_with fail
    refine (G _).mono ?_
    rintro e w1 ⟨rfl, x1⟩
    have k6 : DecIn (w.heap.size + 1) 0 s w1 := DecIn.ext (heap_at2b _ _ _) x1
    have hx2 := (hx.alloc (.cells #[.int .i64 0, .int .i64 s] 23)).trans x1
    replace h2 := (h2.ext ((Ext.refl _).alloc (.cells #[.int .i64 0, .int .i64 s] 23))).ext x1
    obtain ⟨c0, c1⟩ := k6.cells
    obtain ⟨d0, d1⟩ := h2.cells
    obtain ⟨f0, f1⟩ := h2.free
    go_wp2_with fail
    refine bodyPost_ret (v := .tuple #[decV 0 0, .bool false]) ?_ rfl ⟨rfl, ext_setDec hx2 (Nat.le_refl _) _ _⟩
    obtain ⟨t0, t1⟩ := (h2.stored 0 0).cells
    change (results Tryd.f11 _).run Tryd.prog (setDec w1 w.heap.size 0 0) = .ok _ (setDec w1 w.heap.size 0 0)
    generalize setDec w1 w.heap.size 0 0 = W' at *
    simp [results, Tryd.results11, go_sem, t0, t1, decV]
  · go_enter Tryd.func11, Tryd.ntmps11
    go_wp2_with fail
    refine wp_loop_rounds 1 ?_
    rw [rounds_succ]
    go_wp2_with fail
    refine (G _).mono ?_
    rintro e w1 ⟨rfl, x1⟩
    have k6 : DecIn (w.heap.size + 1) m s w1 := DecIn.ext (heap_at2b _ _ _) x1
    have hx2 := (hx.alloc (.cells #[.int .i64 m, .int .i64 s] 23)).trans x1
    replace h2 := (h2.ext ((Ext.refl _).alloc (.cells #[.int .i64 m, .int .i64 s] 23))).ext x1
    obtain ⟨c0, c1⟩ := k6.cells
    obtain ⟨d0, d1⟩ := h2.cells
    obtain ⟨f0, f1⟩ := h2.free
    go_wp2_with fail
    refine bodyPost_ret (v := .tuple #[decV 0 0, .bool false]) ?_ rfl ⟨rfl, ext_setDec hx2 (Nat.le_refl _) _ _⟩
    obtain ⟨t0, t1⟩ := (h2.stored 0 0).cells
    change (results Tryd.f11 _).run Tryd.prog (setDec w1 w.heap.size 0 0) = .ok _ (setDec w1 w.heap.size 0 0)
    generalize setDec w1 w.heap.size 0 0 = W' at *
    simp [results, Tryd.results11, go_sem, t0, t1, decV]

set_option maxHeartbeats 8000000 in
set_option maxRecDepth 100000 in
theorem decimal_neg (neg : Bool) (N : Nat) (s : Int) (v : Value) (l : List Nat) (w : World) (hv : DigV v l w) (hN : trimD l = digs N) (hs : I64 s) (hn : s < 0) (hl : l.length < 100000) (hl2 : (digs N).length < 100000) :
    Calls Tryd.prog 23 #[.bool neg, v, .int .i64 s] w fun e w' => e = .returned (.tuple #[decV 0 0, .bool false]) ∧ Ext w w' := by
  have C1 := fun w (h : DigV v l w) => trim_any v l w h hl
  have hx : Ext w (w.alloc (.cells #[.int .i64 0, .int .i64 0] 23)) := (Ext.refl _).alloc _
  have h2 : DecIn w.heap.size 0 0 (w.alloc (.cells #[.int .i64 0, .int .i64 0] 23)) := heap_last _ _
  unfold I64 at hs
  go_enter Tryd.func23, Tryd.ntmps23
  go_wp2_with fail
  refine (C1 _ (hv.ext hx)).mono ?_
  rintro e w1 ⟨⟨v1, rfl, hv1⟩, rfl⟩
  rw [hN] at hv1
  clear hv hN C1
  by_cases h0 : N = 0
  · subst h0
    rw [digs_zero] at hv1
    obtain ⟨p, c, rfl⟩ := hv1.form
    obtain ⟨d0, d1⟩ := h2.cells
    obtain ⟨f0, f1⟩ := h2.free
    rw [List.length_nil] at *
    have hb : decide (s ≥ 0) = false := decide_eq_false (by omega)
    go_wp2_with fail
    refine bodyPost_ret (v := .tuple #[decV 0 0, .bool false]) ?_ rfl ⟨rfl, hx⟩
    simp [results, Tryd.results23, go_sem, decV]
    try omega
  · obtain ⟨p0, c0, hform⟩ := hv1.form
    have hne : ((digs N).length : Int) ≠ 0 := by have := List.length_pos_iff.2 (digs_ne (Nat.pos_of_ne_zero h0)); omega
    have C2 := fun u (h : DigV u (digs N) (w.alloc (.cells #[.int .i64 0, .int .i64 0] 23))) => within_digs u N (w.alloc (.cells #[.int .i64 0, .int .i64 0] 23)) h hl2
    generalize w.alloc (.cells #[.int .i64 0, .int .i64 0] 23) = W at *
    subst hform
    generalize (digs N).length = K at *
    go_wp2_with fail
    refine wp_loop_rounds 1 ?_
    rw [rounds_succ]
    by_cases hm : N ≤ 9223372036854775807
    · rw [if_pos hm, decide_eq_true hm] at C2
      go_wp2_with fail
      refine (C2 _ hv1).mono ?_
      rintro e w2 ⟨rfl, x2⟩
      replace h2 := h2.ext x2
      replace hx := hx.trans x2
      obtain ⟨d0, d1⟩ := h2.cells
      obtain ⟨f0, f1⟩ := h2.free
      go_wp2_with fail
      refine bodyPost_ret (v := .tuple #[decV 0 0, .bool false]) ?_ rfl ⟨rfl, ext_setDec hx (Nat.le_refl _) _ _⟩
      obtain ⟨e0, e1⟩ := (h2.stored 0 0).cells
      change (results Tryd.f23 _).run Tryd.prog (setDec w2 w.heap.size 0 0) = .ok _ (setDec w2 w.heap.size 0 0)
      generalize setDec w2 w.heap.size 0 0 = W' at *
      simp [results, Tryd.results23, go_sem, e0, e1, decV]
    · rw [if_neg hm, decide_eq_false hm] at C2
      go_wp2_with fail
      refine (C2 _ hv1).mono ?_
      rintro e w2 ⟨rfl, x2⟩
      replace h2 := h2.ext x2
      replace hx := hx.trans x2
      obtain ⟨d0, d1⟩ := h2.cells
      obtain ⟨f0, f1⟩ := h2.free
      go_wp2_with fail
      refine bodyPost_ret (v := .tuple #[decV 0 0, .bool false]) ?_ rfl ⟨rfl, ext_setDec hx (Nat.le_refl _) _ _⟩
      obtain ⟨e0, e1⟩ := (h2.stored 0 0).cells
      change (results Tryd.f23 _).run Tryd.prog (setDec w2 w.heap.size 0 0) = .ok _ (setDec w2 w.heap.size 0 0)
      generalize setDec w2 w.heap.size 0 0 = W' at *
      simp [results, Tryd.results23, go_sem, e0, e1, decV]

set_option maxHeartbeats 2000000 in
set_option maxRecDepth 100000 in
theorem RNorm_neg (m s : Int) (w : World) (hm : I64 m) (hs : I64 s) (hn : s < 0) :
    Calls Tryd.prog 12 #[.int .i64 m, .int .i64 s] w fun e w' => e = .returned (.tuple #[decV 0 0, .bool false]) ∧ Ext w w' := by
  have hlen : (digs m.natAbs).length ≤ 19 := digs_length (by unfold I64 at hm; have : (9223372036854775808 : Nat) < 10 ^ 19 := by decide
                                                             omega)
  have C1 := fun w => amount_any m w hm
  have C2 : ∀ v w, DigV v (digs m.natAbs) w → Calls Tryd.prog 23 #[.bool (decide (m < 0)), v, .int .i64 s] w fun e w' => e = .returned (.tuple #[.agg #[.int .i64 0, .int .i64 0], .bool false]) ∧ Ext w w' := fun v w h => decimal_neg (decide (m < 0)) m.natAbs s v (digs m.natAbs) w h (trimD_digs _) hs hn (by omega) (by omega)
  generalize digs m.natAbs = l at *
  have hx : Ext w (w.alloc (.cells #[.int .i64 0, .int .i64 0] 23)) := (Ext.refl _).alloc _
  have h2 : DecIn w.heap.size 0 0 (w.alloc (.cells #[.int .i64 0, .int .i64 0] 23)) := heap_last _ _
  go_enter Tryd.func12, Tryd.ntmps12
  go_wp2_with fail
  refine (C1 _).mono ?_
  rintro e w1 ⟨⟨v, rfl, hv⟩, x1⟩
  go_wp2_with fail
  refine (C2 _ _ hv).mono ?_
  rintro e w2 ⟨rfl, x2⟩
  replace h2 := (h2.ext x1).ext x2
  replace hx := (hx.trans x1).trans x2
  obtain ⟨d0, d1⟩ := h2.cells
  obtain ⟨f0, f1⟩ := h2.free
  go_wp2_with fail
  refine bodyPost_ret (v := .tuple #[decV 0 0, .bool false]) ?_ rfl ⟨rfl, ext_setDec hx (Nat.le_refl _) _ _⟩
  obtain ⟨e0, e1⟩ := (h2.stored 0 0).cells
  change (results Tryd.f12 _).run Tryd.prog (setDec w2 w.heap.size 0 0) = .ok _ (setDec w2 w.heap.size 0 0)
  generalize setDec w2 w.heap.size 0 0 = W' at *
  simp [results, Tryd.results12, go_sem, e0, e1, decV]

/-- The decimal of a number and any digits behind the point. -/
def nzV (m s : Int) : (Int × Int) × Bool := if s < 0 then ((0, 0), false) else canZ m s.toNat
theorem DNormZ (m s : Int) (w : World) (hm : I64 m) (hs : I64 s) :
    Calls Tryd.prog 11 #[.int .i64 m, .int .i64 s] w fun e w' => e = .returned (.tuple #[decV (nzV m s).1.1 (nzV m s).1.2, .bool (nzV m s).2]) ∧ Ext w w' := by
  unfold nzV
  by_cases h : s < 0
  · rw [if_pos h]; exact DNorm_neg m s w hm hs h
  · rw [if_neg h]
    have := DNorm_nat m s.toNat w hm (by unfold I64 at hs; omega)
    rw [Int.toNat_of_nonneg (by omega)] at this
    exact this
theorem RNormZ (m s : Int) (w : World) (hm : I64 m) (hs : I64 s) :
    Calls Tryd.prog 12 #[.int .i64 m, .int .i64 s] w fun e w' => e = .returned (.tuple #[decV (nzV m s).1.1 (nzV m s).1.2, .bool (nzV m s).2]) ∧ Ext w w' := by
  unfold nzV
  by_cases h : s < 0
  · rw [if_pos h]; exact RNorm_neg m s w hm hs h
  · rw [if_neg h]
    have := RNorm_nat m s.toNat w hm (by unfold I64 at hs; omega)
    rw [Int.toNat_of_nonneg (by omega)] at this
    exact this
end Go.Proofs.YtiancppdcfahaaaDoor
