/- The walks of the document's decimal, Norm, and the statement's dot. -/
import Derived.Test.YtiancppdcfahaaaDoorRefD
namespace Go.Proofs.YtiancppdcfahaaaDoor
open Go.RowKit

theorem within_digs (v : Value) (N : Nat) (w : World) (hv : DigV v (digs N) w) (hl : (digs N).length < 100000) :
    Calls Tryd.prog 35 #[v] w fun e w' => e = .returned (.tuple #[.int .i64 (if N ≤ 9223372036854775807 then (N : Int) else 0), .bool (decide (N ≤ 9223372036854775807))]) ∧ Ext w w' := by
  have h : cmpDg (digs N) (digs 9223372036854775807) ≤ 0 ↔ N ≤ 9223372036854775807 := by
    rw [cmpDg_digs]; unfold cmpN
    by_cases h1 : N < 9223372036854775807
    · rw [if_pos h1]; omega
    · rw [if_neg h1]
      by_cases h2 : N > 9223372036854775807
      · rw [if_pos h2]; omega
      · rw [if_neg h2]; omega
  have := within_any v (digs N) w hv hl (digs_lt N) (fun h1 => by rw [valD_digs]; exact h.1 h1)
  rw [valD_digs] at this
  by_cases hN : N ≤ 9223372036854775807
  · rw [if_pos (h.2 hN), decide_eq_true (h.2 hN)] at this
    rw [if_pos hN, decide_eq_true hN]; exact this
  · rw [if_neg (fun h1 => hN (h.1 h1)), decide_eq_false (fun h1 => hN (h.1 h1))] at this
    rw [if_neg hN, decide_eq_false hN]; exact this

theorem strip_pos {N s : Nat} (h : 0 < N) : 0 < (strip N s).1 := by
  induction s generalizing N with
  | zero => exact h
  | succ s ih =>
    unfold strip
    split
    · exact ih (by omega)
    · exact h

set_option maxHeartbeats 8000000 in
set_option maxRecDepth 100000 in
theorem decimal_any (neg : Bool) (N s : Nat) (v : Value) (l : List Nat) (w : World) (hv : DigV v l w) (hN : trimD l = digs N) (hs : s < 1000) (hl : l.length < 100000) (hl2 : (digs N).length < 100000) :
    Calls Tryd.prog 23 #[.bool neg, v, .int .i64 s] w fun e w' => e = .returned (.tuple #[decV (decMv neg N s) (decSv N s), .bool (decOk N s)]) ∧ Ext w w' := by
  have C1 := fun w (h : DigV v l w) => trim_any v l w h hl
  have hx : Ext w (w.alloc (.cells #[.int .i64 0, .int .i64 0] 23)) := (Ext.refl _).alloc _
  have h2 : DecIn w.heap.size 0 0 (w.alloc (.cells #[.int .i64 0, .int .i64 0] 23)) := heap_last _ _
  go_enter Tryd.func23, Tryd.ntmps23
  go_wp2_with fail
  refine (C1 _ (hv.ext hx)).mono ?_
  rintro e w1 ⟨⟨v1, rfl, hv1⟩, rfl⟩
  rw [hN] at hv1
  clear hv hN C1
  by_cases h0 : N = 0
  · have hr : Hid (decMv neg N s = 0 ∧ decSv N s = 0 ∧ decOk N s = true) := by
      subst h0
      unfold Hid decMv decSv
      have : decOk 0 s = true := by unfold decOk; rw [strip_zero]; rfl
      rw [if_pos this, if_pos this, strip_zero]
      cases neg <;> exact ⟨rfl, rfl, this⟩
    subst h0
    rw [digs_zero] at hv1
    obtain ⟨p, c, rfl⟩ := hv1.form
    obtain ⟨d0, d1⟩ := h2.cells
    obtain ⟨f0, f1⟩ := h2.free
    rw [List.length_nil] at *
    go_wp2_with fail
    obtain ⟨r1, r2, r3⟩ := hr.out
    rw [r1, r2, r3]
    exact bodyPost_ret (v := .tuple #[decV 0 0, .bool true]) (by simp [results, Tryd.results23, go_sem, decV]) rfl ⟨rfl, hx⟩
  · obtain ⟨p0, c0, hform⟩ := hv1.form
    have hne : ((digs N).length : Int) ≠ 0 := by have := List.length_pos_iff.2 (digs_ne (Nat.pos_of_ne_zero h0)); omega
    generalize w.alloc (.cells #[.int .i64 0, .int .i64 0] 23) = W at *
    subst hform
    go_wp2_with fail
    go_loopw [1, 2] (fun v' t wr => ∃ N' s' : Nat, 0 < N' ∧ N' ≤ N ∧ t = .int .i64 s' ∧ s' < 1000 ∧ DigV v' (digs N') W ∧ (digs N').length < 100000 ∧ Hid (strip N' s' = strip N s) ∧ wr = W) (fun _ t _ => (intOf t).toNat)
    case atStart => exact ⟨N, s, by omega, Nat.le_refl _, rfl, hs, hv1, hl2, rfl, rfl⟩
    case round =>
      obtain ⟨N', s', l1, l2, rfl, l3, hv', l4, hst, rfl⟩ := hrel
      have C2 := fun u (h : DigV u (digs N') wr) => within_digs u N' wr h l4
      have hpos : 0 < (digs N').length := List.length_pos_iff.2 (digs_ne l1)
      obtain ⟨b, o, c, rfl, hc, hb, hcell⟩ := hv'.pos hpos
      obtain ⟨k, hk⟩ : ∃ k, (digs N').length = k + 1 := ⟨(digs N').length - 1, by omega⟩
      have hlast := hcell k (by omega)
      rw [digs_last l1 k (by omega) (by omega)] at hlast
      have htk := digs_tenth l1
      rw [hk] at hv' hc ⊢
      by_cases hs0 : 0 < s'
      · by_cases hz : N' % 10 = 0
        · have hst' : Hid (strip (N' / 10) (s' - 1) = strip N s) := by
            have h := hst.out
            rw [show s' = (s' - 1) + 1 from by omega, strip, if_pos hz] at h
            exact h
          have hnew : DigV (.slice (some ⟨b, o, none⟩) k c) (digs (N' / 10)) wr := by
            rw [← htk]
            refine .inr ⟨b, o, c, by rw [List.length_take, hk]; congr 1; omega, by rw [List.length_take]; omega, hb, fun i hi => ?_⟩
            have hi2 : i < (digs N').length := by rw [List.length_take] at hi; omega
            rw [List.getElem_take]
            exact hcell i hi2
          have hlen : (digs (N' / 10)).length < 100000 := by rw [← htk, List.length_take]; omega
          rw [hz] at hlast
          clear hcell htk hst
          go_wp2_with fail
          exact ⟨⟨N' / 10, s' - 1, by omega, by omega, vI (by omega), by omega, hnew, hlen, hst', trivial⟩, by simp only [intOf]; omega⟩
        · replace hst : Hid ((N', s') = strip N s) := by
            have h := hst.out
            rw [show s' = (s' - 1) + 1 from by omega, strip, if_neg hz] at h
            rw [← h]; exact Lib.hid (by rw [show s' - 1 + 1 = s' from by omega])
          generalize N' % 10 = r at *
          clear hcell htk
          by_cases hm : N' ≤ 9223372036854775807
          · rw [if_pos hm, decide_eq_true hm] at C2
            by_cases hb : s' ≤ 18
            · have HM := Lib.hid (And.intro hb hm)
              have hok : Hid (decOk N s = true) := Lib.hid (by unfold decOk; rw [← hst.out]; exact decide_eq_true ⟨hb, hm⟩)
              have hn2 : IntKind.i64.wrap (-(N' : Int)) = -(N' : Int) := IntWalk.i64_in _ (by omega)
              clear hm
              go_wp2_with fail
              refine (C2 _ hv').mono ?_
              rintro e w2 ⟨rfl, x2⟩
              replace h2 := h2.ext x2
              replace hx := hx.trans x2
              obtain ⟨d0, d1⟩ := h2.cells
              obtain ⟨f0, f1⟩ := h2.free
              cases neg
              · go_wp2_with fail
                refine bodyPost_ret (v := .tuple #[decV N' s', .bool true]) ?_ rfl ⟨?_, ext_setDec hx (Nat.le_refl _) _ _⟩
                · obtain ⟨e0, e1⟩ := (h2.stored N' s').cells
                  change (results Tryd.f23 _).run Tryd.prog (setDec w2 w.heap.size N' s') = .ok _ (setDec w2 w.heap.size N' s')
                  generalize setDec w2 w.heap.size N' s' = W' at *
                  simp [results, Tryd.results23, go_sem, e0, e1, decV]
                · unfold decMv decSv
                  rw [hok.out, ← hst.out]; rfl
              · go_wp2_with fail
                refine bodyPost_ret (v := .tuple #[decV (-(N' : Int)) s', .bool true]) ?_ rfl ⟨?_, ext_setDec hx (Nat.le_refl _) _ _⟩
                · obtain ⟨e0, e1⟩ := (h2.stored (-(N' : Int)) s').cells
                  change (results Tryd.f23 _).run Tryd.prog (setDec w2 w.heap.size (-(N' : Int)) s') = .ok _ (setDec w2 w.heap.size (-(N' : Int)) s')
                  generalize setDec w2 w.heap.size (-(N' : Int)) s' = W' at *
                  simp [results, Tryd.results23, go_sem, e0, e1, decV]
                · unfold decMv decSv
                  rw [hok.out, ← hst.out]; rfl
            · have hok : Hid (decOk N s = false) := Lib.hid (by unfold decOk; rw [← hst.out]; exact decide_eq_false (by simp only []; omega))
              go_wp2_with fail
              refine (C2 _ hv').mono ?_
              rintro e w2 ⟨rfl, x2⟩
              replace h2 := h2.ext x2
              replace hx := hx.trans x2
              obtain ⟨d0, d1⟩ := h2.cells
              obtain ⟨f0, f1⟩ := h2.free
              go_wp2_with fail
              refine bodyPost_ret (v := .tuple #[decV 0 0, .bool false]) ?_ rfl ⟨?_, ext_setDec hx (Nat.le_refl _) _ _⟩
              · obtain ⟨e0, e1⟩ := (h2.stored 0 0).cells
                change (results Tryd.f23 _).run Tryd.prog (setDec w2 w.heap.size 0 0) = .ok _ (setDec w2 w.heap.size 0 0)
                generalize setDec w2 w.heap.size 0 0 = W' at *
                simp [results, Tryd.results23, go_sem, e0, e1, decV]
              · unfold decMv decSv
                rw [hok.out]; rfl
          · rw [if_neg hm, decide_eq_false hm] at C2
            have hok : Hid (decOk N s = false) := Lib.hid (by unfold decOk; rw [← hst.out]; exact decide_eq_false (by simp only []; omega))
            go_wp2_with fail
            refine (C2 _ hv').mono ?_
            rintro e w2 ⟨rfl, x2⟩
            replace h2 := h2.ext x2
            replace hx := hx.trans x2
            obtain ⟨d0, d1⟩ := h2.cells
            obtain ⟨f0, f1⟩ := h2.free
            go_wp2_with fail
            refine bodyPost_ret (v := .tuple #[decV 0 0, .bool false]) ?_ rfl ⟨?_, ext_setDec hx (Nat.le_refl _) _ _⟩
            · obtain ⟨e0, e1⟩ := (h2.stored 0 0).cells
              change (results Tryd.f23 _).run Tryd.prog (setDec w2 w.heap.size 0 0) = .ok _ (setDec w2 w.heap.size 0 0)
              generalize setDec w2 w.heap.size 0 0 = W' at *
              simp [results, Tryd.results23, go_sem, e0, e1, decV]
            · unfold decMv decSv
              rw [hok.out]; rfl
      · replace hst : Hid ((N', s') = strip N s) := by
          have h := hst.out
          rw [show s' = 0 from by omega, strip] at h
          rw [← h]; exact Lib.hid (by rw [show s' = 0 from by omega])
        clear hcell htk
        by_cases hm : N' ≤ 9223372036854775807
        · rw [if_pos hm, decide_eq_true hm] at C2
          by_cases hb : s' ≤ 18
          · have HM := Lib.hid (And.intro hb hm)
            have hok : Hid (decOk N s = true) := Lib.hid (by unfold decOk; rw [← hst.out]; exact decide_eq_true ⟨hb, hm⟩)
            have hn2 : IntKind.i64.wrap (-(N' : Int)) = -(N' : Int) := IntWalk.i64_in _ (by omega)
            clear hm
            go_wp2_with fail
            refine (C2 _ hv').mono ?_
            rintro e w2 ⟨rfl, x2⟩
            replace h2 := h2.ext x2
            replace hx := hx.trans x2
            obtain ⟨d0, d1⟩ := h2.cells
            obtain ⟨f0, f1⟩ := h2.free
            cases neg
            · go_wp2_with fail
              refine bodyPost_ret (v := .tuple #[decV N' s', .bool true]) ?_ rfl ⟨?_, ext_setDec hx (Nat.le_refl _) _ _⟩
              · obtain ⟨e0, e1⟩ := (h2.stored N' s').cells
                change (results Tryd.f23 _).run Tryd.prog (setDec w2 w.heap.size N' s') = .ok _ (setDec w2 w.heap.size N' s')
                generalize setDec w2 w.heap.size N' s' = W' at *
                simp [results, Tryd.results23, go_sem, e0, e1, decV]
              · unfold decMv decSv
                rw [hok.out, ← hst.out]; rfl
            · go_wp2_with fail
              refine bodyPost_ret (v := .tuple #[decV (-(N' : Int)) s', .bool true]) ?_ rfl ⟨?_, ext_setDec hx (Nat.le_refl _) _ _⟩
              · obtain ⟨e0, e1⟩ := (h2.stored (-(N' : Int)) s').cells
                change (results Tryd.f23 _).run Tryd.prog (setDec w2 w.heap.size (-(N' : Int)) s') = .ok _ (setDec w2 w.heap.size (-(N' : Int)) s')
                generalize setDec w2 w.heap.size (-(N' : Int)) s' = W' at *
                simp [results, Tryd.results23, go_sem, e0, e1, decV]
              · unfold decMv decSv
                rw [hok.out, ← hst.out]; rfl
          · exfalso; omega
        · rw [if_neg hm, decide_eq_false hm] at C2
          have hok : Hid (decOk N s = false) := Lib.hid (by unfold decOk; rw [← hst.out]; exact decide_eq_false (by simp only []; omega))
          go_wp2_with fail
          refine (C2 _ hv').mono ?_
          rintro e w2 ⟨rfl, x2⟩
          replace h2 := h2.ext x2
          replace hx := hx.trans x2
          obtain ⟨d0, d1⟩ := h2.cells
          obtain ⟨f0, f1⟩ := h2.free
          go_wp2_with fail
          refine bodyPost_ret (v := .tuple #[decV 0 0, .bool false]) ?_ rfl ⟨?_, ext_setDec hx (Nat.le_refl _) _ _⟩
          · obtain ⟨e0, e1⟩ := (h2.stored 0 0).cells
            change (results Tryd.f23 _).run Tryd.prog (setDec w2 w.heap.size 0 0) = .ok _ (setDec w2 w.heap.size 0 0)
            generalize setDec w2 w.heap.size 0 0 = W' at *
            simp [results, Tryd.results23, go_sem, e0, e1, decV]
          · unfold decMv decSv
            rw [hok.out]; rfl

set_option maxHeartbeats 2000000 in
set_option maxRecDepth 100000 in
theorem Norm_any (m : Int) (s : Nat) (w : World) (hm : I64 m) (hs : s < 1000) :
    Calls Tryd.prog 12 #[.int .i64 m, .int .i64 s] w fun e w' => e = .returned (.tuple #[decV (decMv (decide (m < 0)) m.natAbs s) (decSv m.natAbs s), .bool (decOk m.natAbs s)]) ∧ Ext w w' := by
  have hlen : (digs m.natAbs).length ≤ 19 := digs_length (by unfold I64 at hm; have : (9223372036854775808 : Nat) < 10 ^ 19 := by decide
                                                             omega)
  have C1 := fun w => amount_any m w hm
  have C2 : ∀ v w, DigV v (digs m.natAbs) w → Calls Tryd.prog 23 #[.bool (decide (m < 0)), v, .int .i64 s] w fun e w' => e = .returned (.tuple #[.agg #[.int .i64 (decMv (decide (m < 0)) m.natAbs s), .int .i64 (decSv m.natAbs s)], .bool (decOk m.natAbs s)]) ∧ Ext w w' := fun v w h => decimal_any (decide (m < 0)) m.natAbs s v (digs m.natAbs) w h (trimD_digs _) hs (by omega) (by omega)
  generalize decMv (decide (m < 0)) m.natAbs s = R1 at *
  generalize decSv m.natAbs s = R2 at *
  generalize decOk m.natAbs s = R3 at *
  generalize digs m.natAbs = l at *
  have hx : Ext w (w.alloc (.cells #[.int .i64 0, .int .i64 0] 23)) := (Ext.refl _).alloc _
  have h2 : DecIn w.heap.size 0 0 (w.alloc (.cells #[.int .i64 0, .int .i64 0] 23)) := heap_last _ _
  go_enter Tryd.func12, Tryd.ntmps12
  go_wp2_with fail
  refine (C1 _).mono ?_
  rintro e w1 ⟨⟨v, rfl, hv⟩, x1⟩
  go_wp2_with fail
  refine (C2 _ _ hv).mono ?_
  rintro e w2 ⟨rfl, x2⟩
  replace h2 := (h2.ext x1).ext x2
  replace hx := (hx.trans x1).trans x2
  obtain ⟨d0, d1⟩ := h2.cells
  obtain ⟨f0, f1⟩ := h2.free
  go_wp2_with fail
  refine bodyPost_ret (v := .tuple #[decV R1 R2, .bool R3]) ?_ rfl ⟨rfl, ext_setDec hx (Nat.le_refl _) _ _⟩
  obtain ⟨e0, e1⟩ := (h2.stored R1 R2).cells
  change (results Tryd.f12 _).run Tryd.prog (setDec w2 w.heap.size R1 R2) = .ok _ (setDec w2 w.heap.size R1 R2)
  generalize setDec w2 w.heap.size R1 R2 = W' at *
  simp [results, Tryd.results12, go_sem, e0, e1, decV]

/-- The statement's decimal of a number and its digits behind the point. -/
def dotM (m : Int) (s : Nat) : Int := decMv (decide (m < 0)) m.natAbs s
def dotS (m : Int) (s : Nat) : Int := decSv m.natAbs s

end Go.Proofs.YtiancppdcfahaaaDoor
